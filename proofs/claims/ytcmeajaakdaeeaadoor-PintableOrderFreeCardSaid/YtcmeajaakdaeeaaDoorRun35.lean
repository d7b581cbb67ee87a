/-
  Texts in one: Tab, PinDec.
-/
import Derived.Test.YtcmeajaakdaeeaaDoorRun33
import Derived.Test.YtcmeajaakdaeeaaDoorRun34
/-
  The table of pins in memory: New, Len, Capacity, Pins.
-/
namespace Go.Proofs.YtcmeajaakdaeeaaDoor
open Go.RowKit

/-- The block g holds a table with the pins L; its pins lie in a block of their own from B on. -/
def TabW (B : Nat) (w : World) (g : Nat) (v : Value) (L : List Pin) (cap : Int) : Prop :=
  w.heap[g]? = some (.cells #[v, .int .i64 cap] 71 (0, 0)) ∧ OwnN B w v L ∧ B ≤ g ∧ v.ownBlock ≠ some g
theorem TabW.lt {B : Nat} {w : World} {g : Nat} {v : Value} {L : List Pin} {cap : Int} (h : TabW B w g v L cap) : g < w.heap.size := heap_lt h.1
theorem TabW.cells {B : Nat} {w : World} {g : Nat} {v : Value} {L : List Pin} {cap : Int} (h : TabW B w g v L cap) : w.cell? ⟨g, 0, none⟩ = some v ∧ w.cell? ⟨g, 1, none⟩ = some (.int .i64 cap) :=
  ⟨(cell_of_row _ _ _ _ _ _ h.1).trans rfl, (cell_of_row _ _ _ _ _ _ h.1).trans rfl⟩
theorem TabW.free {B : Nat} {w : World} {g : Nat} {v : Value} {L : List Pin} {cap : Int} (h : TabW B w g v L cap) (k : Nat) : w.frozen? ⟨g, k, none⟩ = false := frozen_of_row _ _ _ _ _ h.1
theorem TabW.ext {B : Nat} {w w' : World} {g : Nat} {v : Value} {L : List Pin} {cap : Int} (h : TabW B w g v L cap) (e : Below w.heap.size w w') : TabW B w' g v L cap :=
  ⟨(e.block _ h.lt).trans h.1, h.2.1.ext e, h.2.2.1, h.2.2.2⟩
theorem TabW.set {B : Nat} {w : World} {g : Nat} {v v' : Value} {L L' : List Pin} {cap : Int} (h : TabW B w g v L cap) (ho : OwnN B w v' L') (hne : v'.ownBlock ≠ some g) : TabW B (w.setCell ⟨g, 0, none⟩ v') g v' L' cap :=
  ⟨heap_setCell_same w g 0 _ _ v' h.1, ho.stay (fun k hk => heap_setCell_other _ _ _ _ (fun e => hne (by rw [hk]; exact congrArg some e))), h.2.2.1, hne⟩

/-- What New returns. -/
def NewP (cap : Int) (w : World) (e : Ending) (w' : World) : Prop :=
  if cap < 1 ∨ 1000 < cap then e = .returned (.tuple #[.pointer none, .int .i64 2]) ∧ w' = w
  else e = .returned (.tuple #[.pointer (some ⟨w.heap.size, 0, none⟩), .int .i64 0]) ∧ w' = w.alloc (.cells #[.slice none 0 0, .int .i64 cap] 71)

set_option maxRecDepth 100000 in
theorem tb_new (cap : Int) (w : World) : Calls Tryd.prog 26 #[.int .i64 cap] w (NewP cap w) := by
  by_cases h1 : cap < 1
  · go_enter Tryd.func26, Tryd.ntmps26
    go_wp2_with fail
    go_ret2
    unfold NewP; rw [if_pos (.inl h1)]; exact ⟨rfl, rfl⟩
  · by_cases h2 : 1000 < cap
    · go_enter Tryd.func26, Tryd.ntmps26
      go_wp2_with fail
      go_ret2
      unfold NewP; rw [if_pos (.inr h2)]; exact ⟨rfl, rfl⟩
    · go_enter Tryd.func26, Tryd.ntmps26
      go_wp2_with fail
      go_ret2
      unfold NewP; rw [if_neg (by omega)]; exact ⟨rfl, rfl⟩

theorem TabW.new (w : World) (cap : Int) {B : Nat} (hB : B ≤ w.heap.size) : TabW B (w.alloc (.cells #[.slice none 0 0, .int .i64 cap] 71)) w.heap.size (.slice none 0 0) [] cap :=
  ⟨heap_alloc_eq _ _ _ rfl, OwnN.nil _ _, hB, by simp [Value.ownBlock]⟩

set_option maxRecDepth 100000 in
theorem tb_len {B : Nat} {w : World} {g : Nat} {v : Value} {L : List Pin} {cap : Int} (h : TabW B w g v L cap) :
    Calls Tryd.prog 33 #[.pointer (some ⟨g, 0, none⟩)] w fun e w' => e = .returned (.int .i64 (L.length : Nat)) ∧ w' = w := by
  obtain ⟨c0, -⟩ := h.cells
  have hlt := h.lt
  obtain ⟨a, c, rfl, hs, -⟩ := h.2.1.sl
  go_enter Tryd.func33, Tryd.ntmps33
  go_wp2_with fail
  go_ret
  exact ⟨rfl, rfl⟩

set_option maxRecDepth 100000 in
theorem tb_cap {B : Nat} {w : World} {g : Nat} {v : Value} {L : List Pin} {cap : Int} (h : TabW B w g v L cap) :
    Calls Tryd.prog 53 #[.pointer (some ⟨g, 0, none⟩)] w fun e w' => e = .returned (.int .i64 cap) ∧ w' = w := by
  obtain ⟨-, c1⟩ := h.cells
  have hlt := h.lt
  go_enter Tryd.func53, Tryd.ntmps53
  go_wp2_with fail
  go_ret
  exact ⟨rfl, rfl⟩

set_option maxRecDepth 100000 in
theorem tb_pins {B : Nat} {w : World} {g : Nat} {v : Value} {L : List Pin} {cap : Int} (h : TabW B w g v L cap) (hn : L.length ≤ 1000000) :
    Calls Tryd.prog 31 #[.pointer (some ⟨g, 0, none⟩)] w fun e w' => ∃ v', e = .returned v' ∧ OwnN w.heap.size w' v' L ∧ Below w.heap.size w w' := by
  obtain ⟨c0, -⟩ := h.cells
  have hlt := h.lt
  obtain ⟨a, c, rfl, hs, -⟩ := h.2.1.sl
  have HC := Lib.hid (sl_clone_pins a L.length c L w hs hn)
  go_enter Tryd.func31, Tryd.ntmps31
  go_wp2_with fail
  refine HC.out.mono ?_; rintro e w1 ⟨v', rfl, ho, hb⟩
  go_wp2_with fail
  go_ret
  exact ⟨v', rfl, ho, hb⟩

end Go.Proofs.YtcmeajaakdaeeaaDoor

/-
  The walk through pin.Decode.
-/
namespace Go.Proofs.YtcmeajaakdaeeaaDoor
open Go.RowKit

theorem set3 {w : World} {B : Nat} {x y z : Value} {t : TypeId} (hb : w.heap[B]? = some (.cells #[x, y, z] t (0, 0))) (a b c : Value) :
    (((w.setCell ⟨B, 0, none⟩ a).setCell ⟨B, 1, none⟩ b).setCell ⟨B, 2, none⟩ c).heap[B]? = some (.cells #[a, b, c] t (0, 0)) :=
  heap_setCell_same _ B 2 _ t c (heap_setCell_same _ B 1 _ t b (heap_setCell_same w B 0 _ t a hb))

set_option maxRecDepth 100000 in
set_option maxHeartbeats 8000000 in
theorem pi_decode (a : Option Addr) (n c : Nat) (b : List UInt8) (w : World) (h : SlB w a n c b) (hn : n ≤ 1000000) :
    Calls Tryd.prog 13 #[.slice a n c] w (PDecP b w) := by
  have hb0 := (Below.refl w.heap.size w).alloc (Nat.le_refl _) (.cells #[.string ⟨#[]⟩, .bool false, .int .i64 0] 23)
  have hz0 : (w.alloc (.cells #[.string ⟨#[]⟩, .bool false, .int .i64 0] 23)).heap.size = w.heap.size + 1 := by simp
  have HROW := Lib.hid (show (w.alloc (.cells #[.string ⟨#[]⟩, .bool false, .int .i64 0] 23)).heap[w.heap.size]? = some (.cells #[.string ⟨#[]⟩, .bool false, .int .i64 0] 23 (0, 0)) from heap_alloc_eq _ _ _ rfl)
  have hsb := h.ext ((Below.refl w.heap.size w).alloc (Nat.le_refl _) (.cells #[.string ⟨#[]⟩, .bool false, .int .i64 0] 23))
  have HB0 := Lib.hid hb0
  have HZ0 := Lib.hid hz0
  have hT := wi_text a n c b _ hsb hn
  have hln := h.len
  obtain ⟨t, n1, z1, h1⟩ : ∃ t n1 z1, Wire.decT b = (t, n1, z1) := ⟨_, _, _, rfl⟩
  rw [h1] at hT
  dsimp only at hT
  have HTX := Lib.hid (show ∃ s, str t = s from ⟨_, rfl⟩)
  obtain ⟨st, hst⟩ := HTX.out
  have HSX := Lib.hid hst
  rw [hst] at hT
  have HT := Lib.hid hT
  clear hT hb0 hz0 h
  by_cases e1 : z1 ≠ 0
  · have HR := Lib.hid (Pin.dec_a h1 e1)
    have t1 : (z1 != 0) = true := by simpa using e1
    clear h1 e1 hln hst hsb
    go_enter Tryd.func13, Tryd.ntmps13
    go_wp2_with fail
    refine HT.out.mono ?_; rintro e w1 ⟨rfl, rfl⟩
    go_wp2_with fail
    refine bodyPost_ret (v := .tuple #[.agg #[.string ⟨#[]⟩, .bool false, .int .i64 0], .int .i64 (0 : Nat), .int .i64 z1]) (by simp [results, Tryd.results13, go_sem]) rfl (PDecP.of HR.out rfl ?_)
    exact HB0.out
  obtain rfl : z1 = 0 := by simpa using e1
  obtain ⟨-, q1, q2, q3, q4⟩ := Wire.txt_decT h1
  rw [hln] at q1
  have hn1 : n1 ≤ n := q1
  have hl1 : (b.drop n1).length = n - n1 := by rw [List.length_drop, hln]
  obtain ⟨v2, n2, z2, h2⟩ : ∃ v2 n2 z2, Wire.dec (b.drop n1) = (v2, n2, z2) := ⟨_, _, _, rfl⟩
  have hU1 : ∀ a2 c2 W, SlB W a2 (n - n1) c2 (b.drop n1) → Calls Tryd.prog 41 #[.slice a2 (n - n1) c2] W fun e w' => e = .returned (.tuple #[.int .u64 (v2 : Nat), .int .i64 (n2 : Nat), .int .i64 z2]) ∧ W = w' := by
    intro a2 c2 W hs
    have := wi_uint a2 (n - n1) c2 (b.drop n1) W hs (by omega)
    rw [h2] at this; exact this
  have HU1 := Lib.hid hU1
  have m1 : (0 : Int) ≤ (n1 : Int) := by omega
  have m2 : (n1 : Int) ≤ (n : Int) := by omega
  clear hU1
  by_cases e2 : z2 ≠ 0
  · have HR := Lib.hid (Pin.dec_b h1 h2 e2)
    have t2 : (z2 != 0) = true := by simpa using e2
    have k0 : (n2 : Int) ≤ 1000000 := by
      have := h2
      unfold Wire.dec at this
      split at this
      · cases this; decide
      · split at this
        · cases this; decide
        · split at this
          · cases this; decide
          · split at this
            · cases this; decide
            · cases this; exact absurd rfl e2
    have k1 : (0 : Int) ≤ (n2 : Int) := by omega
    clear h1 h2 e1 e2 hln hst hl1
    go_enter Tryd.func13, Tryd.ntmps13
    go_wp2_with fail
    refine HT.out.mono ?_; rintro e w1 ⟨rfl, rfl⟩
    go_wp2_with (refine wpList_from rfl _ _ rfl rfl n1 _ rfl rfl hsb hn1 ?_; intro a2 hsa2)
    refine (HU1.out _ _ _ hsa2).mono ?_; rintro e w2 ⟨rfl, rfl⟩
    go_wp2_with fail
    refine bodyPost_ret (v := .tuple #[.agg #[.string ⟨#[]⟩, .bool false, .int .i64 0], .int .i64 (0 : Nat), .int .i64 z2]) (by simp [results, Tryd.results13, go_sem]) rfl (PDecP.of HR.out rfl ?_)
    exact HB0.out
  obtain rfl : z2 = 0 := by simpa using e2
  obtain ⟨-, r1, r2, r3, r4⟩ := Wire.enc_dec h2
  rw [hl1] at r1
  have hn12 : n1 + n2 ≤ n := by omega
  have m3 : (0 : Int) ≤ (n2 : Int) := by omega
  have m4 : (n1 : Int) + (n2 : Int) ≤ (n : Int) := by omega
  by_cases e3 : 1 < v2
  · have HR := Lib.hid (Pin.dec_c h1 h2 e3)
    have t3 : (1 : Int) < (v2 : Int) := by omega
    clear h1 h2 e1 e2 hln hst hl1
    go_enter Tryd.func13, Tryd.ntmps13
    go_wp2_with fail
    refine HT.out.mono ?_; rintro e w1 ⟨rfl, rfl⟩
    go_wp2_with (refine wpList_from rfl _ _ rfl rfl n1 _ rfl rfl hsb hn1 ?_; intro a2 hsa2)
    refine (HU1.out _ _ _ hsa2).mono ?_; rintro e w2 ⟨rfl, rfl⟩
    go_wp2_with fail
    refine bodyPost_ret (v := .tuple #[.agg #[.string ⟨#[]⟩, .bool false, .int .i64 0], .int .i64 (0 : Nat), .int .i64 6]) (by simp [results, Tryd.results13, go_sem]) rfl (PDecP.of HR.out rfl ?_)
    exact HB0.out
  have t3 : ¬ (1 : Int) < (v2 : Int) := by omega
  have hl2 : (b.drop (n1 + n2)).length = n - (n1 + n2) := by rw [List.length_drop, hln]
  obtain ⟨v3, n3, z3, h3⟩ : ∃ v3 n3 z3, Wire.dec (b.drop (n1 + n2)) = (v3, n3, z3) := ⟨_, _, _, rfl⟩
  have hU2 : ∀ a2 c2 W, SlB W a2 (n - (n1 + n2)) c2 (b.drop (n1 + n2)) → Calls Tryd.prog 41 #[.slice a2 (n - (n1 + n2)) c2] W fun e w' => e = .returned (.tuple #[.int .u64 (v3 : Nat), .int .i64 (n3 : Nat), .int .i64 z3]) ∧ W = w' := by
    intro a2 c2 W hs
    have := wi_uint a2 (n - (n1 + n2)) c2 (b.drop (n1 + n2)) W hs (by omega)
    rw [h3] at this; exact this
  have HU2 := Lib.hid hU2
  clear hU2
  by_cases e4 : z3 ≠ 0
  · have HR := Lib.hid (Pin.dec_d h1 h2 e3 h3 e4)
    have t4 : (z3 != 0) = true := by simpa using e4
    clear h1 h2 h3 e1 e2 e4 hln hst hl1 hl2
    go_enter Tryd.func13, Tryd.ntmps13
    go_wp2_with fail
    refine HT.out.mono ?_; rintro e w1 ⟨rfl, rfl⟩
    go_wp2_with (refine wpList_from rfl _ _ rfl rfl n1 _ rfl rfl hsb hn1 ?_; intro a2 hsa2)
    refine (HU1.out _ _ _ hsa2).mono ?_; rintro e w2 ⟨rfl, rfl⟩
    go_wp2_with (refine wpList_from rfl _ _ rfl rfl (n1 + n2) _ (by omega) rfl hsb hn12 ?_; intro a3 hsa3)
    refine (HU2.out _ _ _ hsa3).mono ?_; rintro e w3 ⟨rfl, rfl⟩
    go_wp2_with fail
    refine bodyPost_ret (v := .tuple #[.agg #[.string ⟨#[]⟩, .bool false, .int .i64 0], .int .i64 (0 : Nat), .int .i64 z3]) (by simp [results, Tryd.results13, go_sem]) rfl (PDecP.of HR.out rfl ?_)
    exact HB0.out
  obtain rfl : z3 = 0 := by simpa using e4
  obtain ⟨-, s1, s2, s3, s4⟩ := Wire.enc_dec h3
  rw [hl2] at s1
  have m5 : (0 : Int) ≤ (n3 : Int) := by omega
  have m6 : (n1 : Int) + (n2 : Int) + (n3 : Int) ≤ (n : Int) := by omega
  by_cases e5 : 1099511627776 < v3
  · have HR := Lib.hid (Pin.dec_e h1 h2 e3 h3 e5)
    have t5 : (1099511627776 : Int) < (v3 : Int) := by omega
    clear h1 h2 h3 e1 e2 e4 hln hst hl1 hl2
    go_enter Tryd.func13, Tryd.ntmps13
    go_wp2_with fail
    refine HT.out.mono ?_; rintro e w1 ⟨rfl, rfl⟩
    go_wp2_with (refine wpList_from rfl _ _ rfl rfl n1 _ rfl rfl hsb hn1 ?_; intro a2 hsa2)
    refine (HU1.out _ _ _ hsa2).mono ?_; rintro e w2 ⟨rfl, rfl⟩
    go_wp2_with (refine wpList_from rfl _ _ rfl rfl (n1 + n2) _ (by omega) rfl hsb hn12 ?_; intro a3 hsa3)
    refine (HU2.out _ _ _ hsa3).mono ?_; rintro e w3 ⟨rfl, rfl⟩
    go_wp2_with fail
    refine bodyPost_ret (v := .tuple #[.agg #[.string ⟨#[]⟩, .bool false, .int .i64 0], .int .i64 (0 : Nat), .int .i64 2]) (by simp [results, Tryd.results13, go_sem]) rfl (PDecP.of HR.out rfl ?_)
    exact HB0.out
  have t5 : ¬ (1099511627776 : Int) < (v3 : Int) := by omega
  have hV := fun W => ho_validName t (by omega) W
  rw [hst] at hV
  obtain ⟨nb, hnb⟩ : ∃ b, Host.name t = b := ⟨_, rfl⟩
  rw [hnb] at hV
  have HV := Lib.hid hV
  clear hV
  cases nb with
  | false =>
    have HR := Lib.hid (Pin.dec_f h1 h2 e3 h3 e5 hnb)
    clear h1 h2 h3 e1 e2 e4 hln hst hl1 hl2 hnb
    go_enter Tryd.func13, Tryd.ntmps13
    go_wp2_with fail
    refine HT.out.mono ?_; rintro e w1 ⟨rfl, rfl⟩
    go_wp2_with (refine wpList_from rfl _ _ rfl rfl n1 _ rfl rfl hsb hn1 ?_; intro a2 hsa2)
    refine (HU1.out _ _ _ hsa2).mono ?_; rintro e w2 ⟨rfl, rfl⟩
    go_wp2_with (refine wpList_from rfl _ _ rfl rfl (n1 + n2) _ (by omega) rfl hsb hn12 ?_; intro a3 hsa3)
    refine (HU2.out _ _ _ hsa3).mono ?_; rintro e w3 ⟨rfl, rfl⟩
    go_wp2_with fail
    refine (HV.out _).mono ?_; rintro e w4 ⟨rfl, hB4⟩
    rw [HZ0.out] at hB4
    have hbk : w4.heap[w.heap.size]? = some (.cells #[.string ⟨#[]⟩, .bool false, .int .i64 0] 23 (0, 0)) := (hB4.block _ (Nat.lt_succ_self _)).trans HROW.out
    have c0 : w4.cell? ⟨w.heap.size, 0, none⟩ = some (.string ⟨#[]⟩) := (cell_of_row _ _ _ _ _ _ hbk).trans rfl
    have c1 : w4.cell? ⟨w.heap.size, 1, none⟩ = some (.bool false) := (cell_of_row _ _ _ _ _ _ hbk).trans rfl
    have c2 : w4.cell? ⟨w.heap.size, 2, none⟩ = some (.int .i64 0) := (cell_of_row _ _ _ _ _ _ hbk).trans rfl
    have f0 : ∀ k, w4.frozen? ⟨w.heap.size, k, none⟩ = false := fun k => frozen_of_row _ _ _ _ _ hbk
    have hlt4 : w.heap.size < w4.heap.size := heap_lt hbk
    go_wp2_with fail
    have hfin := set3 hbk (.string ⟨#[]⟩) (.bool false) (.int .i64 0)
    have d0 := (cell_of_row _ _ 0 _ _ _ hfin).trans rfl
    have d1 := (cell_of_row _ _ 1 _ _ _ hfin).trans rfl
    have d2 := (cell_of_row _ _ 2 _ _ _ hfin).trans rfl
    have hbel := (((HB0.out.trans (hB4.mono (Nat.le_succ _))).setCell (p := ⟨w.heap.size, 0, none⟩) (Nat.le_refl _) (.string ⟨#[]⟩)).setCell (p := ⟨w.heap.size, 1, none⟩) (Nat.le_refl _) (.bool false)).setCell (p := ⟨w.heap.size, 2, none⟩) (Nat.le_refl _) (.int .i64 0)
    refine bodyPost_ret (v := .tuple #[.agg #[.string ⟨#[]⟩, .bool false, .int .i64 0], .int .i64 (0 : Nat), .int .i64 14]) (by simp [results, Tryd.results13, go_sem, d0, d1, d2]) rfl (PDecP.of HR.out rfl ?_)
    exact hbel
  | true =>
    have HR := Lib.hid (Pin.dec_g h1 h2 e3 h3 e5 hnb)
    have wv : IntKind.i64.wrap (v3 : Int) = (v3 : Int) := by rw [IntKind.wrap_i64]; omega
    clear h1 h2 h3 e1 e2 e4 hln hl1 hl2 hnb hst
    go_enter Tryd.func13, Tryd.ntmps13
    go_wp2_with fail
    refine HT.out.mono ?_; rintro e w1 ⟨rfl, rfl⟩
    go_wp2_with (refine wpList_from rfl _ _ rfl rfl n1 _ rfl rfl hsb hn1 ?_; intro a2 hsa2)
    refine (HU1.out _ _ _ hsa2).mono ?_; rintro e w2 ⟨rfl, rfl⟩
    go_wp2_with (refine wpList_from rfl _ _ rfl rfl (n1 + n2) _ (by omega) rfl hsb hn12 ?_; intro a3 hsa3)
    refine (HU2.out _ _ _ hsa3).mono ?_; rintro e w3 ⟨rfl, rfl⟩
    go_wp2_with fail
    refine (HV.out _).mono ?_; rintro e w4 ⟨rfl, hB4⟩
    rw [HZ0.out] at hB4
    have hbk : w4.heap[w.heap.size]? = some (.cells #[.string ⟨#[]⟩, .bool false, .int .i64 0] 23 (0, 0)) := (hB4.block _ (Nat.lt_succ_self _)).trans HROW.out
    have c0 : w4.cell? ⟨w.heap.size, 0, none⟩ = some (.string ⟨#[]⟩) := (cell_of_row _ _ _ _ _ _ hbk).trans rfl
    have c1 : w4.cell? ⟨w.heap.size, 1, none⟩ = some (.bool false) := (cell_of_row _ _ _ _ _ _ hbk).trans rfl
    have c2 : w4.cell? ⟨w.heap.size, 2, none⟩ = some (.int .i64 0) := (cell_of_row _ _ _ _ _ _ hbk).trans rfl
    have f0 : ∀ k, w4.frozen? ⟨w.heap.size, k, none⟩ = false := fun k => frozen_of_row _ _ _ _ _ hbk
    have hlt4 : w.heap.size < w4.heap.size := heap_lt hbk
    go_wp2_with fail
    have hfin := set3 hbk (.string st) (.bool ((v2 : Int) == 1)) (.int .i64 (v3 : Int))
    have d0 := (cell_of_row _ _ 0 _ _ _ hfin).trans rfl
    have d1 := (cell_of_row _ _ 1 _ _ _ hfin).trans rfl
    have d2 := (cell_of_row _ _ 2 _ _ _ hfin).trans rfl
    have hbel := (((HB0.out.trans (hB4.mono (Nat.le_succ _))).setCell (p := ⟨w.heap.size, 0, none⟩) (Nat.le_refl _) (.string st)).setCell (p := ⟨w.heap.size, 1, none⟩) (Nat.le_refl _) (.bool ((v2 : Int) == 1))).setCell (p := ⟨w.heap.size, 2, none⟩) (Nat.le_refl _) (.int .i64 (v3 : Int))
    have eb : decide (v2 = 1) = ((v2 : Int) == 1) := by rw [show ((v2 : Int) == 1) = decide ((v2 : Int) = 1) from rfl]; apply decide_eq_decide.2; omega
    refine bodyPost_ret (v := .tuple #[.agg (pc ⟨t, decide (v2 = 1), (v3 : Int)⟩), .int .i64 ((n1 + n2 + n3) : Nat), .int .i64 0]) (by unfold pc; simp [results, Tryd.results13, go_sem, d0, d1, d2, HSX.out, eb]) rfl (PDecP.of HR.out rfl ?_)
    exact hbel

end Go.Proofs.YtcmeajaakdaeeaaDoor
