/-
  Texts in one: PinR, PinRD, PinL3, Upt, RTab, UptFind, UptEnc.
-/
import Derived.Test.YtjfflnnepndlkaaDoorRun25
import Derived.Test.YtjfflnnepndlkaaDoorRun6
import Derived.Test.YtjfflnnepndlkaaDoorRun1
import Derived.Test.YtjfflnnepndlkaaDoorRun5
import Derived.Test.YtjfflnnepndlkaaDoorRun23
import Derived.Test.YtjfflnnepndlkaaDoorRun24
/-
  The walks through the reference's Valid, Encode and Decode.
-/
namespace Go.Proofs.YtjfflnnepndlkaaDoor
open Go.RowKit

set_option maxRecDepth 100000 in
set_option maxHeartbeats 2000000 in
theorem rp_valid (p : Pin) (hp : p.h.length ≤ 1000000) (w : World) :
    Calls Tryd.prog 59 #[pv p] w fun e w' => e = .returned (.bool (Pin.valid p)) ∧ Below w.heap.size w w' := by
  have HV := Lib.hid (fun W => hr_validName p.h hp W)
  have hb0 := (Below.refl w.heap.size w).alloc (Nat.le_refl _) (.cells (pc p) 26)
  have hrow : (w.alloc (.cells (pc p) 26)).heap[w.heap.size]? = some (.cells (pc p) 26 (0, 0)) := heap_alloc_eq _ _ _ rfl
  have hz0 : (w.alloc (.cells (pc p) 26)).heap.size = w.heap.size + 1 := by simp
  have HPV := Lib.hid (fun b (h : Host.name p.h = b) => Pin.valid_of h)
  obtain ⟨ph, ps, px⟩ := p
  unfold pv
  unfold pc at hb0 hrow hz0
  simp only at HV hb0 hrow hz0 HPV ⊢
  obtain ⟨nb, hnb⟩ : ∃ b, Host.name ph = b := ⟨_, rfl⟩
  rw [hnb] at HV
  have HPV2 := Lib.hid (HPV.out _ hnb)
  clear HPV hnb
  obtain ⟨sh, hsh⟩ : ∃ s, str ph = s := ⟨_, rfl⟩
  rw [hsh] at HV hb0 hrow hz0 ⊢
  have HB0 := Lib.hid (And.intro hb0 (And.intro hrow hz0))
  clear hsh hb0 hrow hz0
  cases nb with
  | false =>
    go_enter Tryd.func59, Tryd.ntmps59
    go_wp2_with fail
    refine (HV.out _).mono ?_; rintro e w1 ⟨rfl, hB1⟩
    rw [HB0.out.2.2] at hB1
    go_wp2_with fail
    go_ret
    exact ⟨by rw [HPV2.out]; rfl, HB0.out.1.trans (hB1.mono (Nat.le_succ _))⟩
  | true =>
    by_cases h0 : px < 0
    · have HF := Lib.hid (show Pin.valid ⟨ph, ps, px⟩ = false by rw [HPV2.out, decide_eq_false (show ¬ 0 ≤ px by omega)]; rfl)
      have t1 : ¬ 0 ≤ px := by omega
      go_enter Tryd.func59, Tryd.ntmps59
      go_wp2_with fail
      refine (HV.out _).mono ?_; rintro e w1 ⟨rfl, hB1⟩
      rw [HB0.out.2.2] at hB1
      have c2 : w1.cell? ⟨w.heap.size, 2, none⟩ = some (.int .i64 px) := (hB1.cell (p := ⟨w.heap.size, 2, none⟩) (Nat.lt_succ_self _)).trans ((cell_of_row _ _ _ _ _ _ HB0.out.2.1).trans rfl)
      go_wp2_with fail
      go_ret
      exact ⟨by rw [HF.out]; rfl, HB0.out.1.trans (hB1.mono (Nat.le_succ _))⟩
    · have t1 : 0 ≤ px := by omega
      have HF := Lib.hid (show Pin.valid ⟨ph, ps, px⟩ = decide (px ≤ 1099511627776) by rw [HPV2.out, decide_eq_true t1]; rfl)
      go_enter Tryd.func59, Tryd.ntmps59
      go_wp2_with fail
      refine (HV.out _).mono ?_; rintro e w1 ⟨rfl, hB1⟩
      rw [HB0.out.2.2] at hB1
      have c2 : w1.cell? ⟨w.heap.size, 2, none⟩ = some (.int .i64 px) := (hB1.cell (p := ⟨w.heap.size, 2, none⟩) (Nat.lt_succ_self _)).trans ((cell_of_row _ _ _ _ _ _ HB0.out.2.1).trans rfl)
      go_wp2_with fail
      go_ret
      exact ⟨by rw [HF.out]; rfl, HB0.out.1.trans (hB1.mono (Nat.le_succ _))⟩

set_option maxRecDepth 100000 in
set_option maxHeartbeats 4000000 in
theorem rp_encode (p : Pin) (hp : p.h.length ≤ 900) (w : World) :
    Calls Tryd.prog 41 #[pv p] w (PEncP p w) := by
  have HV := Lib.hid (fun W => rp_valid p (by omega) W)
  have hb0 := (Below.refl w.heap.size w).alloc (Nat.le_refl _) (.cells (pc p) 26)
  have hrow : (w.alloc (.cells (pc p) 26)).heap[w.heap.size]? = some (.cells (pc p) 26 (0, 0)) := heap_alloc_eq _ _ _ rfl
  have hz0 : (w.alloc (.cells (pc p) 26)).heap.size = w.heap.size + 1 := by simp
  have HVI := Lib.hid ((Pin.valid_iff p).1)
  have HTX := Lib.hid (fun W => rw_text p.h (by omega) W)
  have HEN := Lib.hid (show Pin.enc p = Wire.txt p.h ++ (Wire.enc (if p.s then 1 else 0) ++ Wire.enc p.x.toNat) from rfl)
  have HTL := Lib.hid (show (Wire.txt p.h).length ≤ 1000 by
    have := Wire.enc_len (v := p.h.length) (by omega); unfold Wire.txt; rw [List.length_append]; omega)
  unfold PEncP
  obtain ⟨ok, hok⟩ : ∃ b, Pin.valid p = b := ⟨_, rfl⟩
  rw [hok] at HV HVI ⊢
  clear hok
  obtain ⟨ph, ps, px⟩ := p
  unfold pv at HV ⊢
  unfold pc at hb0 hrow hz0
  simp only at HV hb0 hrow hz0 HVI HTX HEN HTL ⊢
  obtain ⟨sh, hsh⟩ : ∃ s, str ph = s := ⟨_, rfl⟩
  rw [hsh] at HV hb0 hrow hz0 HTX ⊢
  have HB0 := Lib.hid (And.intro hb0 (And.intro hrow hz0))
  clear hsh hb0 hrow hz0
  cases ok with
  | false =>
    go_enter Tryd.func41, Tryd.ntmps41
    go_wp2_with fail
    refine (HV.out _).mono ?_; rintro e w1 ⟨rfl, hB1⟩
    rw [HB0.out.2.2] at hB1
    go_wp2_with fail
    go_ret2
    exact ⟨_, rfl, OwnB.nil _ _, HB0.out.1.trans (hB1.mono (Nat.le_succ _))⟩
  | true =>
    obtain ⟨-, x0, x1⟩ := HVI.out rfl
    obtain ⟨xn, rfl⟩ : ∃ n : Nat, px = (n : Int) := ⟨px.toNat, by omega⟩
    simp only [Int.toNat_natCast] at HEN
    have wx : IntKind.u64.wrap (xn : Int) = (xn : Int) := by unfold IntKind.wrap; simp only [IntKind.bits, IntKind.signed]; simp; omega
    have HU := Lib.hid (fun W => rw_uint xn (by omega) W)
    have HX := Lib.hid (And.intro x0 x1)
    clear x0 x1
    go_enter Tryd.func41, Tryd.ntmps41
    go_wp2_with fail
    refine (HV.out _).mono ?_; rintro e w1 ⟨rfl, hB1⟩
    rw [HB0.out.2.2] at hB1
    have hB01 := HB0.out.1.trans (hB1.mono (Nat.le_succ _))
    have hlt1 : w.heap.size < w1.heap.size := by have := hB1.size; rw [HB0.out.2.2] at this; omega
    have hbk1 : w1.heap[w.heap.size]? = some (.cells #[.string sh, .bool ps, .int .i64 (xn : Int)] 26 (0, 0)) := (hB1.block _ (Nat.lt_succ_self _)).trans HB0.out.2.1
    have HCS := Lib.hid (show ∀ w', Below w1.heap.size w1 w' → w'.cell? ⟨w.heap.size, 0, none⟩ = some (.string sh) ∧ w'.cell? ⟨w.heap.size, 1, none⟩ = some (.bool ps) ∧ w'.cell? ⟨w.heap.size, 2, none⟩ = some (.int .i64 (xn : Int)) by
      intro w' hb
      have hbk := (hb.block _ hlt1).trans hbk1
      exact ⟨(cell_of_row _ _ _ _ _ _ hbk).trans rfl, (cell_of_row _ _ _ _ _ _ hbk).trans rfl, (cell_of_row _ _ _ _ _ _ hbk).trans rfl⟩)
    clear hbk1
    obtain ⟨c0, -, -⟩ := HCS.out w1 (Below.refl _ _)
    go_wp2_with fail
    refine (HTX.out _).mono ?_; rintro e w2 ⟨v2, rfl, hO2, hB2⟩
    obtain ⟨d0, d1, d2⟩ := HCS.out w2 hB2
    have hlt2 : w.heap.size < w2.heap.size := Nat.lt_of_lt_of_le hlt1 hB2.size
    have hB02 := hB01.trans (hB2.mono hB01.size)
    have HSU := Lib.hid (show (Wire.enc xn).length ≤ 10 from (Wire.enc_len (by have := HX.out.2; omega)).2)
    cases ps with
    | true =>
      have HO1 := Lib.hid (fun W t => SlB.oneZ W (1 : Int) 1 rfl t)
      go_wp2_with (first
        | (at_builtin; refine wpList_append_bytes rfl _ _ rfl w1.heap.size _ (Wire.txt ph) rfl (hO2.alloc _) (some ⟨w2.heap.size, 0, none⟩) 1 1 [1] rfl (HO1.out _ _) (by have := HTL.out; omega) (by have := hB2.size; simp; omega) ?_; intro v3 w3 hown hg _; have hgr : Below w1.heap.size w1 w3 := (hB2.alloc hB2.size _).grown hg (by have := hB2.size; simp; omega) (fun g hg => (hO2.lt g hg).1); clear hg; obtain ⟨-, -, f2⟩ := HCS.out w3 hgr; have hlt3 : w.heap.size < w3.heap.size := Nat.lt_of_lt_of_le hlt1 hgr.size)
        | fail)
      refine (HU.out _).mono ?_; rintro e w4 ⟨v4, rfl, hO4, hB4⟩
      have hB14 := hgr.trans (hB4.mono hgr.size)
      obtain ⟨a4, k4, rfl, hs4, -⟩ := hO4.sl
      have HLT := Lib.hid (show (Wire.txt ph ++ [1]).length ≤ 1001 by rw [List.length_append]; have := HTL.out; simpa using this)
      go_wp2_with (at_builtin; refine wpList_append_bytes rfl _ _ rfl w1.heap.size _ (Wire.txt ph ++ [1]) rfl (hown.ext hB4) a4 _ k4 _ rfl hs4 (by have := HLT.out; have := HSU.out; omega) hB14.size ?_; intro v5 w5 hown5 hg _; have hgr5 : Below w1.heap.size w1 w5 := hB14.grown hg hB14.size (fun g hg => (hown.lt g hg).1); clear hg)
      go_wp2_with fail
      go_ret2
      have h9 := hown5.mono hB01.size
      rw [List.append_assoc, show [1] = Wire.enc 1 by decide +kernel] at h9
      have hE := HEN.out
      first | rw [if_pos trivial] at hE | rw [if_neg id] at hE | simp only [if_false, Bool.false_eq_true] at hE
      rw [← hE] at h9
      exact ⟨_, rfl, h9, hB01.trans (hgr5.mono hB01.size)⟩
    | false =>
      have HO1 := Lib.hid (fun W t => SlB.oneZ W (0 : Int) 0 rfl t)
      go_wp2_with (first
        | (at_builtin; refine wpList_append_bytes rfl _ _ rfl w1.heap.size _ (Wire.txt ph) rfl (hO2.alloc _) (some ⟨w2.heap.size, 0, none⟩) 1 1 [0] rfl (HO1.out _ _) (by have := HTL.out; omega) (by have := hB2.size; simp; omega) ?_; intro v3 w3 hown hg _; have hgr : Below w1.heap.size w1 w3 := (hB2.alloc hB2.size _).grown hg (by have := hB2.size; simp; omega) (fun g hg => (hO2.lt g hg).1); clear hg; obtain ⟨-, -, f2⟩ := HCS.out w3 hgr; have hlt3 : w.heap.size < w3.heap.size := Nat.lt_of_lt_of_le hlt1 hgr.size)
        | fail)
      refine (HU.out _).mono ?_; rintro e w4 ⟨v4, rfl, hO4, hB4⟩
      have hB14 := hgr.trans (hB4.mono hgr.size)
      obtain ⟨a4, k4, rfl, hs4, -⟩ := hO4.sl
      have HLT := Lib.hid (show (Wire.txt ph ++ [0]).length ≤ 1001 by rw [List.length_append]; have := HTL.out; simpa using this)
      go_wp2_with (at_builtin; refine wpList_append_bytes rfl _ _ rfl w1.heap.size _ (Wire.txt ph ++ [0]) rfl (hown.ext hB4) a4 _ k4 _ rfl hs4 (by have := HLT.out; have := HSU.out; omega) hB14.size ?_; intro v5 w5 hown5 hg _; have hgr5 : Below w1.heap.size w1 w5 := hB14.grown hg hB14.size (fun g hg => (hown.lt g hg).1); clear hg)
      go_wp2_with fail
      go_ret2
      have h9 := hown5.mono hB01.size
      rw [List.append_assoc, show [0] = Wire.enc 0 by decide +kernel] at h9
      have hE := HEN.out
      first | rw [if_pos trivial] at hE | rw [if_neg id] at hE | simp only [if_false, Bool.false_eq_true] at hE
      rw [← hE] at h9
      exact ⟨_, rfl, h9, hB01.trans (hgr5.mono hB01.size)⟩

end Go.Proofs.YtjfflnnepndlkaaDoor

/-
  The walk through the reference's Decode.
-/
namespace Go.Proofs.YtjfflnnepndlkaaDoor
open Go.RowKit

set_option maxRecDepth 100000 in
set_option maxHeartbeats 8000000 in
theorem rp_decode (a : Option Addr) (n c : Nat) (b : List UInt8) (w : World) (h : SlB w a n c b) (hn : n ≤ 1000000) :
    Calls Tryd.prog 46 #[.slice a n c] w (PDecP b w) := by
  have hb0 := (Below.refl w.heap.size w).alloc (Nat.le_refl _) (.cells #[.string ⟨#[]⟩, .bool false, .int .i64 0] 26)
  have hz0 : (w.alloc (.cells #[.string ⟨#[]⟩, .bool false, .int .i64 0] 26)).heap.size = w.heap.size + 1 := by simp
  have HROW := Lib.hid (show (w.alloc (.cells #[.string ⟨#[]⟩, .bool false, .int .i64 0] 26)).heap[w.heap.size]? = some (.cells #[.string ⟨#[]⟩, .bool false, .int .i64 0] 26 (0, 0)) from heap_alloc_eq _ _ _ rfl)
  have hsb := h.ext ((Below.refl w.heap.size w).alloc (Nat.le_refl _) (.cells #[.string ⟨#[]⟩, .bool false, .int .i64 0] 26))
  have HB0 := Lib.hid hb0
  have HZ0 := Lib.hid hz0
  have hT := rw_decText a n c b _ hsb hn
  have hln := h.len
  obtain ⟨t, n1, z1, h1⟩ : ∃ t n1 z1, Wire.decT b = (t, n1, z1) := ⟨_, _, _, rfl⟩
  rw [h1] at hT
  dsimp only at hT
  have HTX := Lib.hid (show ∃ s, str t = s from ⟨_, rfl⟩)
  obtain ⟨st, hst⟩ := HTX.out
  have HSX := Lib.hid hst
  rw [hst] at hT
  have HT := Lib.hid hT
  clear hT hb0 hz0 h
  by_cases e1 : z1 ≠ 0
  · have HR := Lib.hid (Pin.dec_a h1 e1)
    have t1 : (z1 != 0) = true := by simpa using e1
    clear h1 e1 hln hst hsb
    go_enter Tryd.func46, Tryd.ntmps46
    go_wp2_with fail
    refine HT.out.mono ?_; rintro e w1 ⟨rfl, rfl⟩
    go_wp2_with fail
    refine bodyPost_ret (v := .tuple #[.agg #[.string ⟨#[]⟩, .bool false, .int .i64 0], .int .i64 (0 : Nat), .int .i64 z1]) (by simp [results, Tryd.results46, go_sem]) rfl (PDecP.of HR.out rfl ?_)
    exact HB0.out
  obtain rfl : z1 = 0 := by simpa using e1
  obtain ⟨-, q1, q2, q3, q4⟩ := Wire.txt_decT h1
  rw [hln] at q1
  have hn1 : n1 ≤ n := q1
  have hl1 : (b.drop n1).length = n - n1 := by rw [List.length_drop, hln]
  obtain ⟨v2, n2, z2, h2⟩ : ∃ v2 n2 z2, Wire.dec (b.drop n1) = (v2, n2, z2) := ⟨_, _, _, rfl⟩
  have hU1 : ∀ a2 c2 W, SlB W a2 (n - n1) c2 (b.drop n1) → Calls Tryd.prog 45 #[.slice a2 (n - n1) c2] W fun e w' => e = .returned (.tuple #[.int .u64 (v2 : Nat), .int .i64 (n2 : Nat), .int .i64 z2]) ∧ W = w' := by
    intro a2 c2 W hs
    have := rw_decUint a2 (n - n1) c2 (b.drop n1) W hs (by omega)
    rw [h2] at this; exact this
  have HU1 := Lib.hid hU1
  have m1 : (0 : Int) ≤ (n1 : Int) := by omega
  have m2 : (n1 : Int) ≤ (n : Int) := by omega
  clear hU1
  by_cases e2 : z2 ≠ 0
  · have HR := Lib.hid (Pin.dec_b h1 h2 e2)
    have t2 : (z2 != 0) = true := by simpa using e2
    have k0 : (n2 : Int) ≤ 1000000 := by
      have := h2
      unfold Wire.dec at this
      split at this
      · cases this; decide
      · split at this
        · cases this; decide
        · split at this
          · cases this; decide
          · split at this
            · cases this; decide
            · cases this; exact absurd rfl e2
    have k1 : (0 : Int) ≤ (n2 : Int) := by omega
    clear h1 h2 e1 e2 hln hst hl1
    go_enter Tryd.func46, Tryd.ntmps46
    go_wp2_with fail
    refine HT.out.mono ?_; rintro e w1 ⟨rfl, rfl⟩
    go_wp2_with (refine wpList_from rfl _ _ rfl rfl n1 _ rfl rfl hsb hn1 ?_; intro a2 hsa2)
    refine (HU1.out _ _ _ hsa2).mono ?_; rintro e w2 ⟨rfl, rfl⟩
    go_wp2_with fail
    refine bodyPost_ret (v := .tuple #[.agg #[.string ⟨#[]⟩, .bool false, .int .i64 0], .int .i64 (0 : Nat), .int .i64 z2]) (by simp [results, Tryd.results46, go_sem]) rfl (PDecP.of HR.out rfl ?_)
    exact HB0.out
  obtain rfl : z2 = 0 := by simpa using e2
  obtain ⟨-, r1, r2, r3, r4⟩ := Wire.enc_dec h2
  rw [hl1] at r1
  have hn12 : n1 + n2 ≤ n := by omega
  have m3 : (0 : Int) ≤ (n2 : Int) := by omega
  have m4 : (n1 : Int) + (n2 : Int) ≤ (n : Int) := by omega
  by_cases e3 : 1 < v2
  · have HR := Lib.hid (Pin.dec_c h1 h2 e3)
    have t3 : (1 : Int) < (v2 : Int) := by omega
    clear h1 h2 e1 e2 hln hst hl1
    go_enter Tryd.func46, Tryd.ntmps46
    go_wp2_with fail
    refine HT.out.mono ?_; rintro e w1 ⟨rfl, rfl⟩
    go_wp2_with (refine wpList_from rfl _ _ rfl rfl n1 _ rfl rfl hsb hn1 ?_; intro a2 hsa2)
    refine (HU1.out _ _ _ hsa2).mono ?_; rintro e w2 ⟨rfl, rfl⟩
    go_wp2_with fail
    refine bodyPost_ret (v := .tuple #[.agg #[.string ⟨#[]⟩, .bool false, .int .i64 0], .int .i64 (0 : Nat), .int .i64 6]) (by simp [results, Tryd.results46, go_sem]) rfl (PDecP.of HR.out rfl ?_)
    exact HB0.out
  have t3 : ¬ (1 : Int) < (v2 : Int) := by omega
  have hl2 : (b.drop (n1 + n2)).length = n - (n1 + n2) := by rw [List.length_drop, hln]
  obtain ⟨v3, n3, z3, h3⟩ : ∃ v3 n3 z3, Wire.dec (b.drop (n1 + n2)) = (v3, n3, z3) := ⟨_, _, _, rfl⟩
  have hU2 : ∀ a2 c2 W, SlB W a2 (n - (n1 + n2)) c2 (b.drop (n1 + n2)) → Calls Tryd.prog 45 #[.slice a2 (n - (n1 + n2)) c2] W fun e w' => e = .returned (.tuple #[.int .u64 (v3 : Nat), .int .i64 (n3 : Nat), .int .i64 z3]) ∧ W = w' := by
    intro a2 c2 W hs
    have := rw_decUint a2 (n - (n1 + n2)) c2 (b.drop (n1 + n2)) W hs (by omega)
    rw [h3] at this; exact this
  have HU2 := Lib.hid hU2
  clear hU2
  by_cases e4 : z3 ≠ 0
  · have HR := Lib.hid (Pin.dec_d h1 h2 e3 h3 e4)
    have t4 : (z3 != 0) = true := by simpa using e4
    clear h1 h2 h3 e1 e2 e4 hln hst hl1 hl2
    go_enter Tryd.func46, Tryd.ntmps46
    go_wp2_with fail
    refine HT.out.mono ?_; rintro e w1 ⟨rfl, rfl⟩
    go_wp2_with (refine wpList_from rfl _ _ rfl rfl n1 _ rfl rfl hsb hn1 ?_; intro a2 hsa2)
    refine (HU1.out _ _ _ hsa2).mono ?_; rintro e w2 ⟨rfl, rfl⟩
    go_wp2_with (refine wpList_from rfl _ _ rfl rfl (n1 + n2) _ (by omega) rfl hsb hn12 ?_; intro a3 hsa3)
    refine (HU2.out _ _ _ hsa3).mono ?_; rintro e w3 ⟨rfl, rfl⟩
    go_wp2_with fail
    refine bodyPost_ret (v := .tuple #[.agg #[.string ⟨#[]⟩, .bool false, .int .i64 0], .int .i64 (0 : Nat), .int .i64 z3]) (by simp [results, Tryd.results46, go_sem]) rfl (PDecP.of HR.out rfl ?_)
    exact HB0.out
  obtain rfl : z3 = 0 := by simpa using e4
  obtain ⟨-, s1, s2, s3, s4⟩ := Wire.enc_dec h3
  rw [hl2] at s1
  have m5 : (0 : Int) ≤ (n3 : Int) := by omega
  have m6 : (n1 : Int) + (n2 : Int) + (n3 : Int) ≤ (n : Int) := by omega
  by_cases e5 : 1099511627776 < v3
  · have HR := Lib.hid (Pin.dec_e h1 h2 e3 h3 e5)
    have t5 : (1099511627776 : Int) < (v3 : Int) := by omega
    clear h1 h2 h3 e1 e2 e4 hln hst hl1 hl2
    go_enter Tryd.func46, Tryd.ntmps46
    go_wp2_with fail
    refine HT.out.mono ?_; rintro e w1 ⟨rfl, rfl⟩
    go_wp2_with (refine wpList_from rfl _ _ rfl rfl n1 _ rfl rfl hsb hn1 ?_; intro a2 hsa2)
    refine (HU1.out _ _ _ hsa2).mono ?_; rintro e w2 ⟨rfl, rfl⟩
    go_wp2_with (refine wpList_from rfl _ _ rfl rfl (n1 + n2) _ (by omega) rfl hsb hn12 ?_; intro a3 hsa3)
    refine (HU2.out _ _ _ hsa3).mono ?_; rintro e w3 ⟨rfl, rfl⟩
    go_wp2_with fail
    refine bodyPost_ret (v := .tuple #[.agg #[.string ⟨#[]⟩, .bool false, .int .i64 0], .int .i64 (0 : Nat), .int .i64 2]) (by simp [results, Tryd.results46, go_sem]) rfl (PDecP.of HR.out rfl ?_)
    exact HB0.out
  have t5 : ¬ (1099511627776 : Int) < (v3 : Int) := by omega
  have hV := fun W => hr_validName t (by omega) W
  rw [hst] at hV
  obtain ⟨nb, hnb⟩ : ∃ b, Host.name t = b := ⟨_, rfl⟩
  rw [hnb] at hV
  have HV := Lib.hid hV
  clear hV
  cases nb with
  | false =>
    have HR := Lib.hid (Pin.dec_f h1 h2 e3 h3 e5 hnb)
    clear h1 h2 h3 e1 e2 e4 hln hst hl1 hl2 hnb
    go_enter Tryd.func46, Tryd.ntmps46
    go_wp2_with fail
    refine HT.out.mono ?_; rintro e w1 ⟨rfl, rfl⟩
    go_wp2_with (refine wpList_from rfl _ _ rfl rfl n1 _ rfl rfl hsb hn1 ?_; intro a2 hsa2)
    refine (HU1.out _ _ _ hsa2).mono ?_; rintro e w2 ⟨rfl, rfl⟩
    go_wp2_with (refine wpList_from rfl _ _ rfl rfl (n1 + n2) _ (by omega) rfl hsb hn12 ?_; intro a3 hsa3)
    refine (HU2.out _ _ _ hsa3).mono ?_; rintro e w3 ⟨rfl, rfl⟩
    go_wp2_with fail
    refine (HV.out _).mono ?_; rintro e w4 ⟨rfl, hB4⟩
    rw [HZ0.out] at hB4
    have hbk : w4.heap[w.heap.size]? = some (.cells #[.string ⟨#[]⟩, .bool false, .int .i64 0] 26 (0, 0)) := (hB4.block _ (Nat.lt_succ_self _)).trans HROW.out
    have c0 : w4.cell? ⟨w.heap.size, 0, none⟩ = some (.string ⟨#[]⟩) := (cell_of_row _ _ _ _ _ _ hbk).trans rfl
    have c1 : w4.cell? ⟨w.heap.size, 1, none⟩ = some (.bool false) := (cell_of_row _ _ _ _ _ _ hbk).trans rfl
    have c2 : w4.cell? ⟨w.heap.size, 2, none⟩ = some (.int .i64 0) := (cell_of_row _ _ _ _ _ _ hbk).trans rfl
    have f0 : ∀ k, w4.frozen? ⟨w.heap.size, k, none⟩ = false := fun k => frozen_of_row _ _ _ _ _ hbk
    have hlt4 : w.heap.size < w4.heap.size := heap_lt hbk
    go_wp2_with fail
    have hfin := set3 hbk (.string ⟨#[]⟩) (.bool false) (.int .i64 0)
    have d0 := (cell_of_row _ _ 0 _ _ _ hfin).trans rfl
    have d1 := (cell_of_row _ _ 1 _ _ _ hfin).trans rfl
    have d2 := (cell_of_row _ _ 2 _ _ _ hfin).trans rfl
    have hbel := (((HB0.out.trans (hB4.mono (Nat.le_succ _))).setCell (p := ⟨w.heap.size, 0, none⟩) (Nat.le_refl _) (.string ⟨#[]⟩)).setCell (p := ⟨w.heap.size, 1, none⟩) (Nat.le_refl _) (.bool false)).setCell (p := ⟨w.heap.size, 2, none⟩) (Nat.le_refl _) (.int .i64 0)
    refine bodyPost_ret (v := .tuple #[.agg #[.string ⟨#[]⟩, .bool false, .int .i64 0], .int .i64 (0 : Nat), .int .i64 14]) (by simp [results, Tryd.results46, go_sem, d0, d1, d2]) rfl (PDecP.of HR.out rfl ?_)
    exact hbel
  | true =>
    have HR := Lib.hid (Pin.dec_g h1 h2 e3 h3 e5 hnb)
    have wv : IntKind.i64.wrap (v3 : Int) = (v3 : Int) := by rw [IntKind.wrap_i64]; omega
    clear h1 h2 h3 e1 e2 e4 hln hl1 hl2 hnb hst
    go_enter Tryd.func46, Tryd.ntmps46
    go_wp2_with fail
    refine HT.out.mono ?_; rintro e w1 ⟨rfl, rfl⟩
    go_wp2_with (refine wpList_from rfl _ _ rfl rfl n1 _ rfl rfl hsb hn1 ?_; intro a2 hsa2)
    refine (HU1.out _ _ _ hsa2).mono ?_; rintro e w2 ⟨rfl, rfl⟩
    go_wp2_with (refine wpList_from rfl _ _ rfl rfl (n1 + n2) _ (by omega) rfl hsb hn12 ?_; intro a3 hsa3)
    refine (HU2.out _ _ _ hsa3).mono ?_; rintro e w3 ⟨rfl, rfl⟩
    go_wp2_with fail
    refine (HV.out _).mono ?_; rintro e w4 ⟨rfl, hB4⟩
    rw [HZ0.out] at hB4
    have hbk : w4.heap[w.heap.size]? = some (.cells #[.string ⟨#[]⟩, .bool false, .int .i64 0] 26 (0, 0)) := (hB4.block _ (Nat.lt_succ_self _)).trans HROW.out
    have c0 : w4.cell? ⟨w.heap.size, 0, none⟩ = some (.string ⟨#[]⟩) := (cell_of_row _ _ _ _ _ _ hbk).trans rfl
    have c1 : w4.cell? ⟨w.heap.size, 1, none⟩ = some (.bool false) := (cell_of_row _ _ _ _ _ _ hbk).trans rfl
    have c2 : w4.cell? ⟨w.heap.size, 2, none⟩ = some (.int .i64 0) := (cell_of_row _ _ _ _ _ _ hbk).trans rfl
    have f0 : ∀ k, w4.frozen? ⟨w.heap.size, k, none⟩ = false := fun k => frozen_of_row _ _ _ _ _ hbk
    have hlt4 : w.heap.size < w4.heap.size := heap_lt hbk
    go_wp2_with fail
    have hfin := set3 hbk (.string st) (.bool ((v2 : Int) == 1)) (.int .i64 (v3 : Int))
    have d0 := (cell_of_row _ _ 0 _ _ _ hfin).trans rfl
    have d1 := (cell_of_row _ _ 1 _ _ _ hfin).trans rfl
    have d2 := (cell_of_row _ _ 2 _ _ _ hfin).trans rfl
    have hbel := (((HB0.out.trans (hB4.mono (Nat.le_succ _))).setCell (p := ⟨w.heap.size, 0, none⟩) (Nat.le_refl _) (.string st)).setCell (p := ⟨w.heap.size, 1, none⟩) (Nat.le_refl _) (.bool ((v2 : Int) == 1))).setCell (p := ⟨w.heap.size, 2, none⟩) (Nat.le_refl _) (.int .i64 (v3 : Int))
    have eb : decide (v2 = 1) = ((v2 : Int) == 1) := by rw [show ((v2 : Int) == 1) = decide ((v2 : Int) = 1) from rfl]; apply decide_eq_decide.2; omega
    refine bodyPost_ret (v := .tuple #[.agg (pc ⟨t, decide (v2 = 1), (v3 : Int)⟩), .int .i64 ((n1 + n2 + n3) : Nat), .int .i64 0]) (by unfold pc; simp [results, Tryd.results46, go_sem, d0, d1, d2, HSX.out, eb]) rfl (PDecP.of HR.out rfl ?_)
    exact hbel

end Go.Proofs.YtjfflnnepndlkaaDoor

/-
  The walk of the statement PinCodecMatchesSpec.
-/
namespace Go.Proofs.YtjfflnnepndlkaaDoor
open Go.RowKit

/-- A block that holds a pin. -/
def PBox (w : World) (B : Nat) (h : ByteArray) (s : Bool) (x : Int) : Prop := w.heap[B]? = some (.cells #[.string h, .bool s, .int .i64 x] 26 (0, 0))
theorem PBox.cells {w : World} {B : Nat} {h : ByteArray} {s : Bool} {x : Int} (hb : PBox w B h s x) : w.cell? ⟨B, 0, none⟩ = some (.string h) ∧ w.cell? ⟨B, 1, none⟩ = some (.bool s) ∧ w.cell? ⟨B, 2, none⟩ = some (.int .i64 x) :=
  ⟨(cell_of_row _ _ _ _ _ _ hb).trans rfl, (cell_of_row _ _ _ _ _ _ hb).trans rfl, (cell_of_row _ _ _ _ _ _ hb).trans rfl⟩
theorem PBox.ext {w w' : World} {B : Nat} {h : ByteArray} {s : Bool} {x : Int} (hb : PBox w B h s x) (e : Ext w w') : PBox w' B h s x := (Below.block e _ (heap_lt hb)).trans hb
theorem PBox.new (w : World) (h : ByteArray) (s : Bool) (x : Int) : PBox (w.alloc (.cells #[.string h, .bool s, .int .i64 x] 26)) w.heap.size h s x := heap_alloc_eq _ _ _ rfl


end Go.Proofs.YtjfflnnepndlkaaDoor

/-
  The walk through update.Valid and the reference's Valid; updates in memory.
-/
namespace Go.Proofs.YtjfflnnepndlkaaDoor
open Go.RowKit

/-- The cells of an update, its value. -/
def uc (u : UpdV) : Array Value := #[.int .i64 u.k, .string (str u.p.h), .bool u.p.s, .int .i64 u.p.x]
def uv (u : UpdV) : Value := .agg (uc u)
/-- A block that holds an update. -/
def UBox (w : World) (B : Nat) (k : Int) (h : ByteArray) (s : Bool) (x : Int) : Prop := w.heap[B]? = some (.cells #[.int .i64 k, .string h, .bool s, .int .i64 x] 28 (0, 0))
theorem UBox.cells {w : World} {B : Nat} {k : Int} {h : ByteArray} {s : Bool} {x : Int} (hb : UBox w B k h s x) : w.cell? ⟨B, 0, none⟩ = some (.int .i64 k) ∧ w.cell? ⟨B, 1, none⟩ = some (.string h) ∧ w.cell? ⟨B, 2, none⟩ = some (.bool s) ∧ w.cell? ⟨B, 3, none⟩ = some (.int .i64 x) :=
  ⟨(cell_of_row _ _ _ _ _ _ hb).trans rfl, (cell_of_row _ _ _ _ _ _ hb).trans rfl, (cell_of_row _ _ _ _ _ _ hb).trans rfl, (cell_of_row _ _ _ _ _ _ hb).trans rfl⟩
theorem UBox.ext {w w' : World} {B : Nat} {k : Int} {h : ByteArray} {s : Bool} {x : Int} (hb : UBox w B k h s x) (e : Ext w w') : UBox w' B k h s x := (Below.block e _ (heap_lt hb)).trans hb
theorem UBox.new (w : World) (k : Int) (h : ByteArray) (s : Bool) (x : Int) : UBox (w.alloc (.cells #[.int .i64 k, .string h, .bool s, .int .i64 x] 28)) w.heap.size k h s x := heap_alloc_eq _ _ _ rfl

set_option maxRecDepth 100000 in
set_option maxHeartbeats 2000000 in
theorem up_valid (u : UpdV) (hu : u.p.h.length ≤ 1000000) (w : World) :
    Calls Tryd.prog 14 #[uv u] w fun e w' => e = .returned (.bool (Upt.valid u)) ∧ Ext w w' := by
  have HV := Lib.hid (fun W => pi_valid u.p hu W)
  have HN := Lib.hid (fun W => ho_validName u.p.h hu W)
  have hb0 := (Below.refl w.heap.size w).alloc (Nat.le_refl _) (.cells (uc u) 28)
  have hbx := UBox.new w u.k (str u.p.h) u.p.s u.p.x
  have hr : Upt.valid u = if u.k = 1 then Pin.valid u.p else if u.k = 2 then Host.name u.p.h && decide (u.p.s = false ∧ u.p.x = 0) else false := rfl
  obtain ⟨r, hrr⟩ : ∃ r, Upt.valid u = r := ⟨_, rfl⟩
  rw [hrr] at hr ⊢
  unfold uv
  unfold uc at hb0 ⊢
  unfold pv at HV
  obtain ⟨vb, hvb⟩ : ∃ b, Pin.valid u.p = b := ⟨_, rfl⟩
  obtain ⟨nb, hnb⟩ : ∃ b, Host.name u.p.h = b := ⟨_, rfl⟩
  rw [hvb] at HV hr
  rw [hnb] at HN hr
  obtain ⟨sh, hsh⟩ : ∃ s, str u.p.h = s := ⟨_, rfl⟩
  rw [hsh] at HV HN hb0 hbx ⊢
  obtain ⟨ps, hps⟩ : ∃ s, u.p.s = s := ⟨_, rfl⟩
  obtain ⟨px, hpx⟩ : ∃ s, u.p.x = s := ⟨_, rfl⟩
  obtain ⟨k, hk⟩ : ∃ k, u.k = k := ⟨_, rfl⟩
  rw [hps] at HV hr hb0 hbx ⊢
  rw [hpx] at HV hr hb0 hbx ⊢
  rw [hk] at hr hb0 hbx ⊢
  have hz : (w.alloc (.cells #[.int .i64 k, .string sh, .bool ps, .int .i64 px] 28)).heap.size = w.heap.size + 1 := by simp
  have HB0 := Lib.hid hb0
  have HBX := Lib.hid hbx
  have HZ := Lib.hid hz
  clear hrr hvb hnb hsh hps hpx hk hb0 hbx hz hu
  by_cases k1 : k = 1
  · rw [if_pos k1] at hr
    subst k1
    subst hr
    go_enter Tryd.func14, Tryd.ntmps14
    go_wp2_with fail
    refine (HV.out _).mono ?_; rintro e w1 ⟨rfl, hb1⟩
    rw [HZ.out] at hb1
    go_wp2_with fail
    go_ret
    exact ⟨rfl, HB0.out.trans (hb1.mono (Nat.le_succ _))⟩
  · rw [if_neg k1] at hr
    have t1 : (k == 1) = false := beq_eq_false_iff_ne.2 k1
    by_cases k2 : k = 2
    · rw [if_pos k2] at hr
      subst k2
      have HR := Lib.hid hr
      clear hr k1 t1
      cases nb with
      | false =>
        have hrf : r = false := by rw [HR.out]; rfl
        subst hrf
        go_enter Tryd.func14, Tryd.ntmps14
        go_wp2_with fail
        refine (HN.out _).mono ?_; rintro e w1 ⟨rfl, hb1⟩
        rw [HZ.out] at hb1
        have hP1 : UBox w1 w.heap.size 2 sh ps px := (hb1.block _ (Nat.lt_succ_self _)).trans HBX.out
        obtain ⟨q0, q1, q2, q3⟩ := hP1.cells
        have hlt := heap_lt hP1
        clear hP1
        go_wp2_with fail
        go_ret
        exact ⟨rfl, HB0.out.trans (hb1.mono (Nat.le_succ _))⟩
      | true =>
        have hrt : r = (!ps && px == 0) := by
          rw [HR.out, Bool.true_and]
          cases ps <;> by_cases h0 : px = 0 <;> simp [h0]
        have HRT := Lib.hid hrt
        clear hrt HR
        cases ps
        all_goals
          by_cases h0 : px = 0
          all_goals
            first
              | (have hrr : r = true := by rw [HRT.out, h0]; rfl)
              | (have hrr : r = false := by rw [HRT.out]; simp [h0])
            subst hrr
            first | subst h0 | skip
            go_enter Tryd.func14, Tryd.ntmps14
            go_wp2_with fail
            refine (HN.out _).mono ?_; rintro e w1 ⟨rfl, hb1⟩
            rw [HZ.out] at hb1
            have hP1 : UBox w1 w.heap.size 2 sh _ _ := (hb1.block _ (Nat.lt_succ_self _)).trans HBX.out
            obtain ⟨q0, q1, q2, q3⟩ := hP1.cells
            have hlt := heap_lt hP1
            clear hP1
            go_wp2_with fail
            go_ret
            exact ⟨rfl, HB0.out.trans (hb1.mono (Nat.le_succ _))⟩
    · rw [if_neg k2] at hr
      have t2 : (k == 2) = false := beq_eq_false_iff_ne.2 k2
      subst hr
      go_enter Tryd.func14, Tryd.ntmps14
      go_wp2_with fail
      go_ret
      exact ⟨rfl, HB0.out⟩

end Go.Proofs.YtjfflnnepndlkaaDoor

/-
  The reference's check of a list of pins (hstsstoreref23.Load).
-/
namespace Go.Proofs.YtjfflnnepndlkaaDoor
open Go.RowKit

theorem chk_step (L : List Pin) (m k : Nat) {p : Pin} (h : L[k]? = some p) : Tab.chk L (m + 1) k = if Pin.valid p = false then 1 else if 0 < k ∧ 0 ≤ Host.cmp (L.getD (k - 1) Pin.none).h p.h then 8 else Tab.chk L m (k + 1) := by
  rw [Tab.chk, h]

set_option maxHeartbeats 8000000 in
set_option maxRecDepth 100000 in
theorem rt_load (cap : Int) (a : Option Addr) (n c : Nat) (L : List Pin) (w : World) (h : SlN w a n c L) (hn : n ≤ 1000000) (hL : ∀ p ∈ L, p.h.length ≤ 1000000) :
    Calls Tryd.prog 47 #[.slice a n c, .int .i64 cap] w fun e w' => e = .returned (.int .i64 (Tab.load L cap)) ∧ Below w.heap.size w w' := by
  have HLN := Lib.hid h.len
  have HL := Lib.hid hL
  obtain ⟨r, hr⟩ : ∃ r, Tab.load L cap = r := ⟨_, rfl⟩
  rw [hr]
  unfold Tab.load at hr
  rw [h.len] at hr
  clear hL
  by_cases h1 : cap < 1 ∨ 1000 < cap
  · rw [if_pos h1] at hr
    subst hr
    by_cases h2 : cap < 1
    · clear h1
      go_enter Tryd.func47, Tryd.ntmps47
      go_wp2_with fail
      go_ret
      exact ⟨rfl, Below.refl _ _⟩
    · have h3 : 1000 < cap := by omega
      clear h1
      go_enter Tryd.func47, Tryd.ntmps47
      go_wp2_with fail
      go_ret
      exact ⟨rfl, Below.refl _ _⟩
  rw [if_neg h1] at hr
  have g1 : ¬ cap < 1 := by omega
  have g2 : ¬ 1000 < cap := by omega
  clear h1
  by_cases h2 : cap < (n : Int)
  · rw [if_pos h2] at hr
    subst hr
    go_enter Tryd.func47, Tryd.ntmps47
    go_wp2_with fail
    go_ret
    exact ⟨rfl, Below.refl _ _⟩
  rw [if_neg h2] at hr
  have HR := Lib.hid hr
  clear hr
  go_enter Tryd.func47, Tryd.ntmps47
  go_wp2_with fail
  go_loopw [5] (fun i wr => ∃ k : Nat, k ≤ n ∧ i = .int .i64 (k : Nat) ∧ Hid (Tab.chk L (n - k) k = r) ∧ Below w.heap.size w wr) (fun i _ => n - (intOf i).toNat)
  case atStart => exact ⟨0, Nat.zero_le _, rfl, HR, Below.refl _ _⟩
  case round =>
    obtain ⟨k, hk, rfl, HC, hB⟩ := hrel
    have i0 : (0 : Int) ≤ (k : Int) := by omega
    by_cases hlt : k < n
    · have i2 : (k : Int) < (n : Int) := by omega
      have hs := h.ext hB
      obtain ⟨bb, o, rfl, hbb, hkl, c1, c2, c3⟩ := hs.at hlt
      have hgt := List.getElem?_eq_getElem hkl
      rw [hgt, Option.getD_some] at c1 c2 c3
      have HMEM := Lib.hid (List.getElem_mem hkl)
      have hst := chk_step L (n - (k + 1)) k hgt
      rw [show n - (k + 1) + 1 = n - k by omega, HC.out] at hst
      have hprev : ∀ k', k = k' + 1 → ∃ q, L.getD (k - 1) Pin.none = q ∧ q ∈ L ∧ PinAt wr bb (o + k' * 3) q := by
        intro k' hk'
        obtain ⟨b2, o2, hbo, -, hkl2, hp2⟩ := hs.at (show k' < n by omega)
        cases hbo
        refine ⟨_, rfl, ?_, ?_⟩
        · rw [show k - 1 = k' by omega, List.getD_eq_getElem?_getD, List.getElem?_eq_getElem hkl2]; exact List.getElem_mem hkl2
        · rw [show k - 1 = k' by omega, List.getD_eq_getElem?_getD]; exact hp2
      generalize L[k] = p at *
      have HV := Lib.hid (fun W => rp_valid p (HL.out p HMEM.out) W)
      unfold pv at HV
      cases hv : Pin.valid p with
      | false =>
        rw [hv] at HV hst
        rw [if_pos rfl] at hst
        subst hst
        have HV := Lib.hid HV.out
        obtain ⟨sh, hsh⟩ : ∃ s, str p.h = s := ⟨_, rfl⟩
        rw [hsh] at c1 HV
        clear hprev hgt hkl hv hsh hs
        go_wp2_with fail
        refine (HV.out _).mono ?_; rintro e w2 ⟨rfl, hb2⟩
        go_wp2_with fail
        go_ret
        exact ⟨rfl, hB.trans (hb2.mono hB.size)⟩
      | true =>
        rw [hv] at HV hst
        rw [if_neg (by decide)] at hst
        have HV := Lib.hid HV.out
        by_cases hk0 : k = 0
        · rw [if_neg (by omega)] at hst
          have HST := Lib.hid hst
          have t0 : decide (0 < k) = false := by apply decide_eq_false; omega
          obtain ⟨sh, hsh⟩ : ∃ s, str p.h = s := ⟨_, rfl⟩
          rw [hsh] at c1 HV
          clear hprev hgt hkl hv hsh hs hst hk0
          go_wp2_with fail
          refine (HV.out _).mono ?_; rintro e w2 ⟨rfl, hb2⟩
          go_wp2_with fail
          go_quiet (fail)
          go_wp2_with fail
          go_roundw
          case rel => exact ⟨k + 1, by omega, by go_num, Lib.hid HST.out.symm, (hB.trans (hb2.mono hB.size)).trans (below_drewN' _ _ _)⟩
          case measure => simp [intOf]; omega
        · obtain ⟨k', hk'⟩ : ∃ k', k = k' + 1 := ⟨k - 1, by omega⟩
          obtain ⟨q, hq, hqm, hqa⟩ := hprev k' hk'
          subst hk'
          rw [hq] at hst
          have HCMP := Lib.hid (fun W => rp_compare q.h p.h (HL.out q hqm) (HL.out p HMEM.out) W)
          obtain ⟨z, hz⟩ : ∃ z, Host.cmp q.h p.h = z := ⟨_, rfl⟩
          rw [hz] at HCMP hst
          have wk : IntKind.i64.wrap (k' : Int) = (k' : Int) := by rw [IntKind.wrap_i64]; omega
          have k0 : (0 : Int) ≤ (k' : Int) := by omega
          have k1 : (k' : Int) < (n : Int) := by omega
          have i3 : (0 : Int) ≤ (k' : Int) + 1 := by omega
          have i4 : (k' : Int) + 1 < (n : Int) := by omega
          have t0 : decide (0 < k' + 1) = true := by apply decide_eq_true; omega
          obtain ⟨d1, -, -⟩ := hqa
          obtain ⟨sh, hsh⟩ : ∃ s, str p.h = s := ⟨_, rfl⟩
          obtain ⟨sq, hsq⟩ : ∃ s, str q.h = s := ⟨_, rfl⟩
          rw [hsh] at c1 HV HCMP
          rw [hsq] at d1 HCMP
          have HCL := Lib.hid (show ∀ w', Below wr.heap.size wr w' → w'.cell? ⟨bb, o + (k' + 1) * 3, none⟩ = some (.string sh) ∧ w'.cell? ⟨bb, o + k' * 3, none⟩ = some (.string sq) from fun w' hb => ⟨(hb.cell (p := ⟨bb, o + (k' + 1) * 3, none⟩) hbb).trans c1, (hb.cell (p := ⟨bb, o + k' * 3, none⟩) hbb).trans d1⟩)
          have HST := Lib.hid hst
          clear hprev hgt hkl hv hsh hsq hs hst hz hq hqm hk0
          go_wp2_with fail
          refine (HV.out _).mono ?_; rintro e w2 ⟨rfl, hb2⟩
          obtain ⟨e1, f1⟩ := HCL.out _ hb2
          have hbb2 : bb < w2.heap.size := Nat.lt_of_lt_of_le hbb hb2.size
          have HCL2 := Lib.hid (show ∀ w', Ext w2 w' → Ext w2 w' ∧ w'.cell? ⟨bb, o + (k' + 1) * 3, none⟩ = some (.string sh) ∧ w'.cell? ⟨bb, o + k' * 3, none⟩ = some (.string sq) from fun w' he => ⟨he, HCL.out _ (hb2.trans (Below.mono he hb2.size))⟩)
          go_wp2_with fail
          go_region_held3 (fun w' => Ext w2 w' ∧ w'.cell? ⟨bb, o + (k' + 1) * 3, none⟩ = some (.string sh) ∧ w'.cell? ⟨bb, o + k' * 3, none⟩ = some (.string sq)) (first | assumption | exact HCL2.out _ (Ext.drew (Ext.refl _)) | exact HCL2.out _ (Ext.step (by assumption) (And.left (by assumption)))) (first | (go_at_call 64; go_must (refine (HCMP.out _).mono ?_); rintro e w9 ⟨rfl, hb9⟩))
          all_goals
            have hfin : Ext w2 _ := And.left (by assumption)
            have hBf := (hB.trans (hb2.mono hB.size)).trans (Below.mono hfin (hB.trans (hb2.mono hB.size)).size)
            by_cases hz0 : 0 ≤ z
            · have hr8 : r = 8 := by rw [HST.out, if_pos ⟨by omega, hz0⟩]
              subst hr8
              go_wp2_with fail
              go_ret
              exact ⟨rfl, hBf⟩
            · have HRS := Lib.hid (show Tab.chk L (n - (k' + 1 + 1)) (k' + 1 + 1) = r by rw [HST.out, if_neg (fun e => hz0 e.2)])
              go_wp2_with fail
              go_roundw
              case rel => exact ⟨k' + 1 + 1, by omega, by go_num, HRS, hBf⟩
              case measure => simp [intOf]; omega
    · obtain rfl : k = n := by omega
      have hr0 : r = 0 := by rw [← HC.out, Nat.sub_self]; rfl
      subst hr0
      go_wp2_with fail
      go_ret
      exact ⟨rfl, hB⟩

end Go.Proofs.YtjfflnnepndlkaaDoor

/-
  The search in a state: Apply$1, slices.BinarySearchFunc.
-/
namespace Go.Proofs.YtjfflnnepndlkaaDoor
open Go.RowKit

set_option maxRecDepth 100000 in
theorem up_find1 (p : Pin) (t : List UInt8) (hp : p.h.length ≤ 1000000) (ht : t.length ≤ 1000000) (w : World) :
    Calls Tryd.prog 31 #[pv p, .string (str t)] w fun e w' => e = .returned (.int .i64 (Host.cmp p.h t)) ∧ Below w.heap.size w w' := by
  have HC := Lib.hid (fun W => pn_compare p.h t hp ht W)
  have hb0 := (Below.refl w.heap.size w).alloc (Nat.le_refl _) (.cells (pc p) 26)
  obtain ⟨ph, ps, px⟩ := p
  unfold pv
  unfold pc at hb0
  simp only at hb0 HC ⊢
  generalize str ph = sh at *
  generalize str t = st at *
  have HB0 := Lib.hid hb0
  clear hb0
  go_enter Tryd.func31, Tryd.ntmps31
  go_wp2_with fail
  refine (HC.out _).mono ?_; rintro e w1 ⟨rfl, hb1⟩
  go_wp2_with fail
  go_ret
  exact ⟨rfl, HB0.out.trans (hb1.mono HB0.out.size)⟩

set_option maxHeartbeats 4000000 in
set_option maxRecDepth 100000 in
theorem up_bsearch (a : Option Addr) (n c : Nat) (L : List Pin) (t : List UInt8) (w : World) (h : SlN w a n c L) (hn : n ≤ 1000000) (hA : Tab.Asc L) (hL : ∀ p ∈ L, p.h.length ≤ 1000000) (ht : t.length ≤ 1000000) :
    Calls Tryd.prog 30 #[.slice a n c, .string (str t), .func (.func 31) #[] #[]] w
      fun e w' => e = .returned (.tuple #[.int .i64 (Tab.lo L t : Nat), .bool (Tab.hit L t)]) ∧ Below w.heap.size w w' := by
  have HL := Lib.hid hL
  have HLN := Lib.hid h.len
  have HF := Lib.hid (fun p hp W => up_find1 p t hp ht W)
  have HLO := Lib.hid (fun (k : Nat) (p : Pin) (hk : L[k]? = some p) => Tab.lo_iff hA t hk)
  have HLE := Lib.hid (Tab.lo_le L t)
  obtain ⟨lo, hlo⟩ : ∃ lo, Tab.lo L t = lo := ⟨_, rfl⟩
  have HHI := Lib.hid (show Tab.hit L t = match L[lo]? with | some p => decide (p.h = t) | none => false by rw [← hlo]; rfl)
  rw [hlo] at HLO HLE ⊢
  generalize Tab.hit L t = hit at *
  obtain ⟨st, hst⟩ : ∃ st, str t = st := ⟨_, rfl⟩
  rw [hst] at HF ⊢
  clear hlo hst hA hL
  go_enter Tryd.func30, Tryd.ntmps30
  go_wp2_with fail
  go_loopw [9, 10] (fun i j wr => ∃ (i' j' : Nat), i = .int .i64 (i' : Nat) ∧ j = .int .i64 (j' : Nat) ∧ i' ≤ lo ∧ lo ≤ j' ∧ j' ≤ n ∧ Below w.heap.size w wr) (fun i j _ => (intOf j).toNat - (intOf i).toNat)
  case atStart => exact ⟨0, n, rfl, rfl, Nat.zero_le _, by have := HLE.out; rw [HLN.out] at this; exact this, Nat.le_refl _, Below.refl _ _⟩
  case round =>
    obtain ⟨i, j, rfl, rfl, h1, h2, h3, hB⟩ := hrel
    have i0 : (0 : Int) ≤ (i : Int) := by omega
    by_cases hij : i < j
    · have i1 : (i : Int) < (j : Int) := by omega
      obtain ⟨m, hm⟩ : ∃ m : Nat, (i + j) / 2 = m := ⟨_, rfl⟩
      have m1 : i ≤ m := by omega
      have m2 : m < j := by omega
      have m3 : m < n := by omega
      have m4 : (m : Int) < (n : Int) := by omega
      have m5 : (0 : Int) ≤ (m : Int) := by omega
      have e1 : ((i : Int) + (j : Int)) / 2 = (m : Int) := by omega
      have e2 : IntKind.u64.wrap ((i : Int) + (j : Int)) = (i : Int) + (j : Int) := by unfold IntKind.wrap; simp only [IntKind.bits, IntKind.signed]; simp; omega
      obtain ⟨bb, o, rfl, hbb, hkl, c1, c2, c3⟩ := (h.ext hB).at m3
      rw [List.getElem?_eq_getElem hkl, Option.getD_some] at c1 c2 c3
      have HMEM := Lib.hid (List.getElem_mem hkl)
      have HIF := Lib.hid (HLO.out m _ (List.getElem?_eq_getElem hkl))
      generalize L[m] = p at *
      have HFP := Lib.hid (fun W => HF.out p (HL.out p HMEM.out) W)
      obtain ⟨ph, ps, px⟩ := p
      unfold pv at HFP
      simp only at c1 c2 c3 HFP HIF
      generalize str ph = sh at *
      generalize Host.cmp ph t = cc at *
      clear hkl hm
      by_cases hcc : cc < 0
      · have hlm := HIF.out.1 hcc
        go_wp2_with fail
        refine (HFP.out _).mono ?_; rintro e w1 ⟨rfl, hb1⟩
        go_wp2_with fail
        go_roundw
        case rel => exact ⟨m + 1, j, by go_num, rfl, by omega, h2, h3, hB.trans (hb1.mono hB.size)⟩
        case measure => simp [intOf]; omega
      · have hlm : ¬ m < lo := fun e => hcc (HIF.out.2 e)
        go_wp2_with fail
        refine (HFP.out _).mono ?_; rintro e w1 ⟨rfl, hb1⟩
        go_wp2_with fail
        go_roundw
        case rel => exact ⟨i, m, rfl, rfl, h1, by omega, by omega, hB.trans (hb1.mono hB.size)⟩
        case measure => simp [intOf]; omega
    · obtain rfl : i = lo := by omega
      obtain rfl : j = i := by omega
      by_cases hjn : j < n
      · have m4 : (j : Int) < (n : Int) := by omega
        obtain ⟨bb, o, rfl, hbb, hkl, c1, c2, c3⟩ := (h.ext hB).at hjn
        rw [List.getElem?_eq_getElem hkl] at HHI
        rw [List.getElem?_eq_getElem hkl, Option.getD_some] at c1 c2 c3
        have HMEM := Lib.hid (List.getElem_mem hkl)
        generalize L[j] = p at *
        have HFP := Lib.hid (fun W => HF.out p (HL.out p HMEM.out) W)
        have hh2 : hit = (Host.cmp p.h t == 0) := by
          rw [HHI.out, Bool.eq_iff_iff]; simp only [decide_eq_true_eq, beq_iff_eq]
          exact ⟨fun e => by rw [e]; exact Host.cmp_self _, fun e => Host.cmp_eq e⟩
        obtain ⟨ph, ps, px⟩ := p
        unfold pv at HFP
        simp only at c1 c2 c3 HFP ⊢
        simp only at hh2
        generalize str ph = sh at *
        generalize Host.cmp ph t = cc at *
        have HH2 := Lib.hid hh2
        clear hkl hh2
        go_wp2_with fail
        refine (HFP.out _).mono ?_; rintro e w1 ⟨rfl, hb1⟩
        go_wp2_with fail
        go_ret2
        exact ⟨by rw [HH2.out]; rfl, hB.trans (hb1.mono hB.size)⟩
      · obtain rfl : j = n := by omega
        have hf : hit = false := by rw [HHI.out, List.getElem?_eq_none (by rw [HLN.out]; exact Nat.le_refl _)]
        subst hf
        go_wp2_with fail
        go_ret2
        exact ⟨rfl, hB⟩

end Go.Proofs.YtjfflnnepndlkaaDoor

/-
  The walk through update.Encode.
-/
namespace Go.Proofs.YtjfflnnepndlkaaDoor
open Go.RowKit

/-- What Encode returns. -/
def UEncP (u : UpdV) (w : World) (e : Ending) (w' : World) : Prop := ∃ v, e = .returned (.tuple #[v, .int .i64 (if Upt.valid u then 0 else 1)]) ∧ OwnB w.heap.size w' v (if Upt.valid u then Upt.enc u else []) ∧ Below w.heap.size w w'

set_option maxRecDepth 100000 in
set_option maxHeartbeats 4000000 in
theorem up_encode (u : UpdV) (hu : u.p.h.length ≤ 900) (w : World) :
    Calls Tryd.prog 28 #[uv u] w (UEncP u w) := by
  have HV := Lib.hid (fun W => up_valid u (by omega) W)
  have HE := Lib.hid (fun W => pi_encode u.p hu W)
  have HT := Lib.hid (fun a n c l W h hn => wi_appendText a n c l u.p.h (by omega) W h hn)
  have hb0 := (Below.refl w.heap.size w).alloc (Nat.le_refl _) (.cells (uc u) 28)
  have hbx := UBox.new w u.k (str u.p.h) u.p.s u.p.x
  have hvc : Upt.valid u = true → (u.k = 1 ∧ Pin.valid u.p = true) ∨ u.k = 2 := fun h => by
    rcases Upt.valid_cases h with ⟨h1, h2⟩ | ⟨h1, -, -⟩
    · exact .inl ⟨h1, h2⟩
    · exact .inr h1
  have he : Upt.enc u = if u.k = 2 then 2 :: Wire.txt u.p.h else 1 :: Pin.enc u.p := rfl
  have hel : Pin.valid u.p = true → (Pin.enc u.p).length ≤ 1000000 := fun h => by have := Pin.enc_len h; omega
  unfold UEncP
  unfold PEncP at HE
  obtain ⟨r, hrr⟩ : ∃ r, Upt.valid u = r := ⟨_, rfl⟩
  obtain ⟨E, hE⟩ : ∃ E, Upt.enc u = E := ⟨_, rfl⟩
  obtain ⟨pe, hpe⟩ : ∃ E, Pin.enc u.p = E := ⟨_, rfl⟩
  obtain ⟨te, hte⟩ : ∃ E, Wire.txt u.p.h = E := ⟨_, rfl⟩
  rw [hrr] at hvc HV ⊢
  rw [hE] at he ⊢
  rw [hpe] at he hel HE
  rw [hte] at he HT
  unfold uv at HV ⊢
  unfold uc at hb0 HV ⊢
  unfold pv at HE
  obtain ⟨vb, hvb⟩ : ∃ b, Pin.valid u.p = b := ⟨_, rfl⟩
  rw [hvb] at HE hvc hel
  obtain ⟨sh, hsh⟩ : ∃ s, str u.p.h = s := ⟨_, rfl⟩
  rw [hsh] at HV HE HT hb0 hbx ⊢
  obtain ⟨ps, hps⟩ : ∃ s, u.p.s = s := ⟨_, rfl⟩
  obtain ⟨px, hpx⟩ : ∃ s, u.p.x = s := ⟨_, rfl⟩
  obtain ⟨k, hk⟩ : ∃ k, u.k = k := ⟨_, rfl⟩
  rw [hps] at HV HE hb0 hbx ⊢
  rw [hpx] at HV HE hb0 hbx ⊢
  rw [hk] at hvc he HV hb0 hbx ⊢
  have hz : (w.alloc (.cells #[.int .i64 k, .string sh, .bool ps, .int .i64 px] 28)).heap.size = w.heap.size + 1 := by simp
  have HB0 := Lib.hid hb0
  have HBX := Lib.hid hbx
  have HZ := Lib.hid hz
  have HEL := Lib.hid hel
  have HEE := Lib.hid he
  clear hrr hE hpe hte hvb hsh hps hpx hk hb0 hbx hz hu he hel
  cases r with
  | false =>
    clear hvc
    go_enter Tryd.func28, Tryd.ntmps28
    go_wp2_with fail
    refine (HV.out _).mono ?_; rintro e w1 ⟨rfl, hB1⟩
    unfold Ext at hB1; rw [HZ.out] at hB1
    go_wp2_with fail
    go_ret2
    exact ⟨_, rfl, OwnB.nil _ _, HB0.out.trans (hB1.mono (Nat.le_succ _))⟩
  | true =>
    rcases hvc rfl with ⟨rfl, rfl⟩ | rfl
    · clear hvc
      have wk : IntKind.u8.wrap 1 = 1 := rfl
      go_enter Tryd.func28, Tryd.ntmps28
      go_wp2_with fail
      refine (HV.out _).mono ?_; rintro e w1 ⟨rfl, hB1⟩
      unfold Ext at hB1; rw [HZ.out] at hB1
      have hP1 : UBox w1 w.heap.size 1 sh ps px := (hB1.block _ (Nat.lt_succ_self _)).trans HBX.out
      obtain ⟨q0, q1, q2, q3⟩ := hP1.cells
      have hlt := heap_lt hP1
      have hz2 : w.heap.size < w1.heap.size := hlt
      have hbW := (Below.refl w1.heap.size w1).alloc (Nat.le_refl _) (.cells #[.int .u8 1] 5)
      have hoW : OwnB w.heap.size (w1.alloc (.cells #[.int .u8 1] 5)) (.slice (some ⟨w1.heap.size, 0, none⟩) 1 1) [1] := OwnB.built w1 [1] (Nat.le_of_lt hz2) (by unfold maxLen; simp)
      obtain ⟨W2, hW2⟩ : ∃ W2, w1.alloc (.cells #[.int .u8 1] 5) = W2 := ⟨_, rfl⟩
      rw [hW2] at hbW hoW
      obtain ⟨q0, q1, q2, q3⟩ := (hP1.ext hbW).cells
      have hlt2 := heap_lt (hP1.ext hbW)
      have HW2 := Lib.hid hW2
      have HOW := Lib.hid hoW
      have HBW := Lib.hid (HB0.out.trans ((hB1.mono (Nat.le_succ _)).trans (hbW.mono (Nat.le_of_lt hz2))))
      obtain ⟨p0, p1, p2, p3⟩ := hP1.cells
      clear hW2 hoW hbW hP1
      go_wp2_with fail
      rw [HW2.out]
      go_wp2_with fail
      refine (HE.out _).mono ?_; rintro e w2 ⟨v2, rfl, ho2, hB2⟩
      rw [if_pos trivial] at ho2
      obtain ⟨a2, c2, hv2, hs2, -⟩ := ho2.sl
      subst hv2
      have HS2 := Lib.hid hs2
      have HO2 := Lib.hid (HOW.out.ext hB2)
      clear ho2 hs2
      go_wp2_with (at_builtin; refine wpList_append_bytes rfl _ _ rfl w.heap.size _ [1] rfl HO2.out a2 _ c2 pe rfl HS2.out (by have := HEL.out (by first | rfl | trivial); simp; omega) (by have := hB2.size; omega) ?_; intro v3 w3 ho3 hg3 _)
      go_ret2
      exact ⟨_, rfl, by rw [HEE.out, if_neg (by decide)]; exact ho3, (HBW.out.trans (hB2.mono HBW.out.size)).grown hg3 (by have := HBW.out.size; have := hB2.size; omega) (fun k hk => (HO2.out.lt k hk).1)⟩
    · clear hvc
      have wk : IntKind.u8.wrap 2 = 2 := rfl
      go_enter Tryd.func28, Tryd.ntmps28
      go_wp2_with fail
      refine (HV.out _).mono ?_; rintro e w1 ⟨rfl, hB1⟩
      unfold Ext at hB1; rw [HZ.out] at hB1
      have hP1 : UBox w1 w.heap.size 2 sh ps px := (hB1.block _ (Nat.lt_succ_self _)).trans HBX.out
      have hz2 : w.heap.size < w1.heap.size := heap_lt hP1
      have hbW := (Below.refl w1.heap.size w1).alloc (Nat.le_refl _) (.cells #[.int .u8 2] 5)
      have hoW : SlB (w1.alloc (.cells #[.int .u8 2] 5)) (some ⟨w1.heap.size, 0, none⟩) 1 1 [2] := SlB.one w1 2 _
      obtain ⟨W2, hW2⟩ : ∃ W2, w1.alloc (.cells #[.int .u8 2] 5) = W2 := ⟨_, rfl⟩
      rw [hW2] at hbW hoW
      obtain ⟨q0, q1, q2, q3⟩ := (hP1.ext hbW).cells
      have hlt2 := heap_lt (hP1.ext hbW)
      have HW2 := Lib.hid hW2
      have HOW := Lib.hid hoW
      have HBW := Lib.hid (HB0.out.trans ((hB1.mono (Nat.le_succ _)).trans (hbW.mono (Nat.le_of_lt hz2))))
      obtain ⟨p0, p1, p2, p3⟩ := hP1.cells
      clear hW2 hoW hbW hP1
      go_wp2_with fail
      rw [HW2.out]
      go_wp2_with fail
      refine (HT.out _ _ _ _ _ HOW.out (by omega)).mono ?_; rintro e w2 ⟨v2, rfl, ho2, hB2⟩
      have HO2 := Lib.hid ho2
      clear ho2
      go_wp2_with fail
      go_ret2
      exact ⟨_, rfl, by rw [HEE.out]; simp only [↓reduceIte]; exact HO2.out.mono HBW.out.size, HBW.out.trans (hB2.mono HBW.out.size)⟩

end Go.Proofs.YtjfflnnepndlkaaDoor
