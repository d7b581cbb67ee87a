/-
  Texts in one: RUptEnc, RUptDec, KeepOwn.
-/
import Derived.Test.YtjfflnnepndlkaaGreatDoorRun22
import Derived.Test.YtjfflnnepndlkaaGreatDoorRun23
import Derived.Deep.RegionHeld3
/-
  The walk through the reference's Encode of updates.
-/
namespace Go.Proofs.YtjfflnnepndlkaaGreatDoor
open Go.RowKit

set_option maxRecDepth 100000 in
set_option maxHeartbeats 4000000 in
theorem ru_encode (u : UpdV) (hu : u.p.h.length ≤ 900) (w : World) :
    Calls Tryz.prog 14 #[uv u] w (UEncP u w) := by
  have HV := Lib.hid (fun W => ru_valid u (by omega) W)
  have HE := Lib.hid (fun W => rp_encode u.p hu W)
  have HT := Lib.hid (fun W => rw_text u.p.h (by omega) W)
  have hb0 := (Below.refl w.heap.size w).alloc (Nat.le_refl _) (.cells (uc u) 28)
  have hbx := UBox.new w u.k (str u.p.h) u.p.s u.p.x
  have hvc : Upt.valid u = true → (u.k = 1 ∧ Pin.valid u.p = true) ∨ u.k = 2 := fun h => by
    rcases Upt.valid_cases h with ⟨h1, h2⟩ | ⟨h1, -, -⟩
    · exact .inl ⟨h1, h2⟩
    · exact .inr h1
  have he : Upt.enc u = if u.k = 2 then 2 :: Wire.txt u.p.h else 1 :: Pin.enc u.p := rfl
  have hel : Pin.valid u.p = true → (Pin.enc u.p).length ≤ 1000000 := fun h => by have := Pin.enc_len h; omega
  have htl : (Wire.txt u.p.h).length ≤ 1000000 := by
    have h1 := Wire.enc_len (v := u.p.h.length) (by omega)
    unfold Wire.txt
    simp only [List.length_append]
    omega
  unfold UEncP
  unfold PEncP at HE
  obtain ⟨r, hrr⟩ : ∃ r, Upt.valid u = r := ⟨_, rfl⟩
  obtain ⟨E, hE⟩ : ∃ E, Upt.enc u = E := ⟨_, rfl⟩
  obtain ⟨pe, hpe⟩ : ∃ E, Pin.enc u.p = E := ⟨_, rfl⟩
  obtain ⟨te, hte⟩ : ∃ E, Wire.txt u.p.h = E := ⟨_, rfl⟩
  rw [hrr] at hvc HV ⊢
  rw [hE] at he ⊢
  rw [hpe] at he hel HE
  rw [hte] at he htl HT
  unfold uv at HV ⊢
  unfold uc at hb0 HV ⊢
  unfold pv at HE
  obtain ⟨vb, hvb⟩ : ∃ b, Pin.valid u.p = b := ⟨_, rfl⟩
  rw [hvb] at HE hvc hel
  obtain ⟨sh, hsh⟩ : ∃ s, str u.p.h = s := ⟨_, rfl⟩
  rw [hsh] at HV HE HT hb0 hbx ⊢
  obtain ⟨ps, hps⟩ : ∃ s, u.p.s = s := ⟨_, rfl⟩
  obtain ⟨px, hpx⟩ : ∃ s, u.p.x = s := ⟨_, rfl⟩
  obtain ⟨k, hk⟩ : ∃ k, u.k = k := ⟨_, rfl⟩
  rw [hps] at HV HE hb0 hbx ⊢
  rw [hpx] at HV HE hb0 hbx ⊢
  rw [hk] at hvc he HV hb0 hbx ⊢
  have hz : (w.alloc (.cells #[.int .i64 k, .string sh, .bool ps, .int .i64 px] 28)).heap.size = w.heap.size + 1 := by simp
  have HB0 := Lib.hid hb0
  have HBX := Lib.hid hbx
  have HZ := Lib.hid hz
  have HEL := Lib.hid hel
  have HTL := Lib.hid htl
  have HEE := Lib.hid he
  clear hrr hE hpe hte hvb hsh hps hpx hk hb0 hbx hz hu he hel htl
  cases r with
  | false =>
    clear hvc
    go_enter Tryz.func14, Tryz.ntmps14
    go_wp2_with fail
    refine (HV.out _).mono ?_; rintro e w1 ⟨rfl, hB1⟩
    unfold Ext at hB1; rw [HZ.out] at hB1
    go_wp2_with fail
    go_ret2
    exact ⟨_, rfl, OwnB.nil _ _, HB0.out.trans (hB1.mono (Nat.le_succ _))⟩
  | true =>
    rcases hvc rfl with ⟨rfl, rfl⟩ | rfl
    · clear hvc
      go_enter Tryz.func14, Tryz.ntmps14
      go_wp2_with fail
      refine (HV.out _).mono ?_; rintro e w1 ⟨rfl, hB1⟩
      unfold Ext at hB1; rw [HZ.out] at hB1
      have hP1 : UBox w1 w.heap.size 1 sh ps px := (hB1.block _ (Nat.lt_succ_self _)).trans HBX.out
      obtain ⟨q0, q1, q2, q3⟩ := hP1.cells
      have hlt := heap_lt hP1
      have HB1 := Lib.hid (HB0.out.trans (hB1.mono (Nat.le_succ _)))
      clear hP1
      go_wp2_with fail
      refine (HE.out _).mono ?_; rintro e w2 ⟨v2, rfl, ho2, hB2⟩
      rw [if_pos trivial] at ho2
      obtain ⟨a2, c2, hv2, hs2, -⟩ := ho2.sl
      subst hv2
      have hB := HB1.out.trans (hB2.mono HB1.out.size)
      have hbW := (Below.refl w2.heap.size w2).alloc (Nat.le_refl _) (.cells #[.int .u8 1] 5)
      have hoW : OwnB w.heap.size (w2.alloc (.cells #[.int .u8 1] 5)) (.slice (some ⟨w2.heap.size, 0, none⟩) 1 1) [1] := OwnB.built w2 [1] hB.size (by unfold maxLen; simp)
      have hs3 := hs2.ext hbW
      obtain ⟨W2, hW2⟩ : ∃ W2, w2.alloc (.cells #[.int .u8 1] 5) = W2 := ⟨_, rfl⟩
      rw [hW2] at hbW hoW hs3
      have HW2 := Lib.hid hW2
      have HS2 := Lib.hid hs3
      have HO2 := Lib.hid hoW
      have HBB := Lib.hid (hB.trans (hbW.mono hB.size))
      clear ho2 hs2 hs3 hoW hW2 hbW hB
      go_wp2_with (rw [HW2.out]; at_builtin; refine wpList_append_bytes rfl _ _ rfl w.heap.size _ [1] rfl HO2.out a2 _ c2 pe rfl HS2.out (by have := HEL.out (by first | rfl | trivial); simp; omega) (by have := HBB.out.size; omega) ?_; intro v3 w3 ho3 hg3 _)
      go_ret2
      exact ⟨_, rfl, by rw [HEE.out, if_neg (by decide)]; exact ho3, HBB.out.grown hg3 HBB.out.size (fun k hk => (HO2.out.lt k hk).1)⟩
    · clear hvc
      go_enter Tryz.func14, Tryz.ntmps14
      go_wp2_with fail
      refine (HV.out _).mono ?_; rintro e w1 ⟨rfl, hB1⟩
      unfold Ext at hB1; rw [HZ.out] at hB1
      have hP1 : UBox w1 w.heap.size 2 sh ps px := (hB1.block _ (Nat.lt_succ_self _)).trans HBX.out
      have hz2 : w.heap.size < w1.heap.size := heap_lt hP1
      have hB := HB0.out.trans (hB1.mono (Nat.le_succ _))
      have hbW := (Below.refl w1.heap.size w1).alloc (Nat.le_refl _) (.cells #[.int .u8 2] 5)
      have hoW : OwnB w.heap.size (w1.alloc (.cells #[.int .u8 2] 5)) (.slice (some ⟨w1.heap.size, 0, none⟩) 1 1) [2] := OwnB.built w1 [2] hB.size (by unfold maxLen; simp)
      obtain ⟨W2, hW2⟩ : ∃ W2, w1.alloc (.cells #[.int .u8 2] 5) = W2 := ⟨_, rfl⟩
      rw [hW2] at hbW hoW
      obtain ⟨p0, p1, p2, p3⟩ := hP1.cells
      obtain ⟨q0, q1, q2, q3⟩ := (hP1.ext hbW).cells
      have hlt2 := heap_lt (hP1.ext hbW)
      have HW2 := Lib.hid hW2
      have HOW := Lib.hid hoW
      have HBW := Lib.hid (hB.trans (hbW.mono hB.size))
      clear hW2 hoW hbW hP1 hB
      go_wp2_with fail
      rw [HW2.out]
      go_wp2_with fail
      refine (HT.out _).mono ?_; rintro e w2 ⟨v2, rfl, ho2, hB2⟩
      obtain ⟨a2, c2, hv2, hs2, -⟩ := ho2.sl
      subst hv2
      have HS2 := Lib.hid hs2
      have HO2 := Lib.hid (HOW.out.ext hB2)
      have HBB := Lib.hid (HBW.out.trans (hB2.mono HBW.out.size))
      clear ho2 hs2
      go_wp2_with (at_builtin; refine wpList_append_bytes rfl _ _ rfl w.heap.size _ [2] rfl HO2.out a2 _ c2 te rfl HS2.out (by have := HTL.out; simp; omega) (by have := HBB.out.size; omega) ?_; intro v3 w3 ho3 hg3 _)
      go_ret2
      exact ⟨_, rfl, by rw [HEE.out]; simp only [↓reduceIte]; exact ho3, HBB.out.grown hg3 HBB.out.size (fun k hk => (HO2.out.lt k hk).1)⟩

end Go.Proofs.YtjfflnnepndlkaaGreatDoor

/-
  The walk through the reference's Decode of updates.
-/
namespace Go.Proofs.YtjfflnnepndlkaaGreatDoor
open Go.RowKit

set_option maxRecDepth 100000 in
set_option maxHeartbeats 8000000 in
theorem ru_decode (a : Option Addr) (n c : Nat) (b : List UInt8) (w : World) (h : SlB w a n c b) (hn : n ≤ 1000000) :
    Calls Tryz.prog 16 #[.slice a n c] w (UDecP b w) := by
  have hln := h.len
  cases b with
  | nil =>
    obtain rfl : n = 0 := hln.symm
    have HR := Lib.hid Upt.dec_nil
    clear h hln
    go_enter Tryz.func16, Tryz.ntmps16
    go_wp2_with fail
    refine bodyPost_ret (v := .tuple #[.agg #[.int .i64 0, .string ⟨#[]⟩, .bool false, .int .i64 0], .int .i64 5]) (by simp [results, Tryz.results16, go_sem]) rfl (UDecP.of HR.out rfl ?_)
    exact (Below.refl _ _).alloc (Nat.le_refl _) _
  | cons x t =>
    simp only [List.length_cons] at hln
    obtain ⟨bb, o, rfl, hbb, -, c0⟩ := h.at (show 0 < n by omega)
    simp only [List.getElem?_cons_zero, Option.getD_some, Nat.add_zero] at c0
    have n1 : (0 : Int) < (n : Int) := by omega
    have n2 : (1 : Int) ≤ (n : Int) := by omega
    have n3 : ((n : Int) == 0) = false := beq_eq_false_iff_ne.2 (by omega)
    have hR0 := UBox.new w 0 ⟨#[]⟩ false 0
    have hB0 := (Below.refl w.heap.size w).alloc (Nat.le_refl _) (.cells #[.int .i64 0, .string ⟨#[]⟩, .bool false, .int .i64 0] 28)
    have hz0 : (w.alloc (.cells #[.int .i64 0, .string ⟨#[]⟩, .bool false, .int .i64 0] 28)).heap.size = w.heap.size + 1 := by simp
    have hx8 : x.toNat < 256 := x.toNat_lt
    obtain ⟨xn, hxn⟩ : ∃ xn : Nat, x.toNat = xn := ⟨_, rfl⟩
    rw [hxn] at c0 hx8
    have hs1 := h.ext hB0
    obtain ⟨W1, hW1⟩ : ∃ W1, w.alloc (.cells #[.int .i64 0, .string ⟨#[]⟩, .bool false, .int .i64 0] 28) = W1 := ⟨_, rfl⟩
    rw [hW1] at hs1 hR0 hB0 hz0
    have c0' := (hB0.cell (p := ⟨bb, o, none⟩) hbb).trans c0
    have HW1 := Lib.hid hW1
    have HR1 := Lib.hid hR0
    have HB1 := Lib.hid hB0
    have HZ1 := Lib.hid hz0
    have HLN := Lib.hid hln
    clear hW1 hR0 hB0 hz0 h hln
    by_cases hx1 : x = 1
    · subst hx1
      obtain rfl : 1 = xn := hxn
      simp only [show ((1 : Nat) : Int) = 1 from rfl] at c0 c0'
      obtain ⟨q, m, z, hq⟩ : ∃ q m z, Pin.dec t = (q, m, z) := ⟨_, _, _, rfl⟩
      have HD := Lib.hid (fun a2 c2 (hs : SlB W1 a2 (n - 1) c2 t) => rp_decode a2 (n - 1) c2 t W1 hs (by omega))
      unfold PDecP at HD
      rw [hq] at HD
      have HQ := Lib.hid hq
      obtain ⟨qh, qs, qx⟩ := q
      unfold pv at HD
      simp only at HD
      obtain ⟨sq, hsq⟩ : ∃ sq, str qh = sq := ⟨_, rfl⟩
      rw [hsq] at HD
      have HSQ := Lib.hid hsq
      clear hq hsq hx8
      by_cases hz : z ≠ 0
      · have HR := Lib.hid (Upt.dec_1a HQ.out hz)
        have t1 : (z != 0) = true := by simpa using hz
        have t2 : (z == 0) = false := by simpa using hz
        clear hz
        go_enter Tryz.func16, Tryz.ntmps16
        go_wp2_with (refine wpList_from rfl _ _ rfl rfl 1 _ rfl rfl (by rw [HW1.out]; exact hs1) (by omega) ?_; intro a2 hsa2)
        rw [HW1.out] at hsa2 ⊢
        refine (HD.out _ _ hsa2).mono ?_; rintro e w2 ⟨rfl, hB2⟩
        have hR2 := HR1.out.ext hB2
        have hb2 := HB1.out.trans (hB2.mono HB1.out.size)
        obtain ⟨r0, r1, r2, r3⟩ := hR2.cells
        have fr := hR2.frz
        have lr := heap_lt hR2
        have HR3 := Lib.hid hR2
        have HB3 := Lib.hid hb2
        clear hR2 hb2
        go_wp2_with fail
        have hfin0 := set4 HR3.out (.int .i64 0) (.string ⟨#[]⟩) (.bool false) (.int .i64 0)
        have hfin := (heap_alloc_lt _ (.cells #[.string sq, .bool qs, .int .i64 qx] 26) _ (heap_lt hfin0)).trans hfin0
        have d0 := (cell_of_row _ _ 0 _ _ _ hfin).trans rfl
        have d1 := (cell_of_row _ _ 1 _ _ _ hfin).trans rfl
        have d2 := (cell_of_row _ _ 2 _ _ _ hfin).trans rfl
        have d3 := (cell_of_row _ _ 3 _ _ _ hfin).trans rfl
        refine bodyPost_ret (v := .tuple #[.agg #[.int .i64 0, .string ⟨#[]⟩, .bool false, .int .i64 0], .int .i64 z]) (by simp [results, Tryz.results16, go_sem, d0, d1, d2, d3]) rfl (UDecP.of HR.out rfl ?_)
        refine Below.alloc ((((HB3.out.setCell (p := ⟨w.heap.size, 0, none⟩) (Nat.le_refl _) _).setCell (p := ⟨w.heap.size, 1, none⟩) (Nat.le_refl _) _).setCell (p := ⟨w.heap.size, 2, none⟩) (Nat.le_refl _) _).setCell (p := ⟨w.heap.size, 3, none⟩) (Nat.le_refl _) _) ?_ _
        simpa using HB3.out.size
      obtain rfl : z = 0 := by simpa using hz
      have hmn : m ≤ t.length := (Pin.enc_dec HQ.out).2.2
      have g0 : (0 : Int) ≤ (m : Int) := by omega
      have g1 : (m : Int) ≤ 1000000 := by have := HLN.out; omega
      by_cases hm : m < t.length
      · have HR := Lib.hid (Upt.dec_1b HQ.out hm)
        have t1 : ((m : Int) + 1 != (n : Int)) = true := bne_iff_ne.2 (by have := HLN.out; omega)
        have t2 : ((m : Int) + 1 == (n : Int)) = false := beq_eq_false_iff_ne.2 (by have := HLN.out; omega)
        clear hm hz hmn
        go_enter Tryz.func16, Tryz.ntmps16
        go_wp2_with (refine wpList_from rfl _ _ rfl rfl 1 _ rfl rfl (by rw [HW1.out]; exact hs1) (by omega) ?_; intro a2 hsa2)
        rw [HW1.out] at hsa2 ⊢
        refine (HD.out _ _ hsa2).mono ?_; rintro e w2 ⟨rfl, hB2⟩
        have hR2 := HR1.out.ext hB2
        have hb2 := HB1.out.trans (hB2.mono HB1.out.size)
        obtain ⟨r0, r1, r2, r3⟩ := hR2.cells
        have fr := hR2.frz
        have lr := heap_lt hR2
        have HR3 := Lib.hid hR2
        have HB3 := Lib.hid hb2
        clear hR2 hb2
        go_wp2_with fail
        have hfin0 := set4 HR3.out (.int .i64 0) (.string ⟨#[]⟩) (.bool false) (.int .i64 0)
        have hfin := (heap_alloc_lt _ (.cells #[.string sq, .bool qs, .int .i64 qx] 26) _ (heap_lt hfin0)).trans hfin0
        have d0 := (cell_of_row _ _ 0 _ _ _ hfin).trans rfl
        have d1 := (cell_of_row _ _ 1 _ _ _ hfin).trans rfl
        have d2 := (cell_of_row _ _ 2 _ _ _ hfin).trans rfl
        have d3 := (cell_of_row _ _ 3 _ _ _ hfin).trans rfl
        refine bodyPost_ret (v := .tuple #[.agg #[.int .i64 0, .string ⟨#[]⟩, .bool false, .int .i64 0], .int .i64 6]) (by simp [results, Tryz.results16, go_sem, d0, d1, d2, d3]) rfl (UDecP.of HR.out rfl ?_)
        refine Below.alloc ((((HB3.out.setCell (p := ⟨w.heap.size, 0, none⟩) (Nat.le_refl _) _).setCell (p := ⟨w.heap.size, 1, none⟩) (Nat.le_refl _) _).setCell (p := ⟨w.heap.size, 2, none⟩) (Nat.le_refl _) _).setCell (p := ⟨w.heap.size, 3, none⟩) (Nat.le_refl _) _) ?_ _
        simpa using HB3.out.size
      · have HR := Lib.hid (Upt.dec_1c HQ.out hm)
        have t1 : ((m : Int) + 1 != (n : Int)) = false := by
          have := HLN.out
          rw [show (m : Int) + 1 = (n : Int) by omega]; simp
        have t2 : ((m : Int) + 1 == (n : Int)) = true := beq_iff_eq.2 (by have := HLN.out; omega)
        clear hm hz hmn
        go_enter Tryz.func16, Tryz.ntmps16
        go_wp2_with (refine wpList_from rfl _ _ rfl rfl 1 _ rfl rfl (by rw [HW1.out]; exact hs1) (by omega) ?_; intro a2 hsa2)
        rw [HW1.out] at hsa2 ⊢
        refine (HD.out _ _ hsa2).mono ?_; rintro e w2 ⟨rfl, hB2⟩
        have hR2 := HR1.out.ext hB2
        have hb2 := HB1.out.trans (hB2.mono HB1.out.size)
        obtain ⟨r0, r1, r2, r3⟩ := hR2.cells
        have fr := hR2.frz
        have lr := heap_lt hR2
        have HR3 := Lib.hid hR2
        have HB3 := Lib.hid hb2
        clear hR2 hb2
        go_wp2_with fail
        have hfin0 := set4 HR3.out (.int .i64 1) (.string sq) (.bool qs) (.int .i64 qx)
        have hfin := (heap_alloc_lt _ (.cells #[.string sq, .bool qs, .int .i64 qx] 26) _ (heap_lt hfin0)).trans hfin0
        have d0 := (cell_of_row _ _ 0 _ _ _ hfin).trans rfl
        have d1 := (cell_of_row _ _ 1 _ _ _ hfin).trans rfl
        have d2 := (cell_of_row _ _ 2 _ _ _ hfin).trans rfl
        have d3 := (cell_of_row _ _ 3 _ _ _ hfin).trans rfl
        refine bodyPost_ret (v := .tuple #[.agg #[.int .i64 1, .string sq, .bool qs, .int .i64 qx], .int .i64 0]) (by simp [results, Tryz.results16, go_sem, d0, d1, d2, d3]) rfl (UDecP.of HR.out (by unfold uv uc; simp only; rw [HSQ.out]) ?_)
        refine Below.alloc ((((HB3.out.setCell (p := ⟨w.heap.size, 0, none⟩) (Nat.le_refl _) _).setCell (p := ⟨w.heap.size, 1, none⟩) (Nat.le_refl _) _).setCell (p := ⟨w.heap.size, 2, none⟩) (Nat.le_refl _) _).setCell (p := ⟨w.heap.size, 3, none⟩) (Nat.le_refl _) _) ?_ _
        simpa using HB3.out.size
    by_cases hx2 : x = 2
    · subst hx2
      obtain rfl : 2 = xn := hxn
      simp only [show ((2 : Nat) : Int) = 2 from rfl] at c0 c0'
      obtain ⟨q, m, z, hq⟩ : ∃ q m z, Wire.decT t = (q, m, z) := ⟨_, _, _, rfl⟩
      have HD := Lib.hid (fun a2 c2 (hs : SlB W1 a2 (n - 1) c2 t) => rw_decText a2 (n - 1) c2 t W1 hs (by omega))
      rw [hq] at HD
      have HQ := Lib.hid hq
      simp only at HD
      obtain ⟨sq, hsq⟩ : ∃ sq, str q = sq := ⟨_, rfl⟩
      rw [hsq] at HD
      have HSQ := Lib.hid hsq
      clear hq hsq hx8 hx1
      by_cases hz : z ≠ 0
      · have HR := Lib.hid (Upt.dec_2a HQ.out hz)
        have t1 : (z != 0) = true := by simpa using hz
        have t2 : (z == 0) = false := by simpa using hz
        clear hz
        go_enter Tryz.func16, Tryz.ntmps16
        go_wp2_with (refine wpList_from rfl _ _ rfl rfl 1 _ rfl rfl (by rw [HW1.out]; exact hs1) (by omega) ?_; intro a2 hsa2)
        rw [HW1.out] at hsa2 ⊢
        refine (HD.out _ _ hsa2).mono ?_; rintro e w2 ⟨rfl, rfl⟩
        obtain ⟨r0, r1, r2, r3⟩ := HR1.out.cells
        have fr := HR1.out.frz
        have lr := heap_lt HR1.out
        go_wp2_with fail
        have hfin := set4 HR1.out (.int .i64 0) (.string ⟨#[]⟩) (.bool false) (.int .i64 0)
        have d0 := (cell_of_row _ _ 0 _ _ _ hfin).trans rfl
        have d1 := (cell_of_row _ _ 1 _ _ _ hfin).trans rfl
        have d2 := (cell_of_row _ _ 2 _ _ _ hfin).trans rfl
        have d3 := (cell_of_row _ _ 3 _ _ _ hfin).trans rfl
        refine bodyPost_ret (v := .tuple #[.agg #[.int .i64 0, .string ⟨#[]⟩, .bool false, .int .i64 0], .int .i64 z]) (by simp [results, Tryz.results16, go_sem, d0, d1, d2, d3]) rfl (UDecP.of HR.out rfl ?_)
        exact (((HB1.out.setCell (p := ⟨w.heap.size, 0, none⟩) (Nat.le_refl _) _).setCell (p := ⟨w.heap.size, 1, none⟩) (Nat.le_refl _) _).setCell (p := ⟨w.heap.size, 2, none⟩) (Nat.le_refl _) _).setCell (p := ⟨w.heap.size, 3, none⟩) (Nat.le_refl _) _
      obtain rfl : z = 0 := by simpa using hz
      obtain ⟨-, hmn, hql, -, -⟩ := Wire.txt_decT HQ.out
      have g0 : (0 : Int) ≤ (m : Int) := by omega
      have g1 : (m : Int) ≤ 1000000 := by have := HLN.out; omega
      by_cases hm : m < t.length
      · have HR := Lib.hid (Upt.dec_2b HQ.out hm)
        have t1 : ((m : Int) + 1 != (n : Int)) = true := bne_iff_ne.2 (by have := HLN.out; omega)
        have t2 : ((m : Int) + 1 == (n : Int)) = false := beq_eq_false_iff_ne.2 (by have := HLN.out; omega)
        clear hm hz hmn
        go_enter Tryz.func16, Tryz.ntmps16
        go_wp2_with (refine wpList_from rfl _ _ rfl rfl 1 _ rfl rfl (by rw [HW1.out]; exact hs1) (by omega) ?_; intro a2 hsa2)
        rw [HW1.out] at hsa2 ⊢
        refine (HD.out _ _ hsa2).mono ?_; rintro e w2 ⟨rfl, rfl⟩
        obtain ⟨r0, r1, r2, r3⟩ := HR1.out.cells
        have fr := HR1.out.frz
        have lr := heap_lt HR1.out
        go_wp2_with fail
        have hfin := set4 HR1.out (.int .i64 0) (.string ⟨#[]⟩) (.bool false) (.int .i64 0)
        have d0 := (cell_of_row _ _ 0 _ _ _ hfin).trans rfl
        have d1 := (cell_of_row _ _ 1 _ _ _ hfin).trans rfl
        have d2 := (cell_of_row _ _ 2 _ _ _ hfin).trans rfl
        have d3 := (cell_of_row _ _ 3 _ _ _ hfin).trans rfl
        refine bodyPost_ret (v := .tuple #[.agg #[.int .i64 0, .string ⟨#[]⟩, .bool false, .int .i64 0], .int .i64 6]) (by simp [results, Tryz.results16, go_sem, d0, d1, d2, d3]) rfl (UDecP.of HR.out rfl ?_)
        exact (((HB1.out.setCell (p := ⟨w.heap.size, 0, none⟩) (Nat.le_refl _) _).setCell (p := ⟨w.heap.size, 1, none⟩) (Nat.le_refl _) _).setCell (p := ⟨w.heap.size, 2, none⟩) (Nat.le_refl _) _).setCell (p := ⟨w.heap.size, 3, none⟩) (Nat.le_refl _) _
      have t1 : ((m : Int) + 1 != (n : Int)) = false := by
        have := HLN.out
        rw [show (m : Int) + 1 = (n : Int) by omega]; simp
      have t2 : ((m : Int) + 1 == (n : Int)) = true := beq_iff_eq.2 (by have := HLN.out; omega)
      have HV := Lib.hid (fun W => hr_validName q (by omega) W)
      rw [HSQ.out] at HV
      cases hnm : Host.name q with
      | false =>
        have HR := Lib.hid (Upt.dec_2c HQ.out hm hnm)
        rw [hnm] at HV
        clear hm hz hmn hql hnm
        go_enter Tryz.func16, Tryz.ntmps16
        go_wp2_with (refine wpList_from rfl _ _ rfl rfl 1 _ rfl rfl (by rw [HW1.out]; exact hs1) (by omega) ?_; intro a2 hsa2)
        rw [HW1.out] at hsa2 ⊢
        refine (HD.out _ _ hsa2).mono ?_; rintro e w2 ⟨rfl, rfl⟩
        obtain ⟨r0, r1, r2, r3⟩ := HR1.out.cells
        have fr := HR1.out.frz
        have lr := heap_lt HR1.out
        go_wp2_with fail
        refine (HV.out _).mono ?_; rintro e w4 ⟨rfl, hB4⟩
        have hR5 := HR1.out.ext hB4
        clear r0 r1 r2 r3 fr lr
        obtain ⟨r0, r1, r2, r3⟩ := hR5.cells
        have fr := hR5.frz
        have lr := heap_lt hR5
        have HR5 := Lib.hid hR5
        have HB5 := Lib.hid (HB1.out.trans (Below.mono hB4 HB1.out.size))
        clear hR5
        go_wp2_with fail
        have hfin := set4 HR5.out (.int .i64 0) (.string ⟨#[]⟩) (.bool false) (.int .i64 0)
        have d0 := (cell_of_row _ _ 0 _ _ _ hfin).trans rfl
        have d1 := (cell_of_row _ _ 1 _ _ _ hfin).trans rfl
        have d2 := (cell_of_row _ _ 2 _ _ _ hfin).trans rfl
        have d3 := (cell_of_row _ _ 3 _ _ _ hfin).trans rfl
        refine bodyPost_ret (v := .tuple #[.agg #[.int .i64 0, .string ⟨#[]⟩, .bool false, .int .i64 0], .int .i64 14]) (by simp [results, Tryz.results16, go_sem, d0, d1, d2, d3]) rfl (UDecP.of HR.out rfl ?_)
        exact (((HB5.out.setCell (p := ⟨w.heap.size, 0, none⟩) (Nat.le_refl _) _).setCell (p := ⟨w.heap.size, 1, none⟩) (Nat.le_refl _) _).setCell (p := ⟨w.heap.size, 2, none⟩) (Nat.le_refl _) _).setCell (p := ⟨w.heap.size, 3, none⟩) (Nat.le_refl _) _
      | true =>
        have HR := Lib.hid (Upt.dec_2d HQ.out hm hnm)
        rw [hnm] at HV
        clear hm hz hmn hql hnm
        go_enter Tryz.func16, Tryz.ntmps16
        go_wp2_with (refine wpList_from rfl _ _ rfl rfl 1 _ rfl rfl (by rw [HW1.out]; exact hs1) (by omega) ?_; intro a2 hsa2)
        rw [HW1.out] at hsa2 ⊢
        refine (HD.out _ _ hsa2).mono ?_; rintro e w2 ⟨rfl, rfl⟩
        obtain ⟨r0, r1, r2, r3⟩ := HR1.out.cells
        have fr := HR1.out.frz
        have lr := heap_lt HR1.out
        go_wp2_with fail
        refine (HV.out _).mono ?_; rintro e w4 ⟨rfl, hB4⟩
        have hR5 := HR1.out.ext hB4
        clear r0 r1 r2 r3 fr lr
        obtain ⟨r0, r1, r2, r3⟩ := hR5.cells
        have fr := hR5.frz
        have lr := heap_lt hR5
        have HR5 := Lib.hid hR5
        have HB5 := Lib.hid (HB1.out.trans (Below.mono hB4 HB1.out.size))
        clear hR5
        go_wp2_with fail
        have hfin := set4 HR5.out (.int .i64 2) (.string sq) (.bool false) (.int .i64 0)
        have d0 := (cell_of_row _ _ 0 _ _ _ hfin).trans rfl
        have d1 := (cell_of_row _ _ 1 _ _ _ hfin).trans rfl
        have d2 := (cell_of_row _ _ 2 _ _ _ hfin).trans rfl
        have d3 := (cell_of_row _ _ 3 _ _ _ hfin).trans rfl
        refine bodyPost_ret (v := .tuple #[.agg #[.int .i64 2, .string sq, .bool false, .int .i64 0], .int .i64 0]) (by simp [results, Tryz.results16, go_sem, d0, d1, d2, d3]) rfl (UDecP.of HR.out (by unfold uv uc; simp only; rw [HSQ.out]) ?_)
        exact (((HB5.out.setCell (p := ⟨w.heap.size, 0, none⟩) (Nat.le_refl _) _).setCell (p := ⟨w.heap.size, 1, none⟩) (Nat.le_refl _) _).setCell (p := ⟨w.heap.size, 2, none⟩) (Nat.le_refl _) _).setCell (p := ⟨w.heap.size, 3, none⟩) (Nat.le_refl _) _
    have hx1' : xn ≠ 1 := fun e => hx1 (UInt8.toNat_inj.1 (hxn.trans e))
    have hx2' : xn ≠ 2 := fun e => hx2 (UInt8.toNat_inj.1 (hxn.trans e))
    have HR := Lib.hid (Upt.dec_o (t := t) hx1 hx2)
    have t1 : ((xn : Int) == 1) = false := beq_eq_false_iff_ne.2 (by omega)
    have t2 : ((xn : Int) == 2) = false := beq_eq_false_iff_ne.2 (by omega)
    clear hx1 hx2 hx1' hx2' hxn hs1
    go_enter Tryz.func16, Tryz.ntmps16
    go_wp2_with fail
    refine bodyPost_ret (v := .tuple #[.agg #[.int .i64 0, .string ⟨#[]⟩, .bool false, .int .i64 0], .int .i64 6]) (by simp [results, Tryz.results16, go_sem]) rfl (UDecP.of HR.out rfl ?_)
    rw [HW1.out]
    exact HB1.out

end Go.Proofs.YtjfflnnepndlkaaGreatDoor

/-
  keep.OwnState.
-/
namespace Go.Proofs.YtjfflnnepndlkaaGreatDoor
open Go.RowKit

theorem SBox.set2' {w : World} {B : Nat} {c : Int} {v : Value} (hb : SBox w B c v) (c' : Int) (v' : Value) : SBox ((w.setCell ⟨B, 0, none⟩ (.int .i64 c')).setCell ⟨B, 1, none⟩ v') B c' v' :=
  heap_setCell_same _ B 1 _ _ _ (heap_setCell_same _ B 0 _ _ _ hb)
theorem SBox.other' {w : World} {B : Nat} {c : Int} {v : Value} (hb : SBox w B c v) {g : Nat} (hne : g ≠ B) (i : Nat) (u : Value) : SBox (w.setCell ⟨g, i, none⟩ u) B c v :=
  (heap_setCell_other _ _ _ _ (fun e => hne e.symm)).trans hb
theorem OwnN.set' {base : Nat} {w : World} {v : Value} {l : List Pin} (h : OwnN base w v l) {g : Nat} (hne : v.ownBlock ≠ some g) (i : Nat) (u : Value) : OwnN base (w.setCell ⟨g, i, none⟩ u) v l :=
  h.stay fun k hk => heap_setCell_other _ _ _ _ (fun e => hne (by rw [hk, e]))
theorem SBox.frz' {w : World} {B : Nat} {c : Int} {v : Value} (hb : SBox w B c v) : ∀ j, w.frozen? ⟨B, j, none⟩ = false := fun _ => frozen_of_row _ _ _ _ _ hb

theorem keep_ownPins' (a : Option Addr) (n c : Nat) (l : List Pin) (w : World) (h : SlN w a n c l) (hn : n ≤ 1000000) :
    Calls Tryz.prog 20 #[.slice a n c] w fun e w' => ∃ a9 c9, e = .returned (.slice a9 n c9) ∧ OwnN w.heap.size w' (.slice a9 n c9) l ∧ Below w.heap.size w w' :=
  (keep_ownPins a n c l w h hn).mono fun e w' ⟨v, he, ho, hb⟩ => by
    obtain ⟨a9, c9, hv, -, -⟩ := ho.sl
    rw [h.len] at hv
    subst hv
    exact ⟨a9, c9, he, ho, hb⟩

set_option maxRecDepth 100000 in
set_option maxHeartbeats 2000000 in
theorem keep_ownState (x : Int) (a : Option Addr) (n c : Nat) (ls : List Pin) (w : World) (h : SlN w a n c ls) (hn : n ≤ 1000000) :
    Calls Tryz.prog 7 #[sv x (.slice a n c)] w fun e w' => ∃ a9 c9, e = .returned (sv x (.slice a9 n c9)) ∧ OwnN w.heap.size w' (.slice a9 n c9) ls ∧ Ext w w' := by
  have hb0 := (Below.refl w.heap.size w).alloc (Nat.le_refl _) (.cells #[.int .i64 x, .slice a n c] 24)
  have hs0 := SBox.new w x (.slice a n c)
  unfold sv
  obtain ⟨W0, hW0⟩ : ∃ W0, w.alloc (.cells #[.int .i64 x, .slice a n c] 24) = W0 := ⟨_, rfl⟩
  have hz0 : W0.heap.size = w.heap.size + 1 := by rw [← hW0]; simp
  rw [hW0] at hb0 hs0
  have hb1 := (Below.refl W0.heap.size W0).alloc (Nat.le_refl _) (.cells #[.int .i64 0, .slice none 0 0] 24)
  have hs1 := SBox.new W0 0 (.slice none 0 0)
  rw [hz0] at hs1
  have hs0' := hs0.ext hb1
  have hB : Ext w (W0.alloc (.cells #[.int .i64 0, .slice none 0 0] 24)) := hb0.trans (hb1.mono hb0.size)
  obtain ⟨W1, hW1⟩ : ∃ W1, W0.alloc (.cells #[.int .i64 0, .slice none 0 0] 24) = W1 := ⟨_, rfl⟩
  rw [hW1] at hs1 hs0' hB
  have HK := Lib.hid (keep_ownPins' a n c ls W1.drew (h.ext hB.drew) hn)
  obtain ⟨q0, q1⟩ := hs0'.cells
  have l0 := heap_lt hs0'
  have HKS := Lib.hid (show ∀ W, SBox W w.heap.size x (.slice a n c) → SBox W w.heap.size x (.slice a n c) ∧ W.cell? ⟨w.heap.size, 0, none⟩ = some (.int .i64 x) ∧ W.cell? ⟨w.heap.size, 1, none⟩ = some (.slice a n c) ∧ w.heap.size < W.heap.size from fun W h => ⟨h, h.cells.1, h.cells.2, heap_lt h⟩)
  have HW0 := Lib.hid hW0
  have HW1 := Lib.hid hW1
  have HB := Lib.hid hB
  have HS0 := Lib.hid hs0'
  have HS1 := Lib.hid hs1
  clear hs0 hs0' hs1 hb0 hb1 hW0 hW1 hB h hz0
  go_enter Tryz.func7, Tryz.ntmps7
  go_wp2_with fail
  rw [HW0.out, HW1.out]
  go_region_held3 (fun w' => SBox w' w.heap.size x (.slice a n c) ∧ w'.cell? ⟨w.heap.size, 0, none⟩ = some (.int .i64 x) ∧ w'.cell? ⟨w.heap.size, 1, none⟩ = some (.slice a n c) ∧ w.heap.size < w'.heap.size) (first | assumption | exact HKS.out _ HS0.out | exact HKS.out _ hS1 | exact HKS.out _ ((hS1.other' (by omega) _ _).other' (by omega) _ _)) (first | (go_at_call 20; go_must (refine HK.out.mono ?_); rintro e w1 ⟨a1, c1, rfl, ho, hb1⟩; have hS1 : SBox w1 w.heap.size x (.slice a n c) := SBox.ext (w := W1.drew) HS0.out hb1; have HR1 := Lib.hid (SBox.ext (w := W1.drew) HS1.out hb1); obtain ⟨r0, r1⟩ := HR1.out.cells; have fr := HR1.out.frz'; have lr := heap_lt HR1.out))
  have hfin := (HR1.out).set2' x (.slice a1 n c1)
  have d0 := hfin.cells.1
  have d1 := hfin.cells.2
  clear r0 r1 fr lr hS1 q0 q1 l0
  go_wp2_with fail
  have hbb := HB.out.drew.trans (hb1.mono HB.out.size)
  have hz1 : w.heap.size + 1 < W1.heap.size := heap_lt HS1.out
  refine bodyPost_ret (v := .agg #[.int .i64 x, .slice a1 n c1]) (by simp [results, Tryz.results7, go_sem, d0, d1]) rfl ⟨a1, c1, rfl, ?_, ?_⟩
  · have hne : (Value.slice a1 n c1).ownBlock ≠ some (w.heap.size + 1) := fun e => by
      have := (ho.lt _ e).1
      simp at this; omega
    exact ((ho.set' hne 0 _).set' hne 1 _).mono HB.out.size
  · exact (hbb.setCell (p := ⟨w.heap.size + 1, 0, none⟩) (Nat.le_succ _) _).setCell (p := ⟨w.heap.size + 1, 1, none⟩) (Nat.le_succ _) _

end Go.Proofs.YtjfflnnepndlkaaGreatDoor
