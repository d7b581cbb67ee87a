/-
  The walk of the statement PinRoundTrip.
-/
import Derived.Test.YtcmeajaakdaeeaaDoorPinL3
namespace Go.Proofs.YtcmeajaakdaeeaaDoor
open Go.RowKit

set_option maxRecDepth 100000 in
theorem run_cut {w : World} {a : Option Addr} {n c : Nat} {l : List UInt8} (h : SlB w a n c l) {m : Nat} (hm : m ≤ n) :
    ∃ a2, (Instr.sliceAt 24 (.slice a n c) none (some (.int .i64 (m : Int))) none).run Tryd.prog w = .ok (.slice a2 m c) w ∧ SlB w a2 m c (l.take m) := by
  have hmc : (m : Int) ≤ (c : Int) := by have := h.2.1; omega
  have e1 := run_sliceAt_slice (P := Tryd.prog) (w := w) 24 (.slice a n c) none (some (.int .i64 (m : Int))) none Tryd.underlying24
  have e2 := run_slice_h (P := Tryd.prog) (w := w) 24 a n c Tryd.underlying24 .i64 (m : Int) (by omega) hmc
  by_cases hc : c = 0
  · refine ⟨a, ?_, h.take hm⟩
    rw [e1, e2]; subst hc; simp [go_sem, sliced]
  · cases a with
    | none => exact absurd (h.2.2.2.1 rfl).2 hc
    | some z =>
      by_cases hl : l = []
      · subst hl
        refine ⟨some (z.add 0), ?_, ?_⟩
        · rw [e1, e2]; simp [go_sem, sliced, hc]
        · have h6 := h.take hm
          exact ⟨h6.1, h6.2.1, h6.2.2.1, (fun e => by cases e), fun x hx i hi => by simp at hi⟩
      · have hs := (h.2.2.2.2 z rfl 0 (List.length_pos_iff.2 hl)).1
        obtain ⟨zb, zo, zs⟩ := z
        simp only at hs; subst hs
        refine ⟨some ⟨zb, zo, none⟩, ?_, h.take hm⟩
        rw [e1, e2]; simp [go_sem, sliced, hc, Addr.add]

theorem Pin.rt {p : Pin} (hv : Pin.valid p = true) (b : List UInt8) : ∃ E, Pin.enc p = E ∧ E.length ≤ 283 ∧ Pin.dec (E ++ b) = (p, E.length, 0) := ⟨_, rfl, (Pin.enc_len hv).1, Pin.dec_enc hv b⟩

set_option maxHeartbeats 4000000 in
set_option maxRecDepth 100000 in
theorem pin_roundtrip (p : Pin) (a : Option Addr) (n c : Nat) (b : List UInt8) (w : World) (_h0 : (Lit.int .i64 p.x).wf = true) (h : SlB w a n c b) :
    Calls Tryd.prog 4 #[pv p, .slice a n c] w fun e w' => e = .returned (.bool true) ∧ Below w.heap.size w w' := by
  have hle := h.le
  have hln := h.len
  have HAW := Lib.hid pin_awake
  have hsz := strSize p.h
  by_cases h4 : 400 < p.h.length
  · have t4 : (400 : Int) < (p.h.length : Int) := by omega
    have hb0 := (Below.refl w.heap.size w).alloc (Nat.le_refl _) (.cells (pc p) 23)
    unfold pc at hb0
    unfold pv
    obtain ⟨ph, ps, px⟩ := p
    simp only at t4 hb0 hsz ⊢
    generalize str ph = sh at *
    have HB0 := Lib.hid hb0
    clear hb0 h h4 hln
    go_enter Tryd.func4, Tryd.ntmps4
    go_wp2_with fail
    refine (HAW.out _).mono ?_; rintro e w4 ⟨rfl, hb4⟩
    go_wp2_with fail
    go_ret
    exact ⟨rfl, HB0.out.trans (hb4.mono (HB0.out).size)⟩
  have t4 : ¬ (400 : Int) < (p.h.length : Int) := by omega
  by_cases h5 : 5000 < n
  · have t5 : (5000 : Int) < (n : Int) := by omega
    have hb0 := (Below.refl w.heap.size w).alloc (Nat.le_refl _) (.cells (pc p) 23)
    unfold pc at hb0
    unfold pv
    obtain ⟨ph, ps, px⟩ := p
    simp only at t4 hb0 hsz ⊢
    generalize str ph = sh at *
    have HB0 := Lib.hid hb0
    clear hb0 h h4 h5 hln
    go_enter Tryd.func4, Tryd.ntmps4
    go_wp2_with fail
    refine (HAW.out _).mono ?_; rintro e w4 ⟨rfl, hb4⟩
    go_wp2_with fail
    go_ret
    exact ⟨rfl, HB0.out.trans (hb4.mono (HB0.out).size)⟩
  have t5 : ¬ (5000 : Int) < (n : Int) := by omega
  have he1 := fun w => pi_encode p (by omega) w
  have hv1 := fun w => pi_valid p (by omega) w
  have hd1 := fun w h => pi_decode a n c b w h (by omega)
  have hbw := (Below.refl w.heap.size w).alloc (Nat.le_refl _) (.cells (pc p) 23)
  unfold PEncP at he1
  unfold PDecP at hd1
  have HLN := Lib.hid hln
  have HLT := Lib.hid (show n ≤ 5000 by omega)
  obtain ⟨⟨q, n2, er2⟩, hr⟩ : ∃ r, Pin.dec b = r := ⟨_, rfl⟩
  rw [hr] at hd1
  have HR := Lib.hid hr
  clear hr
  have HRT := Lib.hid (fun hv => Pin.rt (p := p) hv b)
  have HDD := Lib.hid (fun v m d L W hs hm => pi_decode v m d L W hs hm)
  unfold PDecP at HDD
  cases hv : Pin.valid p
  · rw [hv] at he1 hv1
    clear hv
    obtain ⟨ph, ps, px⟩ := p
    unfold pv at he1 hv1 hd1 ⊢
    unfold pc at hbw
    simp only at he1 hbw hd1 hv1 t4 hsz HRT ⊢
    rw [if_neg (by decide), if_neg (by decide)] at he1
    generalize str ph = sh at *
    have HE1 := Lib.hid he1; have HV1 := Lib.hid hv1; have HB := Lib.hid (PBox.new w sh ps px); have HW := Lib.hid hbw
    clear he1 hv1 hbw h4 h5
    by_cases e0 : er2 = 0
    · subst e0
      obtain ⟨z1, z2, z3⟩ := Pin.enc_dec HR.out
      have hqe := fun w => pi_encode q (by have := Pin.name_len ((Pin.valid_iff q).1 z1).1; omega) w
      unfold PEncP at hqe
      rw [z1, if_pos rfl, if_pos rfl, ← z2] at hqe
      rw [hln] at z3
      have z4 : (n2 : Int) ≤ (n : Int) := by omega
      have z5 : (0 : Int) ≤ (n2 : Int) := by omega
      have HZ := Lib.hid (And.intro z2 z3)
      clear z1 z2 z3 HR
      obtain ⟨qh, qs, qx⟩ := q
      unfold pv at hqe
      simp only at hd1 hqe
      generalize str qh = sh2 at *
      have HD1 := Lib.hid hd1
      clear hd1 hln
      have HQE := Lib.hid hqe; clear hqe
      go_enter Tryd.func4, Tryd.ntmps4
      go_wp2_with fail
      refine (HD1.out _ (h.ext HW.out)).mono ?_; rintro e w1 ⟨rfl, hb1⟩
      have hP1 := HB.out.ext hb1
      have hw1 := HW.out.trans (hb1.mono (HW.out).size)
      have hwa := hw1.alloc hw1.size (.cells #[.string sh2, .bool qs, .int .i64 qx] 23)
      have hPa := hP1.ext ((Below.refl w1.heap.size w1).alloc (Nat.le_refl _) (.cells #[.string sh2, .bool qs, .int .i64 qx] 23))
      obtain ⟨u0, u1, u2⟩ := hPa.cells
      have hlta := heap_lt hPa
      obtain ⟨u3, u4, u5⟩ := (PBox.new w1 sh2 qs qx).cells
      have hlt1 := heap_lt hP1
      go_wp2_with fail
      refine (HQE.out _).mono ?_; rintro e w2 ⟨vc, rfl, hoc, hb2⟩
      obtain ⟨ac, kc, rfl, hsc, -⟩ := hoc.sl
      have hlc : (b.take n2).length = n2 := by rw [List.length_take, HLN.out]; exact Nat.min_eq_left HZ.out.2
      rw [hlc] at hsc ⊢
      clear hlc u0 u1 u2 u3 u4 u5
      have hPz := hPa.ext hb2
      have hwz := hwa.trans (hb2.mono hwa.size)
      clear hP1 hPa
      obtain ⟨ab, hcut, hsb⟩ := run_cut (h.ext hwz) HZ.out.2
      obtain ⟨r0, r1, r2⟩ := hPz.cells
      have hltz := heap_lt hPz
      go_wp2_with fail
      refine (keep_bytes _ _ _ _ _ _ _ _ _ hsc hsb).mono ?_; rintro e w3 ⟨rfl, rfl⟩
      have tk : (b.take n2 == b.take n2) = true := by simp
      go_wp2_with fail
      refine (HE1.out _).mono ?_; rintro e y1 ⟨v1, rfl, ho1, hb1⟩
      obtain ⟨a1, c1, rfl, hs1, -⟩ := ho1.sl
      have hPy := hPz.ext hb1
      have hwy := hwz.trans (hb1.mono hwz.size)
      clear hPz
      obtain ⟨r0, r1, r2⟩ := hPy.cells
      have hlty := heap_lt hPy
      go_wp2_with fail
      refine (HV1.out _).mono ?_; rintro e y2 ⟨rfl, hb2⟩
      have hwy2 := hwy.trans (hb2.mono hwy.size)
      go_wp2_with fail
      refine (HAW.out _).mono ?_; rintro e y3 ⟨rfl, hb3⟩
      go_wp2_with fail
      go_ret
      exact ⟨rfl, hwy2.trans (hb3.mono hwy2.size)⟩
    · obtain ⟨qh, qs, qx⟩ := q
      simp only at hd1
      generalize str qh = sh2 at *
      have HD1 := Lib.hid hd1
      clear hd1 hln
      have te : (er2 == 0) = false := by simpa using e0
      clear e0 HR
      go_enter Tryd.func4, Tryd.ntmps4
      go_wp2_with fail
      refine (HD1.out _ (h.ext HW.out)).mono ?_; rintro e w1 ⟨rfl, hb1⟩
      have hP1 := HB.out.ext hb1
      have hw1 := HW.out.trans (hb1.mono (HW.out).size)
      have hwa := hw1.alloc hw1.size (.cells #[.string sh2, .bool qs, .int .i64 qx] 23)
      have hPa := hP1.ext ((Below.refl w1.heap.size w1).alloc (Nat.le_refl _) (.cells #[.string sh2, .bool qs, .int .i64 qx] 23))
      obtain ⟨u0, u1, u2⟩ := hPa.cells
      have hlta := heap_lt hPa
      have hPz := hPa
      have hwz := hwa
      clear hP1 hPa
      go_wp2_with fail
      refine (HE1.out _).mono ?_; rintro e y1 ⟨v1, rfl, ho1, hb1⟩
      obtain ⟨a1, c1, rfl, hs1, -⟩ := ho1.sl
      have hPy := hPz.ext hb1
      have hwy := hwz.trans (hb1.mono hwz.size)
      clear hPz
      obtain ⟨r0, r1, r2⟩ := hPy.cells
      have hlty := heap_lt hPy
      go_wp2_with fail
      refine (HV1.out _).mono ?_; rintro e y2 ⟨rfl, hb2⟩
      have hwy2 := hwy.trans (hb2.mono hwy.size)
      go_wp2_with fail
      refine (HAW.out _).mono ?_; rintro e y3 ⟨rfl, hb3⟩
      go_wp2_with fail
      go_ret
      exact ⟨rfl, hwy2.trans (hb3.mono hwy2.size)⟩
  · rw [hv] at he1 hv1
    have HRT := Lib.hid (HRT.out hv)
    clear hv
    obtain ⟨ph, ps, px⟩ := p
    unfold pv at he1 hv1 hd1 ⊢
    unfold pc at hbw
    simp only at he1 hbw hd1 hv1 t4 hsz ⊢
    obtain ⟨E, hE1, hE2, hE3⟩ := HRT.out
    rw [if_pos trivial, if_pos trivial, hE1] at he1
    have hdd := fun v m d W hs hm => HDD.out v m d (E ++ b) W hs hm
    rw [hE3] at hdd
    unfold pv at hdd
    simp only at hdd
    have HEL := Lib.hid hE2
    obtain ⟨lE, hlE⟩ : ∃ k, E.length = k := ⟨_, rfl⟩
    rw [hlE] at hdd
    have HLE := Lib.hid hlE
    clear hE1 hE2 hE3 HRT hlE
    generalize str ph = sh at *
    have HE1 := Lib.hid he1; have HV1 := Lib.hid hv1; have HB := Lib.hid (PBox.new w sh ps px); have HW := Lib.hid hbw
    have HD2 := Lib.hid hdd; clear hdd
    clear he1 hv1 hbw h4 h5
    by_cases e0 : er2 = 0
    · subst e0
      obtain ⟨z1, z2, z3⟩ := Pin.enc_dec HR.out
      have hqe := fun w => pi_encode q (by have := Pin.name_len ((Pin.valid_iff q).1 z1).1; omega) w
      unfold PEncP at hqe
      rw [z1, if_pos rfl, if_pos rfl, ← z2] at hqe
      rw [hln] at z3
      have z4 : (n2 : Int) ≤ (n : Int) := by omega
      have z5 : (0 : Int) ≤ (n2 : Int) := by omega
      have HZ := Lib.hid (And.intro z2 z3)
      clear z1 z2 z3 HR
      obtain ⟨qh, qs, qx⟩ := q
      unfold pv at hqe
      simp only at hd1 hqe
      generalize str qh = sh2 at *
      have HD1 := Lib.hid hd1
      clear hd1 hln
      have HQE := Lib.hid hqe; clear hqe
      go_enter Tryd.func4, Tryd.ntmps4
      go_wp2_with fail
      refine (HD1.out _ (h.ext HW.out)).mono ?_; rintro e w1 ⟨rfl, hb1⟩
      have hP1 := HB.out.ext hb1
      have hw1 := HW.out.trans (hb1.mono (HW.out).size)
      have hwa := hw1.alloc hw1.size (.cells #[.string sh2, .bool qs, .int .i64 qx] 23)
      have hPa := hP1.ext ((Below.refl w1.heap.size w1).alloc (Nat.le_refl _) (.cells #[.string sh2, .bool qs, .int .i64 qx] 23))
      obtain ⟨u0, u1, u2⟩ := hPa.cells
      have hlta := heap_lt hPa
      obtain ⟨u3, u4, u5⟩ := (PBox.new w1 sh2 qs qx).cells
      have hlt1 := heap_lt hP1
      go_wp2_with fail
      refine (HQE.out _).mono ?_; rintro e w2 ⟨vc, rfl, hoc, hb2⟩
      obtain ⟨ac, kc, rfl, hsc, -⟩ := hoc.sl
      have hlc : (b.take n2).length = n2 := by rw [List.length_take, HLN.out]; exact Nat.min_eq_left HZ.out.2
      rw [hlc] at hsc ⊢
      clear hlc u0 u1 u2 u3 u4 u5
      have hPz := hPa.ext hb2
      have hwz := hwa.trans (hb2.mono hwa.size)
      clear hP1 hPa
      obtain ⟨ab, hcut, hsb⟩ := run_cut (h.ext hwz) HZ.out.2
      obtain ⟨r0, r1, r2⟩ := hPz.cells
      have hltz := heap_lt hPz
      go_wp2_with fail
      refine (keep_bytes _ _ _ _ _ _ _ _ _ hsc hsb).mono ?_; rintro e w3 ⟨rfl, rfl⟩
      have tk : (b.take n2 == b.take n2) = true := by simp
      go_wp2_with fail
      refine (HE1.out _).mono ?_; rintro e y1 ⟨v1, rfl, ho1, hb1⟩
      obtain ⟨a1, c1, rfl, hs1, -⟩ := ho1.sl
      have hPy := hPz.ext hb1
      have hwy := hwz.trans (hb1.mono hwz.size)
      clear hPz
      obtain ⟨r0, r1, r2⟩ := hPy.cells
      have hlty := heap_lt hPy
      rw [HLE.out] at hs1 ⊢
      clear r0 r1 r2
      go_wp2_with fail
      refine (keep_own _ _ _ _ _ hs1 (by have := HEL.out; have := HLE.out; omega)).mono ?_; rintro e y2 ⟨v2, rfl, ho2, hb2⟩
      have hwy2 := hwy.trans (hb2.mono hwy.size)
      have hPy2 := hPy.ext hb2
      go_wp2_with (at_builtin; refine wpList_append_bytes rfl _ _ rfl y1.heap.size _ E rfl ho2 a n c b rfl (h.ext hwy2) (by have := HEL.out; have := HLT.out; omega) hb2.size ?_; intro v3 y3 hown hg _)
      have hb3 : Below y1.heap.size y1 y3 := hb2.grown hg hb2.size (fun g hg => (ho2.lt g hg).1)
      clear hg
      have hwy3 := hwy.trans (hb3.mono hwy.size)
      have hPy3 := hPy.ext hb3
      obtain ⟨a3, c3, rfl, hs3, -⟩ := hown.sl
      have hl3 : (E ++ b).length = lE + n := by rw [List.length_append, HLE.out, HLN.out]
      rw [hl3] at hs3 ⊢
      clear hl3
      refine (HD2.out _ _ _ _ hs3 (by have := HEL.out; have := HLT.out; have := HLE.out; omega)).mono ?_; rintro e y4 ⟨rfl, hb4⟩
      have hwy4 := hwy3.trans (hb4.mono hwy3.size)
      have hwy5 := hwy4.alloc hwy4.size (.cells #[.string sh, .bool ps, .int .i64 px] 23)
      obtain ⟨r0, r1, r2⟩ := ((hPy3.ext hb4).ext ((Below.refl y4.heap.size y4).alloc (Nat.le_refl _) (.cells #[.string sh, .bool ps, .int .i64 px] 23))).cells
      obtain ⟨r3, r4, r5⟩ := (PBox.new y4 sh ps px).cells
      have hlt4 := heap_lt (hPy3.ext hb4)
      clear hPy hPy2 hPy3
      go_wp2_with fail
      refine (HAW.out _).mono ?_; rintro e y6 ⟨rfl, hb6⟩
      go_wp2_with fail
      go_ret
      exact ⟨rfl, hwy5.trans (hb6.mono hwy5.size)⟩
    · obtain ⟨qh, qs, qx⟩ := q
      simp only at hd1
      generalize str qh = sh2 at *
      have HD1 := Lib.hid hd1
      clear hd1 hln
      have te : (er2 == 0) = false := by simpa using e0
      clear e0 HR
      go_enter Tryd.func4, Tryd.ntmps4
      go_wp2_with fail
      refine (HD1.out _ (h.ext HW.out)).mono ?_; rintro e w1 ⟨rfl, hb1⟩
      have hP1 := HB.out.ext hb1
      have hw1 := HW.out.trans (hb1.mono (HW.out).size)
      have hwa := hw1.alloc hw1.size (.cells #[.string sh2, .bool qs, .int .i64 qx] 23)
      have hPa := hP1.ext ((Below.refl w1.heap.size w1).alloc (Nat.le_refl _) (.cells #[.string sh2, .bool qs, .int .i64 qx] 23))
      obtain ⟨u0, u1, u2⟩ := hPa.cells
      have hlta := heap_lt hPa
      have hPz := hPa
      have hwz := hwa
      clear hP1 hPa
      go_wp2_with fail
      refine (HE1.out _).mono ?_; rintro e y1 ⟨v1, rfl, ho1, hb1⟩
      obtain ⟨a1, c1, rfl, hs1, -⟩ := ho1.sl
      have hPy := hPz.ext hb1
      have hwy := hwz.trans (hb1.mono hwz.size)
      clear hPz
      obtain ⟨r0, r1, r2⟩ := hPy.cells
      have hlty := heap_lt hPy
      rw [HLE.out] at hs1 ⊢
      clear r0 r1 r2
      go_wp2_with fail
      refine (keep_own _ _ _ _ _ hs1 (by have := HEL.out; have := HLE.out; omega)).mono ?_; rintro e y2 ⟨v2, rfl, ho2, hb2⟩
      have hwy2 := hwy.trans (hb2.mono hwy.size)
      have hPy2 := hPy.ext hb2
      go_wp2_with (at_builtin; refine wpList_append_bytes rfl _ _ rfl y1.heap.size _ E rfl ho2 a n c b rfl (h.ext hwy2) (by have := HEL.out; have := HLT.out; omega) hb2.size ?_; intro v3 y3 hown hg _)
      have hb3 : Below y1.heap.size y1 y3 := hb2.grown hg hb2.size (fun g hg => (ho2.lt g hg).1)
      clear hg
      have hwy3 := hwy.trans (hb3.mono hwy.size)
      have hPy3 := hPy.ext hb3
      obtain ⟨a3, c3, rfl, hs3, -⟩ := hown.sl
      have hl3 : (E ++ b).length = lE + n := by rw [List.length_append, HLE.out, HLN.out]
      rw [hl3] at hs3 ⊢
      clear hl3
      refine (HD2.out _ _ _ _ hs3 (by have := HEL.out; have := HLT.out; have := HLE.out; omega)).mono ?_; rintro e y4 ⟨rfl, hb4⟩
      have hwy4 := hwy3.trans (hb4.mono hwy3.size)
      have hwy5 := hwy4.alloc hwy4.size (.cells #[.string sh, .bool ps, .int .i64 px] 23)
      obtain ⟨r0, r1, r2⟩ := ((hPy3.ext hb4).ext ((Below.refl y4.heap.size y4).alloc (Nat.le_refl _) (.cells #[.string sh, .bool ps, .int .i64 px] 23))).cells
      obtain ⟨r3, r4, r5⟩ := (PBox.new y4 sh ps px).cells
      have hlt4 := heap_lt (hPy3.ext hb4)
      clear hPy hPy2 hPy3
      go_wp2_with fail
      refine (HAW.out _).mono ?_; rintro e y6 ⟨rfl, hb6⟩
      go_wp2_with fail
      go_ret
      exact ⟨rfl, hwy5.trans (hb6.mono hwy5.size)⟩

end Go.Proofs.YtcmeajaakdaeeaaDoor
