/-
  The walk of PintableNone.
-/
import Derived.Test.YtcmeajaakdaeeaaGreatDoorRun29
import Derived.Test.YtcmeajaakdaeeaaGreatDoorRun26
namespace Go.Proofs.YtcmeajaakdaeeaaGreatDoor
open Go.RowKit

set_option maxRecDepth 100000 in
set_option maxHeartbeats 2000000 in
theorem nt_put (p : Pin) (hp : p.h.length ≤ 1000000) (w : World) : Calls Tryz.prog 9 #[.pointer none, pv p] w fun e w' => e = .returned (.int .i64 (if Pin.valid p then 11 else 1)) ∧ Below w.heap.size w w' := by
  have HV := Lib.hid (fun W => pi_valid p hp W)
  have hb0 := (Below.refl w.heap.size w).alloc (Nat.le_refl _) (.cells (pc p) 23)
  have HBX := Lib.hid (PBox.new w (str p.h) p.s p.x)
  unfold pc at hb0
  unfold pv at HV ⊢
  have HB0 := Lib.hid hb0
  have hz0 : (w.alloc (.cells #[.string (str p.h), .bool p.s, .int .i64 p.x] 23)).heap.size = w.heap.size + 1 := by simp
  have HZ0 := Lib.hid hz0
  clear hb0 hz0
  obtain ⟨ok, hok⟩ : ∃ b, Pin.valid p = b := ⟨_, rfl⟩
  rw [hok] at HV ⊢
  obtain ⟨sh, hsh⟩ : ∃ s, str p.h = s := ⟨_, rfl⟩
  rw [hsh] at HV HBX HB0 HZ0 ⊢
  clear hok hsh
  cases ok with
  | false =>
    rw [if_neg (by decide)]
    go_enter Tryz.func9, Tryz.ntmps9
    go_wp2_with fail
    refine (HV.out _).mono ?_; rintro e w1 ⟨rfl, hB1⟩
    rw [HZ0.out] at hB1
    go_wp2_with fail
    go_ret
    exact ⟨rfl, HB0.out.trans (hB1.mono (Nat.le_succ _))⟩
  | true =>
    rw [if_pos rfl]
    go_enter Tryz.func9, Tryz.ntmps9
    go_wp2_with fail
    refine (HV.out _).mono ?_; rintro e w1 ⟨rfl, hB1⟩
    rw [HZ0.out] at hB1
    have hP1 : PBox w1 w.heap.size sh p.s p.x := (hB1.block _ (Nat.lt_succ_self _)).trans HBX.out
    obtain ⟨q0, q1, q2⟩ := hP1.cells
    have hlt1 := heap_lt hP1
    clear hP1
    go_wp2_with fail
    refine (nt_find _ _).mono ?_; rintro e w2 ⟨rfl, rfl⟩
    go_wp2_with fail
    refine (nt_len _).mono ?_; rintro e w3 ⟨rfl, rfl⟩
    go_wp2_with fail
    refine (nt_cap _).mono ?_; rintro e w4 ⟨rfl, rfl⟩
    go_wp2_with fail
    go_ret
    exact ⟨rfl, HB0.out.trans (hB1.mono (Nat.le_succ _))⟩

set_option maxRecDepth 100000 in
set_option maxHeartbeats 4000000 in
theorem tab_none (p : Pin) (now : Int) (w : World) (_h0 : (Lit.int .i64 p.x).wf = true) (_h1 : (Lit.int .i64 now).wf = true) :
    Calls Tryz.prog 3 #[pv p, .int .i64 now] w fun e w' => e = .returned (.bool true) ∧ Below w.heap.size w w' := by
  have HAW := Lib.hid tab_awake
  have hsz := strSize p.h
  have hb0 := (Below.refl w.heap.size w).alloc (Nat.le_refl _) (.cells (pc p) 23)
  have hbx := PBox.new w (str p.h) p.s p.x
  unfold pc at hb0
  by_cases h4 : 400 < p.h.length
  · have t4 : (400 : Int) < (p.h.length : Int) := by omega
    unfold pv
    generalize str p.h = sh at *
    have HB0 := Lib.hid hb0
    clear hb0 hbx h4
    go_enter Tryz.func3, Tryz.ntmps3
    go_wp2_with fail
    refine (HAW.out _).mono ?_; rintro e w4 ⟨rfl, hb4⟩
    go_wp2_with fail
    go_ret
    exact ⟨rfl, HB0.out.trans (hb4.mono (HB0.out).size)⟩
  · have t4 : ¬ (400 : Int) < (p.h.length : Int) := by omega
    have HPUT := Lib.hid (fun W => nt_put p (by omega) W)
    have HV := Lib.hid (fun W => rp_valid p (by omega) W)
    obtain ⟨ok, hok⟩ : ∃ b, Pin.valid p = b := ⟨_, rfl⟩
    rw [hok] at HPUT HV
    unfold pv at HPUT HV ⊢
    obtain ⟨sh, hsh⟩ : ∃ s, str p.h = s := ⟨_, rfl⟩
    rw [hsh] at HPUT HV hb0 hbx hsz ⊢
    have hz0 : (w.alloc (.cells #[.string sh, .bool p.s, .int .i64 p.x] 23)).heap.size = w.heap.size + 1 := by simp
    obtain ⟨W0, hW0⟩ : ∃ W0, w.alloc (.cells #[.string sh, .bool p.s, .int .i64 p.x] 23) = W0 := ⟨_, rfl⟩
    rw [hW0] at hb0 hbx hz0
    have HW0 := Lib.hid hW0
    have HB0 := Lib.hid hb0
    have HBX := Lib.hid hbx
    have HZ0 := Lib.hid hz0
    have HPC := Lib.hid (show ∀ W, Below W0.heap.size W0 W → W.cell? ⟨w.heap.size, 0, none⟩ = some (.string sh) ∧ W.cell? ⟨w.heap.size, 1, none⟩ = some (.bool p.s) ∧ W.cell? ⟨w.heap.size, 2, none⟩ = some (.int .i64 p.x) ∧ w.heap.size < W.heap.size from fun W hb => by
      have hP := hbx.ext hb
      exact ⟨hP.cells.1, hP.cells.2.1, hP.cells.2.2, heap_lt hP⟩)
    clear hok hsh hb0 hbx hz0 hW0 h4
    have HALL := Lib.hid (fun W => al_all none (fun _ => False) [] W (fun k hk => hk.elim) (allSeq_nil _ _) (by simp))
    have HLIVE := Lib.hid (fun W => al_live none (fun _ => False) [] now W (fun k hk => hk.elim) (allSeq_nil _ _) (by simp))
    cases ok
    all_goals
      go_enter Tryz.func3, Tryz.ntmps3
      go_wp2_with fail
      rw [HW0.out]
      obtain ⟨x0, x1, x2, hlt⟩ := HPC.out _ (Below.refl _ _)
      refine (nt_get _ _).mono ?_; rintro e w1 ⟨rfl, hb1⟩
      clear x0 x1 x2 hlt
      obtain ⟨x0, x1, x2, hlt⟩ := HPC.out _ hb1
      have hb2 := hb1.alloc hb1.size (.cells #[.string ⟨#[]⟩, .bool false, .int .i64 0] 23)
      have hq2 := PBox.new w1 ⟨#[]⟩ false 0
      obtain ⟨W2, hW2⟩ : ∃ W2, w1.alloc (.cells #[.string ⟨#[]⟩, .bool false, .int .i64 0] 23) = W2 := ⟨_, rfl⟩
      rw [hW2] at hb2 hq2
      have HW2 := Lib.hid hW2
      have HQC := Lib.hid (show ∀ W, Below W2.heap.size W2 W → W.cell? ⟨w.heap.size, 0, none⟩ = some (.string sh) ∧ W.cell? ⟨w.heap.size, 1, none⟩ = some (.bool p.s) ∧ W.cell? ⟨w.heap.size, 2, none⟩ = some (.int .i64 p.x) ∧ w.heap.size < W.heap.size ∧
          W.cell? ⟨w1.heap.size, 0, none⟩ = some (.string ⟨#[]⟩) ∧ W.cell? ⟨w1.heap.size, 1, none⟩ = some (.bool false) ∧ W.cell? ⟨w1.heap.size, 2, none⟩ = some (.int .i64 0) ∧ w1.heap.size < W.heap.size from fun W hb => by
        obtain ⟨a0, a1, a2, a3⟩ := HPC.out _ (hb2.trans (hb.mono hb2.size))
        have hP := hq2.ext hb
        exact ⟨a0, a1, a2, a3, hP.cells.1, hP.cells.2.1, hP.cells.2.2, heap_lt hP⟩)
      clear hq2 hW2
      go_wp2_with fail
      rw [HW2.out]
      refine (HALL.out _).mono ?_; rintro e w3 ⟨v3, rfl, ho3, hb3⟩
      obtain ⟨a3, c3, hv3, -, -⟩ := ho3.sl
      rw [show ([] : List Pin).length = 0 from rfl] at hv3
      subst hv3
      clear ho3 x0 x1 x2 hlt
      obtain ⟨x0, x1, x2, hlt, z0, z1, z2, hlq⟩ := HQC.out _ hb3
      have hB3 := hb3
      go_wp2_with fail
      refine (HV.out _).mono ?_; rintro e w4 ⟨rfl, hb4⟩
      have hB4 := hB3.trans (hb4.mono hB3.size)
      clear x0 x1 x2 z0 z1 z2 hlt hlq
      obtain ⟨x0, x1, x2, hlt, z0, z1, z2, hlq⟩ := HQC.out _ hB4
      go_wp2_with fail
      refine (HPUT.out _).mono ?_; rintro e w5 ⟨rfl, hb5⟩
      have hB5 := hB4.trans (hb5.mono hB4.size)
      clear x0 x1 x2 z0 z1 z2 hlt hlq
      obtain ⟨x0, x1, x2, hlt, z0, z1, z2, hlq⟩ := HQC.out _ hB5
      go_wp2_with fail
      refine (nt_remove _ _).mono ?_; rintro e w6 ⟨rfl, rfl⟩
      go_wp2_with fail
      refine (nt_expire _ _).mono ?_; rintro e w7 ⟨rfl, hb7⟩
      have hB7 := hB5.trans (hb7.mono hB5.size)
      go_wp2_with fail
      refine (nt_len _).mono ?_; rintro e w8 ⟨rfl, rfl⟩
      go_wp2_with fail
      refine (nt_cap _).mono ?_; rintro e w9 ⟨rfl, rfl⟩
      go_wp2_with fail
      refine (nt_pins _).mono ?_; rintro e w10 ⟨rfl, rfl⟩
      go_wp2_with fail
      refine (HLIVE.out _).mono ?_; rintro e w11 ⟨v11, rfl, ho11, hb11⟩
      obtain ⟨a11, c11, hv11, -, -⟩ := ho11.sl
      rw [show (Tab.live [] now).length = 0 from rfl] at hv11
      subst hv11
      have hB11 := hB7.trans (hb11.mono hB7.size)
      clear ho11
      go_wp2_with fail
      refine (HAW.out _).mono ?_; rintro e w12 ⟨rfl, hb12⟩
      have hB12 := hB11.trans (hb12.mono hB11.size)
      go_wp2_with fail
      go_ret
      have hf := hb2.trans (hB12.mono hb2.size)
      exact ⟨rfl, HB0.out.trans (hf.mono HB0.out.size)⟩

end Go.Proofs.YtcmeajaakdaeeaaGreatDoor
