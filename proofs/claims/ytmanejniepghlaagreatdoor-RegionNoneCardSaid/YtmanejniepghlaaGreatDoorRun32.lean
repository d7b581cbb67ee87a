/-
  Texts in one: UptV, KeepSt, KeepOwn, UptDec.
-/
import Derived.Test.YtmanejniepghlaaGreatDoorRun31
import Derived.Deep.RegionHeld3
/-
  The walk through update.ValidState.
-/
namespace Go.Proofs.YtmanejniepghlaaGreatDoor
open Go.RowKit

/-- A block that holds a state. -/
def SBox (w : World) (B : Nat) (c : Int) (v : Value) : Prop := w.heap[B]? = some (.cells #[.int .i64 c, v] 44 (0, 0))
theorem SBox.cells {w : World} {B : Nat} {c : Int} {v : Value} (hb : SBox w B c v) : w.cell? ⟨B, 0, none⟩ = some (.int .i64 c) ∧ w.cell? ⟨B, 1, none⟩ = some v :=
  ⟨(cell_of_row _ _ _ _ _ _ hb).trans rfl, (cell_of_row _ _ _ _ _ _ hb).trans rfl⟩
theorem SBox.ext {w w' : World} {B : Nat} {c : Int} {v : Value} (hb : SBox w B c v) (e : Ext w w') : SBox w' B c v := (Below.block e _ (heap_lt hb)).trans hb
theorem SBox.new (w : World) (c : Int) (v : Value) : SBox (w.alloc (.cells #[.int .i64 c, v] 44)) w.heap.size c v := heap_alloc_eq _ _ _ rfl

set_option maxHeartbeats 8000000 in
set_option maxRecDepth 100000 in
theorem up_validState (ck : Int) (a : Option Addr) (n c : Nat) (L : List Pin) (w : World) (h : SlN w a n c L) (hL : ∀ p ∈ L, p.h.length ≤ 1000000) :
    Calls Tryz.prog 101 #[.agg #[.int .i64 ck, .slice a n c]] w fun e w' => e = .returned (.bool (Upt.stValid ck L)) ∧ Ext w w' := by
  have hle := h.le
  have HLN := Lib.hid h.len
  have HL := Lib.hid hL
  have hr : Upt.stValid ck L = decide (0 ≤ ck ∧ ck ≤ 1099511627776 ∧ n ≤ 1000 ∧ Tab.chk L (n - 0) 0 = 0) := by unfold Upt.stValid; rw [h.len, Nat.sub_zero]
  obtain ⟨r, hrr⟩ : ∃ r, Upt.stValid ck L = r := ⟨_, rfl⟩
  rw [hrr] at hr ⊢
  have hb0 := (Below.refl w.heap.size w).alloc (Nat.le_refl _) (.cells #[.int .i64 ck, .slice a n c] 44)
  have hs0 := SBox.new w ck (.slice a n c)
  have hsl0 := h.ext hb0
  obtain ⟨W0, hW0⟩ : ∃ W0, w.alloc (.cells #[.int .i64 ck, .slice a n c] 44) = W0 := ⟨_, rfl⟩
  have hz0 : W0.heap.size = w.heap.size + 1 := by rw [← hW0]; simp
  rw [hW0] at hb0 hs0 hsl0
  have HW0 := Lib.hid hW0
  have HB0 := Lib.hid hb0
  have HS0 := Lib.hid hs0
  have HSL := Lib.hid hsl0
  clear hrr hW0 hsl0 h hL hs0
  by_cases h1 : ck < 0
  · have hrf : r = false := by rw [hr]; exact decide_eq_false (fun e => by omega)
    subst hrf
    clear hr hb0 hz0
    go_enter Tryz.func101, Tryz.ntmps101
    go_wp2_with fail
    go_ret
    exact ⟨rfl, by rw [HW0.out]; exact HB0.out⟩
  have t1 : decide (ck < 0) = false := decide_eq_false h1
  by_cases h2 : 1099511627776 < ck
  · have hrf : r = false := by rw [hr]; exact decide_eq_false (fun e => by omega)
    subst hrf
    clear hr hb0 hz0
    go_enter Tryz.func101, Tryz.ntmps101
    go_wp2_with fail
    go_ret
    exact ⟨rfl, by rw [HW0.out]; exact HB0.out⟩
  have t2 : decide (1099511627776 < ck) = false := decide_eq_false h2
  by_cases h3 : 1000 < n
  · have h3' : (1000 : Int) < (n : Int) := by omega
    have hrf : r = false := by rw [hr]; exact decide_eq_false (fun e => by omega)
    subst hrf
    clear hr hb0 hz0
    go_enter Tryz.func101, Tryz.ntmps101
    go_wp2_with fail
    go_ret
    exact ⟨rfl, by rw [HW0.out]; exact HB0.out⟩
  have h3' : ¬ (1000 : Int) < (n : Int) := by omega
  have hr2 : r = decide (Tab.chk L (n - 0) 0 = 0) := by
    rw [hr]; apply decide_eq_decide.2
    exact ⟨fun e => e.2.2.2, fun e => ⟨by omega, by omega, by omega, e⟩⟩
  obtain ⟨z0, hz⟩ : ∃ z, Tab.chk L (n - 0) 0 = z := ⟨_, rfl⟩
  rw [hz] at hr2
  have HR := Lib.hid hr2
  have HC0 := Lib.hid hz
  have HZ0 := Lib.hid hz0
  clear hr hr2 hz hb0 hz0
  go_enter Tryz.func101, Tryz.ntmps101
  go_wp2_with fail
  rw [HW0.out]
  go_loopw [22] (fun i wr => ∃ k : Nat, k ≤ n ∧ i = .int .i64 (k : Nat) ∧ Hid (Tab.chk L (n - k) k = z0) ∧ Ext W0 wr) (fun i _ => n - (intOf i).toNat)
  case atStart => exact ⟨0, Nat.zero_le _, rfl, HC0, Ext.refl _⟩
  case round =>
    obtain ⟨k, hk, rfl, HC, hB⟩ := hrel
    have i0 : (0 : Int) ≤ (k : Int) := by omega
    by_cases hlt : k < n
    · have i2 : (k : Int) < (n : Int) := by omega
      have hs := HSL.out.ext hB
      have hS := HS0.out.ext hB
      obtain ⟨bb, o, rfl, hbb, hkl, c1, c2, c3⟩ := hs.at hlt
      have hgt := List.getElem?_eq_getElem hkl
      rw [hgt, Option.getD_some] at c1 c2 c3
      have HMEM := Lib.hid (List.getElem_mem hkl)
      have hst := chk_step L (n - (k + 1)) k hgt
      rw [show n - (k + 1) + 1 = n - k by omega, HC.out] at hst
      have hprev : ∀ k', k = k' + 1 → ∃ q, L.getD (k - 1) Pin.none = q ∧ q ∈ L ∧ PinAt wr bb (o + k' * 3) q := by
        intro k' hk'
        obtain ⟨b2, o2, hbo, -, hkl2, hp2⟩ := hs.at (show k' < n by omega)
        cases hbo
        refine ⟨_, rfl, ?_, ?_⟩
        · rw [show k - 1 = k' by omega, List.getD_eq_getElem?_getD, List.getElem?_eq_getElem hkl2]; exact List.getElem_mem hkl2
        · rw [show k - 1 = k' by omega, List.getD_eq_getElem?_getD]; exact hp2
      generalize L[k] = p at *
      have HV := Lib.hid (fun W => pi_valid p (HL.out p HMEM.out) W)
      unfold pv at HV
      have hbp := (Below.refl wr.heap.size wr).alloc (Nat.le_refl _) (.cells #[.string (str p.h), .bool p.s, .int .i64 p.x] 34)
      have hbx := PBox.new wr (str p.h) p.s p.x
      obtain ⟨sh, hsh⟩ : ∃ s, str p.h = s := ⟨_, rfl⟩
      rw [hsh] at c1 HV hbp hbx
      obtain ⟨Wp, hWp⟩ : ∃ Wp, wr.alloc (.cells #[.string sh, .bool p.s, .int .i64 p.x] 34) = Wp := ⟨_, rfl⟩
      rw [hWp] at hbp hbx
      have HWP := Lib.hid hWp
      have hBp : Ext W0 Wp := hB.trans (hbp.mono hB.size)
      have hSp := HS0.out.ext hBp
      have hwW : w.heap.size < W0.heap.size := by have := HZ0.out; omega
      have hbbp : bb < Wp.heap.size := Nat.lt_of_lt_of_le hbb hbp.size
      have hcl : ∀ w', Ext Wp w' → Ext Wp w' ∧ w'.cell? ⟨wr.heap.size, 0, none⟩ = some (.string sh) ∧ w'.cell? ⟨wr.heap.size, 1, none⟩ = some (.bool p.s) ∧ w'.cell? ⟨wr.heap.size, 2, none⟩ = some (.int .i64 p.x) ∧ wr.heap.size < w'.heap.size ∧ w'.cell? ⟨w.heap.size, 1, none⟩ = some (.slice (some ⟨bb, o, none⟩) n c) ∧ w.heap.size < w'.heap.size ∧ bb < w'.heap.size := fun w' he =>
        ⟨he, (hbx.ext he).cells.1, (hbx.ext he).cells.2.1, (hbx.ext he).cells.2.2, heap_lt (hbx.ext he), (hSp.ext he).cells.2, heap_lt (hSp.ext he), Nat.lt_of_lt_of_le hbbp (Below.size he)⟩
      have HBP := Lib.hid hBp
      obtain ⟨-, p0, p1, p2, lp, s1, ls, -⟩ := hcl _ (Ext.refl _)
      clear hWp hS
      cases hv : Pin.valid p with
      | false =>
        rw [hv] at HV hst
        rw [if_pos rfl] at hst
        have hrf : r = false := by rw [HR.out, hst]; rfl
        subst hrf
        have HV := Lib.hid HV.out
        have HCL := Lib.hid hcl
        clear hprev hgt hkl hv hsh hs hbp hbx hSp hBp hst hcl hB
        go_wp2_with fail
        rw [HWP.out]
        go_wp2_with fail
        refine wp_region_held_drew (S := (fun w' => Ext Wp w' ∧ w'.cell? ⟨wr.heap.size, 0, none⟩ = some (.string sh) ∧ w'.cell? ⟨wr.heap.size, 1, none⟩ = some (.bool p.s) ∧ w'.cell? ⟨wr.heap.size, 2, none⟩ = some (.int .i64 p.x) ∧ wr.heap.size < w'.heap.size ∧ w'.cell? ⟨w.heap.size, 1, none⟩ = some (.slice (some ⟨bb, o, none⟩) n c) ∧ w.heap.size < w'.heap.size ∧ bb < w'.heap.size)) (by kernel_rfl) ?_ (fun hHeld => ?_)
        · exact HCL.out _ (Ext.drew (Ext.refl _))
        refine wpAnyH_take (i := 0) (oi := Oper.mk (some 27) _ _ _ _ _) (v := ?v1) rfl (by kernel_rfl) (by kernel_rfl) (by kernel_rfl) (fun _ _ _ h => h) (Or.inl ⟨by rfl, ?hy1⟩) (by assumption) ?rest1
        case hy1 => (intro w hSw; (try dsimp only at hSw); go_simp; try with_reducible rfl)
        try simp only [Act.put, List.setIfInBounds_toArray, List.set]
        refine wpAnyH_ready (rs := [1]) (by kernel_rfl) (by simp) ?_
        refine AllReadyH.cons (o := Oper.mk (some 28) _ _ _ _ _) rfl (fun K hK => ?_) AllReadyH.nil
        go_simp
        go_at_call 151; refine (HV.out _).mono ?_; rintro e u1 ⟨rfl, hb1⟩
        go_wp2_with fail
        refine hK.out _ _ ?_ (fun hHeld => ?_)
        · exact HCL.out _ (Ext.step (by assumption) (And.left (by assumption)))
        clear hK K
        try simp only [Act.put, List.setIfInBounds_toArray, List.set]
        refine wpAnyH_take (i := 2) (oi := Oper.mk (some 29) _ _ _ _ _) (v := ?v2) rfl (by kernel_rfl) (by kernel_rfl) (by kernel_rfl) (fun _ _ _ h => h) (Or.inl ⟨by rfl, ?hy2⟩) (by assumption) ?rest2
        case hy2 => (intro w hSw; (try dsimp only at hSw); go_simp; try with_reducible rfl)
        try simp only [Act.put, List.setIfInBounds_toArray, List.set]
        refine wpAnyH_take (i := 3) (oi := Oper.mk (some 30) _ _ _ _ _) (v := ?v3) rfl (by kernel_rfl) (by kernel_rfl) (by kernel_rfl) (fun _ _ _ h => h) (Or.inl ⟨by rfl, ?hy3⟩) (by assumption) ?rest3
        case hy3 => (intro w hSw; (try dsimp only at hSw); go_simp; try with_reducible rfl)
        try simp only [Act.put, List.setIfInBounds_toArray, List.set]
        refine wpAnyH_take (i := 4) (oi := Oper.mk (some 31) _ _ _ _ _) (v := undef) rfl (by kernel_rfl) (by kernel_rfl) (by kernel_rfl) (fun _ _ _ h => h) (Or.inr ⟨by rfl, rfl⟩) (by assumption) ?_
        try simp only [Act.put, List.setIfInBounds_toArray, List.set]
        refine wpAnyH_take (i := 5) (oi := Oper.mk (some 32) _ _ _ _ _) (v := undef) rfl (by kernel_rfl) (by kernel_rfl) (by kernel_rfl) (fun _ _ _ h => h) (Or.inr ⟨by rfl, rfl⟩) (by assumption) ?_
        try simp only [Act.put, List.setIfInBounds_toArray, List.set]
        refine wpAnyH_take (i := 6) (oi := Oper.mk (some 33) _ _ _ _ _) (v := undef) rfl (by kernel_rfl) (by kernel_rfl) (by kernel_rfl) (fun _ _ _ h => h) (Or.inr ⟨by rfl, rfl⟩) (by assumption) ?_
        try simp only [Act.put, List.setIfInBounds_toArray, List.set]
        refine wpAnyH_take (i := 7) (oi := Oper.mk (some 34) _ _ _ _ _) (v := undef) rfl (by kernel_rfl) (by kernel_rfl) (by kernel_rfl) (fun _ _ _ h => h) (Or.inr ⟨by rfl, rfl⟩) (by assumption) ?_
        try simp only [Act.put, List.setIfInBounds_toArray, List.set]
        refine wpAnyH_take (i := 8) (oi := Oper.mk (some 35) _ _ _ _ _) (v := undef) rfl (by kernel_rfl) (by kernel_rfl) (by kernel_rfl) (fun _ _ _ h => h) (Or.inr ⟨by rfl, rfl⟩) (by assumption) ?_
        try simp only [Act.put, List.setIfInBounds_toArray, List.set]
        refine wpAnyH_take (i := 9) (oi := Oper.mk (some 36) _ _ _ _ _) (v := undef) rfl (by kernel_rfl) (by kernel_rfl) (by kernel_rfl) (fun _ _ _ h => h) (Or.inr ⟨by rfl, rfl⟩) (by assumption) ?_
        try simp only [Act.put, List.setIfInBounds_toArray, List.set]
        refine wpAnyH_take (i := 10) (oi := Oper.mk (some 37) _ _ _ _ _) (v := undef) rfl (by kernel_rfl) (by kernel_rfl) (by kernel_rfl) (fun _ _ _ h => h) (Or.inr ⟨by rfl, rfl⟩) (by assumption) ?_
        try simp only [Act.put, List.setIfInBounds_toArray, List.set]
        refine wpAnyH_take (i := 11) (oi := Oper.mk (some 38) _ _ _ _ _) (v := undef) rfl (by kernel_rfl) (by kernel_rfl) (by kernel_rfl) (fun _ _ _ h => h) (Or.inr ⟨by rfl, rfl⟩) (by assumption) ?_
        try simp only [Act.put, List.setIfInBounds_toArray, List.set]
        refine wpAnyH_take (i := 12) (oi := Oper.mk (some 39) _ _ _ _ _) (v := undef) rfl (by kernel_rfl) (by kernel_rfl) (by kernel_rfl) (fun _ _ _ h => h) (Or.inr ⟨by rfl, rfl⟩) (by assumption) ?_
        try simp only [Act.put, List.setIfInBounds_toArray, List.set]
        refine wpAnyH_take (i := 13) (oi := Oper.mk (some 40) _ _ _ _ _) (v := undef) rfl (by kernel_rfl) (by kernel_rfl) (by kernel_rfl) (fun _ _ _ h => h) (Or.inr ⟨by rfl, rfl⟩) (by assumption) ?_
        try simp only [Act.put, List.setIfInBounds_toArray, List.set]
        refine wpAnyH_take (i := 14) (oi := Oper.mk (some 41) _ _ _ _ _) (v := undef) rfl (by kernel_rfl) (by kernel_rfl) (by kernel_rfl) (fun _ _ _ h => h) (Or.inr ⟨by rfl, rfl⟩) (by assumption) ?_
        try simp only [Act.put, List.setIfInBounds_toArray, List.set]
        refine wpAnyH_take (i := 15) (oi := Oper.mk (some 42) _ _ _ _ _) (v := undef) rfl (by kernel_rfl) (by kernel_rfl) (by kernel_rfl) (fun _ _ _ h => h) (Or.inr ⟨by rfl, rfl⟩) (by assumption) ?_
        try simp only [Act.put, List.setIfInBounds_toArray, List.set]
        refine wpAnyH_take (i := 16) (oi := Oper.mk (some 43) _ _ _ _ _) (v := undef) rfl (by kernel_rfl) (by kernel_rfl) (by kernel_rfl) (fun _ _ _ h => h) (Or.inr ⟨by rfl, rfl⟩) (by assumption) ?_
        try simp only [Act.put, List.setIfInBounds_toArray, List.set]
        refine wpAnyH_take (i := 17) (oi := Oper.mk (some 44) _ _ _ _ _) (v := undef) rfl (by kernel_rfl) (by kernel_rfl) (by kernel_rfl) (fun _ _ _ h => h) (Or.inr ⟨by rfl, rfl⟩) (by assumption) ?_
        try simp only [Act.put, List.setIfInBounds_toArray, List.set]
        refine wpAnyH_take (i := 18) (oi := Oper.mk (some 45) _ _ _ _ _) (v := undef) rfl (by kernel_rfl) (by kernel_rfl) (by kernel_rfl) (fun _ _ _ h => h) (Or.inr ⟨by rfl, rfl⟩) (by assumption) ?_
        try simp only [Act.put, List.setIfInBounds_toArray, List.set]
        refine wpAnyH_take (i := 19) (oi := Oper.mk (some 46) _ _ _ _ _) (v := ?v4) rfl (by kernel_rfl) (by kernel_rfl) (by kernel_rfl) (fun _ _ _ h => h) (Or.inl ⟨by rfl, ?hy4⟩) (by assumption) ?rest4
        case hy4 => (intro w hSw; (try dsimp only at hSw); go_simp; try with_reducible rfl)
        try simp only [Act.put, List.setIfInBounds_toArray, List.set]
        refine wpAnyH_done (by kernel_rfl) ?_ _
        all_goals
          have hfin : Ext Wp _ := And.left hHeld
          have hBf : Ext w _ := HB0.out.trans (Below.mono (Below.trans HBP.out (hfin.mono HBP.out.size)) HB0.out.size)
          go_wp2_with fail
          go_ret
          exact ⟨rfl, hBf⟩
      | true =>
        rw [hv] at HV hst
        rw [if_neg (by decide)] at hst
        have HV := Lib.hid HV.out
        by_cases hk0 : k = 0
        · rw [if_neg (by omega)] at hst
          have HST := Lib.hid hst
          have t0 : decide (0 < k) = false := by apply decide_eq_false; omega
          have HCL := Lib.hid hcl
          clear hprev hgt hkl hv hsh hs hst hk0 hbp hbx hSp hBp hcl hB
          go_wp2_with fail
          rw [HWP.out]
          go_wp2_with fail
          refine wp_region_held_drew (S := (fun w' => Ext Wp w' ∧ w'.cell? ⟨wr.heap.size, 0, none⟩ = some (.string sh) ∧ w'.cell? ⟨wr.heap.size, 1, none⟩ = some (.bool p.s) ∧ w'.cell? ⟨wr.heap.size, 2, none⟩ = some (.int .i64 p.x) ∧ wr.heap.size < w'.heap.size ∧ w'.cell? ⟨w.heap.size, 1, none⟩ = some (.slice (some ⟨bb, o, none⟩) n c) ∧ w.heap.size < w'.heap.size ∧ bb < w'.heap.size)) (by kernel_rfl) ?_ (fun hHeld => ?_)
          · exact HCL.out _ (Ext.drew (Ext.refl _))
          refine wpAnyH_take (i := 0) (oi := Oper.mk (some 27) _ _ _ _ _) (v := ?v5) rfl (by kernel_rfl) (by kernel_rfl) (by kernel_rfl) (fun _ _ _ h => h) (Or.inl ⟨by rfl, ?hy5⟩) (by assumption) ?rest5
          case hy5 => (intro w hSw; (try dsimp only at hSw); go_simp; try with_reducible rfl)
          try simp only [Act.put, List.setIfInBounds_toArray, List.set]
          refine wpAnyH_ready (rs := [1]) (by kernel_rfl) (by simp) ?_
          refine AllReadyH.cons (o := Oper.mk (some 28) _ _ _ _ _) rfl (fun K hK => ?_) AllReadyH.nil
          go_simp
          go_at_call 151; refine (HV.out _).mono ?_; rintro e u1 ⟨rfl, hb1⟩
          go_wp2_with fail
          refine hK.out _ _ ?_ (fun hHeld => ?_)
          · exact HCL.out _ (Ext.step (by assumption) (And.left (by assumption)))
          clear hK K
          try simp only [Act.put, List.setIfInBounds_toArray, List.set]
          refine wpAnyH_take (i := 2) (oi := Oper.mk (some 29) _ _ _ _ _) (v := ?v6) rfl (by kernel_rfl) (by kernel_rfl) (by kernel_rfl) (fun _ _ _ h => h) (Or.inl ⟨by rfl, ?hy6⟩) (by assumption) ?rest6
          case hy6 => (intro w hSw; (try dsimp only at hSw); go_simp; try with_reducible rfl)
          try simp only [Act.put, List.setIfInBounds_toArray, List.set]
          refine wpAnyH_take (i := 3) (oi := Oper.mk (some 30) _ _ _ _ _) (v := ?v7) rfl (by kernel_rfl) (by kernel_rfl) (by kernel_rfl) (fun _ _ _ h => h) (Or.inl ⟨by rfl, ?hy7⟩) (by assumption) ?rest7
          case hy7 => (intro w hSw; (try dsimp only at hSw); go_simp; try with_reducible rfl)
          try simp only [Act.put, List.setIfInBounds_toArray, List.set]
          refine wpAnyH_take (i := 4) (oi := Oper.mk (some 31) _ _ _ _ _) (v := ?v8) rfl (by kernel_rfl) (by kernel_rfl) (by kernel_rfl) (fun _ _ _ h => h) (Or.inl ⟨by rfl, ?hy8⟩) (by assumption) ?rest8
          case hy8 => (intro w hSw; (try dsimp only at hSw); go_simp; try with_reducible rfl)
          try simp only [Act.put, List.setIfInBounds_toArray, List.set]
          refine wpAnyH_take (i := 5) (oi := Oper.mk (some 32) _ _ _ _ _) (v := ?v9) rfl (by kernel_rfl) (by kernel_rfl) (by kernel_rfl) (fun _ _ _ h => h) (Or.inl ⟨by rfl, ?hy9⟩) (by assumption) ?rest9
          case hy9 => (intro w hSw; (try dsimp only at hSw); go_simp; try with_reducible rfl)
          try simp only [Act.put, List.setIfInBounds_toArray, List.set]
          refine wpAnyH_take (i := 6) (oi := Oper.mk (some 33) _ _ _ _ _) (v := ?v10) rfl (by kernel_rfl) (by kernel_rfl) (by kernel_rfl) (fun _ _ _ h => h) (Or.inl ⟨by rfl, ?hy10⟩) (by assumption) ?rest10
          case hy10 => (intro w hSw; (try dsimp only at hSw); go_simp; try with_reducible rfl)
          try simp only [Act.put, List.setIfInBounds_toArray, List.set]
          refine wpAnyH_take (i := 7) (oi := Oper.mk (some 34) _ _ _ _ _) (v := undef) rfl (by kernel_rfl) (by kernel_rfl) (by kernel_rfl) (fun _ _ _ h => h) (Or.inr ⟨by rfl, rfl⟩) (by assumption) ?_
          try simp only [Act.put, List.setIfInBounds_toArray, List.set]
          refine wpAnyH_take (i := 8) (oi := Oper.mk (some 35) _ _ _ _ _) (v := undef) rfl (by kernel_rfl) (by kernel_rfl) (by kernel_rfl) (fun _ _ _ h => h) (Or.inr ⟨by rfl, rfl⟩) (by assumption) ?_
          try simp only [Act.put, List.setIfInBounds_toArray, List.set]
          refine wpAnyH_take (i := 9) (oi := Oper.mk (some 36) _ _ _ _ _) (v := undef) rfl (by kernel_rfl) (by kernel_rfl) (by kernel_rfl) (fun _ _ _ h => h) (Or.inr ⟨by rfl, rfl⟩) (by assumption) ?_
          try simp only [Act.put, List.setIfInBounds_toArray, List.set]
          refine wpAnyH_take (i := 10) (oi := Oper.mk (some 37) _ _ _ _ _) (v := undef) rfl (by kernel_rfl) (by kernel_rfl) (by kernel_rfl) (fun _ _ _ h => h) (Or.inr ⟨by rfl, rfl⟩) (by assumption) ?_
          try simp only [Act.put, List.setIfInBounds_toArray, List.set]
          refine wpAnyH_take (i := 11) (oi := Oper.mk (some 38) _ _ _ _ _) (v := undef) rfl (by kernel_rfl) (by kernel_rfl) (by kernel_rfl) (fun _ _ _ h => h) (Or.inr ⟨by rfl, rfl⟩) (by assumption) ?_
          try simp only [Act.put, List.setIfInBounds_toArray, List.set]
          refine wpAnyH_take (i := 12) (oi := Oper.mk (some 39) _ _ _ _ _) (v := undef) rfl (by kernel_rfl) (by kernel_rfl) (by kernel_rfl) (fun _ _ _ h => h) (Or.inr ⟨by rfl, rfl⟩) (by assumption) ?_
          try simp only [Act.put, List.setIfInBounds_toArray, List.set]
          refine wpAnyH_take (i := 13) (oi := Oper.mk (some 40) _ _ _ _ _) (v := undef) rfl (by kernel_rfl) (by kernel_rfl) (by kernel_rfl) (fun _ _ _ h => h) (Or.inr ⟨by rfl, rfl⟩) (by assumption) ?_
          try simp only [Act.put, List.setIfInBounds_toArray, List.set]
          refine wpAnyH_take (i := 14) (oi := Oper.mk (some 41) _ _ _ _ _) (v := undef) rfl (by kernel_rfl) (by kernel_rfl) (by kernel_rfl) (fun _ _ _ h => h) (Or.inr ⟨by rfl, rfl⟩) (by assumption) ?_
          try simp only [Act.put, List.setIfInBounds_toArray, List.set]
          refine wpAnyH_take (i := 15) (oi := Oper.mk (some 42) _ _ _ _ _) (v := undef) rfl (by kernel_rfl) (by kernel_rfl) (by kernel_rfl) (fun _ _ _ h => h) (Or.inr ⟨by rfl, rfl⟩) (by assumption) ?_
          try simp only [Act.put, List.setIfInBounds_toArray, List.set]
          refine wpAnyH_take (i := 16) (oi := Oper.mk (some 43) _ _ _ _ _) (v := undef) rfl (by kernel_rfl) (by kernel_rfl) (by kernel_rfl) (fun _ _ _ h => h) (Or.inr ⟨by rfl, rfl⟩) (by assumption) ?_
          try simp only [Act.put, List.setIfInBounds_toArray, List.set]
          refine wpAnyH_take (i := 17) (oi := Oper.mk (some 44) _ _ _ _ _) (v := undef) rfl (by kernel_rfl) (by kernel_rfl) (by kernel_rfl) (fun _ _ _ h => h) (Or.inr ⟨by rfl, rfl⟩) (by assumption) ?_
          try simp only [Act.put, List.setIfInBounds_toArray, List.set]
          refine wpAnyH_take (i := 18) (oi := Oper.mk (some 45) _ _ _ _ _) (v := ?v11) rfl (by kernel_rfl) (by kernel_rfl) (by kernel_rfl) (fun _ _ _ h => h) (Or.inl ⟨by rfl, ?hy11⟩) (by assumption) ?rest11
          case hy11 => (intro w hSw; (try dsimp only at hSw); go_simp; try with_reducible rfl)
          try simp only [Act.put, List.setIfInBounds_toArray, List.set]
          refine wpAnyH_take (i := 19) (oi := Oper.mk (some 46) _ _ _ _ _) (v := ?v12) rfl (by kernel_rfl) (by kernel_rfl) (by kernel_rfl) (fun _ _ _ h => h) (Or.inl ⟨by rfl, ?hy12⟩) (by assumption) ?rest12
          case hy12 => (intro w hSw; (try dsimp only at hSw); go_simp; try with_reducible rfl)
          try simp only [Act.put, List.setIfInBounds_toArray, List.set]
          refine wpAnyH_done (by kernel_rfl) ?_ _
          all_goals
            have hfin : Ext Wp _ := And.left (by assumption)
            have hBf : Ext W0 _ := Below.trans HBP.out (hfin.mono HBP.out.size)
            go_wp2_with fail
            go_roundw
            case rel => exact ⟨k + 1, by omega, by go_num, Lib.hid HST.out.symm, hBf⟩
            case measure => simp [intOf]; omega
        · obtain ⟨k', hk'⟩ : ∃ k', k = k' + 1 := ⟨k - 1, by omega⟩
          obtain ⟨q, hq, hqm, hqa⟩ := hprev k' hk'
          subst hk'
          rw [hq] at hst
          have HCMP := Lib.hid (fun W => pn_compare q.h p.h (HL.out q hqm) (HL.out p HMEM.out) W)
          obtain ⟨z, hz⟩ : ∃ z, Host.cmp q.h p.h = z := ⟨_, rfl⟩
          rw [hz] at HCMP hst
          have wk : IntKind.i64.wrap (k' : Int) = (k' : Int) := by rw [IntKind.wrap_i64]; omega
          have k0 : (0 : Int) ≤ (k' : Int) := by omega
          have k1 : (k' : Int) < (n : Int) := by omega
          have i3 : (0 : Int) ≤ (k' : Int) + 1 := by omega
          have i4 : (k' : Int) + 1 < (n : Int) := by omega
          have t0 : decide (0 < k' + 1) = true := by apply decide_eq_true; omega
          obtain ⟨d1, -, -⟩ := hqa
          obtain ⟨sq, hsq⟩ : ∃ s, str q.h = s := ⟨_, rfl⟩
          rw [hsh] at HCMP
          rw [hsq] at d1 HCMP
          have HCL := Lib.hid (show ∀ w', Ext Wp w' → Ext Wp w' ∧ w'.cell? ⟨wr.heap.size, 0, none⟩ = some (.string sh) ∧ w'.cell? ⟨wr.heap.size, 1, none⟩ = some (.bool p.s) ∧ w'.cell? ⟨wr.heap.size, 2, none⟩ = some (.int .i64 p.x) ∧ wr.heap.size < w'.heap.size ∧ w'.cell? ⟨w.heap.size, 1, none⟩ = some (.slice (some ⟨bb, o, none⟩) n c) ∧ w.heap.size < w'.heap.size ∧ bb < w'.heap.size ∧ w'.cell? ⟨bb, o + k' * 3, none⟩ = some (.string sq) from fun w' he => by
            obtain ⟨a1, a2, a3, a4, a5, a6, a7, a8⟩ := hcl w' he
            exact ⟨a1, a2, a3, a4, a5, a6, a7, a8, (Below.cell (hbp.trans (Below.mono he hbp.size)) (p := ⟨bb, o + k' * 3, none⟩) hbb).trans d1⟩)
          have HST := Lib.hid hst
          clear hprev hgt hkl hv hsh hsq hs hst hz hq hqm hk0 hbp hbx hSp hBp hcl hB d1
          go_wp2_with fail
          rw [HWP.out]
          go_wp2_with fail
          go_region_held3 (fun w' => Ext Wp w' ∧ w'.cell? ⟨wr.heap.size, 0, none⟩ = some (.string sh) ∧ w'.cell? ⟨wr.heap.size, 1, none⟩ = some (.bool p.s) ∧ w'.cell? ⟨wr.heap.size, 2, none⟩ = some (.int .i64 p.x) ∧ wr.heap.size < w'.heap.size ∧ w'.cell? ⟨w.heap.size, 1, none⟩ = some (.slice (some ⟨bb, o, none⟩) n c) ∧ w.heap.size < w'.heap.size ∧ bb < w'.heap.size ∧ w'.cell? ⟨bb, o + k' * 3, none⟩ = some (.string sq)) (first | assumption | exact HCL.out _ (Ext.drew (Ext.refl _)) | exact HCL.out _ (Ext.step (by assumption) (And.left (by assumption)))) (first | (go_at_call 151; go_must (refine (HV.out _).mono ?_); rintro e u1 ⟨rfl, hb1⟩) | (go_at_call 152; go_must (refine (HCMP.out _).mono ?_); rintro e u2 ⟨rfl, hb2⟩))
          all_goals
            have hfin : Ext Wp _ := And.left (by assumption)
            have hBf : Ext W0 _ := Below.trans HBP.out (hfin.mono HBP.out.size)
            by_cases hz0 : 0 ≤ z
            · have hrf : r = false := by rw [HR.out, HST.out, if_pos ⟨by omega, hz0⟩]; rfl
              subst hrf
              go_wp2_with fail
              go_ret
              exact ⟨rfl, HB0.out.trans (Below.mono hBf HB0.out.size)⟩
            · have HRS := Lib.hid (show Tab.chk L (n - (k' + 1 + 1)) (k' + 1 + 1) = z0 by rw [HST.out, if_neg (fun e => hz0 e.2)])
              go_wp2_with fail
              go_roundw
              case rel => exact ⟨k' + 1 + 1, by omega, by go_num, HRS, hBf⟩
              case measure => simp [intOf]; omega
    · obtain rfl : k = n := by omega
      have hr0 : r = true := by rw [HR.out, ← HC.out, Nat.sub_self]; rfl
      subst hr0
      go_wp2_with fail
      go_ret
      exact ⟨rfl, HB0.out.trans (hB.mono HB0.out.size)⟩

end Go.Proofs.YtmanejniepghlaaGreatDoor

/-
  keep.States, keep.OwnState.
-/
namespace Go.Proofs.YtmanejniepghlaaGreatDoor
open Go.RowKit

/-- The value of a state. -/
def sv (x : Int) (v : Value) : Value := .agg #[.int .i64 x, v]

end Go.Proofs.YtmanejniepghlaaGreatDoor

/-
  keep.OwnState.
-/
namespace Go.Proofs.YtmanejniepghlaaGreatDoor
open Go.RowKit

theorem SBox.set2' {w : World} {B : Nat} {c : Int} {v : Value} (hb : SBox w B c v) (c' : Int) (v' : Value) : SBox ((w.setCell ⟨B, 0, none⟩ (.int .i64 c')).setCell ⟨B, 1, none⟩ v') B c' v' :=
  heap_setCell_same _ B 1 _ _ _ (heap_setCell_same _ B 0 _ _ _ hb)
theorem SBox.other' {w : World} {B : Nat} {c : Int} {v : Value} (hb : SBox w B c v) {g : Nat} (hne : g ≠ B) (i : Nat) (u : Value) : SBox (w.setCell ⟨g, i, none⟩ u) B c v :=
  (heap_setCell_other _ _ _ _ (fun e => hne e.symm)).trans hb
theorem SBox.frz' {w : World} {B : Nat} {c : Int} {v : Value} (hb : SBox w B c v) : ∀ j, w.frozen? ⟨B, j, none⟩ = false := fun _ => frozen_of_row _ _ _ _ _ hb

end Go.Proofs.YtmanejniepghlaaGreatDoor

/-
  The walk through update.Decode.
-/
namespace Go.Proofs.YtmanejniepghlaaGreatDoor
open Go.RowKit

theorem set4 {w : World} {B : Nat} {x y z u : Value} {t : TypeId} (hb : w.heap[B]? = some (.cells #[x, y, z, u] t (0, 0))) (a b c d : Value) :
    ((((w.setCell ⟨B, 0, none⟩ a).setCell ⟨B, 1, none⟩ b).setCell ⟨B, 2, none⟩ c).setCell ⟨B, 3, none⟩ d).heap[B]? = some (.cells #[a, b, c, d] t (0, 0)) :=
  heap_setCell_same _ B 3 _ t d (heap_setCell_same _ B 2 _ t c (heap_setCell_same _ B 1 _ t b (heap_setCell_same w B 0 _ t a hb)))
theorem UBox.put {w : World} {B : Nat} {k : Int} {h : ByteArray} {s : Bool} {x : Int} (hb : UBox w B k h s x) (h' : ByteArray) (s' : Bool) (x' : Int) :
    UBox (((w.setCell ⟨B, 1, none⟩ (.string h')).setCell ⟨B, 2, none⟩ (.bool s')).setCell ⟨B, 3, none⟩ (.int .i64 x')) B k h' s' x' :=
  heap_setCell_same _ B 3 _ _ _ (heap_setCell_same _ B 2 _ _ _ (heap_setCell_same _ B 1 _ _ _ hb))
theorem UBox.put1 {w : World} {B : Nat} {k : Int} {h : ByteArray} {s : Bool} {x : Int} (hb : UBox w B k h s x) (h' : ByteArray) : UBox (w.setCell ⟨B, 1, none⟩ (.string h')) B k h' s x :=
  heap_setCell_same _ B 1 _ _ _ hb
theorem UBox.other {w : World} {B : Nat} {k : Int} {h : ByteArray} {s : Bool} {x : Int} (hb : UBox w B k h s x) {g : Nat} (hne : g ≠ B) (i : Nat) (v : Value) : UBox (w.setCell ⟨g, i, none⟩ v) B k h s x :=
  (heap_setCell_other _ _ _ _ (fun e => hne e.symm)).trans hb

/-- What Decode returns. -/
def UDecP (b : List UInt8) (w : World) (e : Ending) (w' : World) : Prop := e = .returned (.tuple #[uv (Upt.dec b).1, .int .i64 (Upt.dec b).2]) ∧ Ext w w'
theorem UDecP.of {b : List UInt8} {u : UpdV} {z : Int} (h : Upt.dec b = (u, z)) {w : World} {e : Ending} {w' : World} (he : e = .returned (.tuple #[uv u, .int .i64 z])) (hb : Ext w w') : UDecP b w e w' := by
  unfold UDecP; rw [h]; exact ⟨he, hb⟩

theorem UBox.frz {w : World} {B : Nat} {k : Int} {h : ByteArray} {s : Bool} {x : Int} (hb : UBox w B k h s x) : ∀ j, w.frozen? ⟨B, j, none⟩ = false := fun _ => frozen_of_row _ _ _ _ _ hb
theorem Upt.dec_nil : Upt.dec [] = (Upt.none, 5) := rfl
theorem Upt.dec_1a {t : List UInt8} {q : Pin} {m : Nat} {z : Int} (h : Pin.dec t = (q, m, z)) (hz : z ≠ 0) : Upt.dec (1 :: t) = (Upt.none, z) := by unfold Upt.dec; dsimp only; rw [if_pos rfl]; unfold Upt.dec1; rw [h]; exact if_pos hz
theorem Upt.dec_1b {t : List UInt8} {q : Pin} {m : Nat} (h : Pin.dec t = (q, m, 0)) (hm : m < t.length) : Upt.dec (1 :: t) = (Upt.none, 6) := by unfold Upt.dec; dsimp only; rw [if_pos rfl]; unfold Upt.dec1; rw [h]; exact (if_neg (by simp)).trans (if_pos hm)
theorem Upt.dec_1c {t : List UInt8} {q : Pin} {m : Nat} (h : Pin.dec t = (q, m, 0)) (hm : ¬ m < t.length) : Upt.dec (1 :: t) = (⟨1, q⟩, 0) := by unfold Upt.dec; dsimp only; rw [if_pos rfl]; unfold Upt.dec1; rw [h]; exact (if_neg (by simp)).trans (if_neg hm)
theorem Upt.dec_2a {t s : List UInt8} {m : Nat} {z : Int} (h : Wire.decT t = (s, m, z)) (hz : z ≠ 0) : Upt.dec (2 :: t) = (Upt.none, z) := by unfold Upt.dec; dsimp only; rw [if_neg (by decide), if_pos rfl]; unfold Upt.dec2; rw [h]; exact if_pos hz
theorem Upt.dec_2b {t s : List UInt8} {m : Nat} (h : Wire.decT t = (s, m, 0)) (hm : m < t.length) : Upt.dec (2 :: t) = (Upt.none, 6) := by unfold Upt.dec; dsimp only; rw [if_neg (by decide), if_pos rfl]; unfold Upt.dec2; rw [h]; exact (if_neg (by simp)).trans (if_pos hm)
theorem Upt.dec_2c {t s : List UInt8} {m : Nat} (h : Wire.decT t = (s, m, 0)) (hm : ¬ m < t.length) (hn : Host.name s = false) : Upt.dec (2 :: t) = (Upt.none, 14) := by unfold Upt.dec; dsimp only; rw [if_neg (by decide), if_pos rfl]; unfold Upt.dec2; rw [h]; exact (if_neg (by simp)).trans ((if_neg hm).trans (if_pos hn))
theorem Upt.dec_2d {t s : List UInt8} {m : Nat} (h : Wire.decT t = (s, m, 0)) (hm : ¬ m < t.length) (hn : Host.name s = true) : Upt.dec (2 :: t) = (⟨2, ⟨s, false, 0⟩⟩, 0) := by unfold Upt.dec; dsimp only; rw [if_neg (by decide), if_pos rfl]; unfold Upt.dec2; rw [h]; exact (if_neg (by simp)).trans ((if_neg hm).trans (if_neg (by rw [hn]; decide)))
theorem Upt.dec_o {t : List UInt8} {x : UInt8} (h1 : x ≠ 1) (h2 : x ≠ 2) : Upt.dec (x :: t) = (Upt.none, 6) := by unfold Upt.dec; dsimp only; rw [if_neg h1, if_neg h2]

set_option maxRecDepth 100000 in
set_option maxHeartbeats 8000000 in
theorem up_decode (a : Option Addr) (n c : Nat) (b : List UInt8) (w : World) (h : SlB w a n c b) (hn : n ≤ 1000000) :
    Calls Tryz.prog 115 #[.slice a n c] w (UDecP b w) := by
  have hln := h.len
  cases b with
  | nil =>
    obtain rfl : n = 0 := hln.symm
    have HR := Lib.hid Upt.dec_nil
    clear h hln
    go_enter Tryz.func115, Tryz.ntmps115
    go_wp2_with fail
    refine bodyPost_ret (v := .tuple #[.agg #[.int .i64 0, .string ⟨#[]⟩, .bool false, .int .i64 0], .int .i64 5]) (by simp [results, Tryz.results115, go_sem]) rfl (UDecP.of HR.out rfl ?_)
    exact (Below.refl _ _).alloc (Nat.le_refl _) _
  | cons x t =>
    simp only [List.length_cons] at hln
    obtain ⟨bb, o, rfl, hbb, -, c0⟩ := h.at (show 0 < n by omega)
    simp only [List.getElem?_cons_zero, Option.getD_some, Nat.add_zero] at c0
    have n1 : (0 : Int) < (n : Int) := by omega
    have n2 : (1 : Int) ≤ (n : Int) := by omega
    have n3 : ((n : Int) == 0) = false := beq_eq_false_iff_ne.2 (by omega)
    have hR0 := UBox.new w 0 ⟨#[]⟩ false 0
    have hB0 := (Below.refl w.heap.size w).alloc (Nat.le_refl _) (.cells #[.int .i64 0, .string ⟨#[]⟩, .bool false, .int .i64 0] 36)
    have hz0 : (w.alloc (.cells #[.int .i64 0, .string ⟨#[]⟩, .bool false, .int .i64 0] 36)).heap.size = w.heap.size + 1 := by simp
    have hx8 : x.toNat < 256 := x.toNat_lt
    obtain ⟨xn, hxn⟩ : ∃ xn : Nat, x.toNat = xn := ⟨_, rfl⟩
    have hU0 := UBox.new (w.alloc (.cells #[.int .i64 0, .string ⟨#[]⟩, .bool false, .int .i64 0] 36)) (xn : Int) ⟨#[]⟩ false 0
    have hB1 := hB0.alloc hB0.size (.cells #[.int .i64 (xn : Int), .string ⟨#[]⟩, .bool false, .int .i64 0] 36)
    have hE1 : Ext (w.alloc (.cells #[.int .i64 0, .string ⟨#[]⟩, .bool false, .int .i64 0] 36)) _ := (Ext.refl _).alloc (.cells #[.int .i64 (xn : Int), .string ⟨#[]⟩, .bool false, .int .i64 0] 36)
    have hR1 := hR0.ext hE1
    have hs1 := h.ext hB1
    rw [hz0] at hU0
    rw [hxn] at c0 hx8
    by_cases hx1 : x = 1
    · subst hx1
      obtain rfl : 1 = xn := hxn
      simp only [show ((1 : Nat) : Int) = 1 from rfl] at c0 hU0 hB1 hE1 hR1 hs1
      obtain ⟨W1, hW1⟩ : ∃ W1, (w.alloc (.cells #[.int .i64 0, .string ⟨#[]⟩, .bool false, .int .i64 0] 36)).alloc (.cells #[.int .i64 1, .string ⟨#[]⟩, .bool false, .int .i64 0] 36) = W1 := ⟨_, rfl⟩
      rw [hW1] at hU0 hB1 hR1 hs1
      have HW1 := Lib.hid hW1
      have HU0 := Lib.hid hU0
      have HR1 := Lib.hid hR1
      have HB1 := Lib.hid hB1
      obtain ⟨q, m, z, hq⟩ : ∃ q m z, Pin.dec t = (q, m, z) := ⟨_, _, _, rfl⟩
      have HD := Lib.hid (fun a2 c2 (hs : SlB W1 a2 (n - 1) c2 t) => pi_decode a2 (n - 1) c2 t W1 hs (by omega))
      unfold PDecP at HD
      rw [hq] at HD
      have HQ := Lib.hid hq
      obtain ⟨qh, qs, qx⟩ := q
      unfold pv at HD
      simp only at HD
      obtain ⟨sq, hsq⟩ : ∃ sq, str qh = sq := ⟨_, rfl⟩
      rw [hsq] at HD
      have HSQ := Lib.hid hsq
      have HLN := Lib.hid hln
      clear hW1 hU0 hR1 hB1 hE1 hR0 hB0 hz0 h hln hq hsq hx8
      by_cases hz : z ≠ 0
      · have HR := Lib.hid (Upt.dec_1a HQ.out hz)
        have t1 : (z != 0) = true := by simpa using hz
        have t2 : (z == 0) = false := by simpa using hz
        clear hz
        go_enter Tryz.func115, Tryz.ntmps115
        go_wp2_with (refine wpList_from rfl _ _ rfl rfl 1 _ rfl rfl (by rw [HW1.out]; exact hs1) (by omega) ?_; intro a2 hsa2)
        rw [HW1.out] at hsa2 ⊢
        refine (HD.out _ _ hsa2).mono ?_; rintro e w2 ⟨rfl, hB2⟩
        have hU2 := HU0.out.ext hB2
        have hR2 := HR1.out.ext hB2
        obtain ⟨u0, u1, u2, u3⟩ := hU2.cells
        obtain ⟨r0, r1, r2, r3⟩ := hR2.cells
        have fu := hU2.frz
        have fr := hR2.frz
        have lu := heap_lt hU2
        have lr := heap_lt hR2
        have hU3 := hU2.put sq qs qx
        have hR3 := ((hR2.other (g := w.heap.size + 1) (by omega) 1 (.string sq)).other (g := w.heap.size + 1) (by omega) 2 (.bool qs)).other (g := w.heap.size + 1) (by omega) 3 (.int .i64 qx)
        have hb3 := (((HB1.out.trans (hB2.mono HB1.out.size)).setCell (p := ⟨w.heap.size + 1, 1, none⟩) (Nat.le_succ _) (.string sq)).setCell (p := ⟨w.heap.size + 1, 2, none⟩) (Nat.le_succ _) (.bool qs)).setCell (p := ⟨w.heap.size + 1, 3, none⟩) (Nat.le_succ _) (.int .i64 qx)
        have HU3 := Lib.hid hU3
        have HR3 := Lib.hid hR3
        have HB3 := Lib.hid hb3
        clear hU2 hR2 hU3 hR3 hb3
        go_wp2_with fail
        have hfin := set4 HR3.out (.int .i64 0) (.string ⟨#[]⟩) (.bool false) (.int .i64 0)
        have d0 := (cell_of_row _ _ 0 _ _ _ hfin).trans rfl
        have d1 := (cell_of_row _ _ 1 _ _ _ hfin).trans rfl
        have d2 := (cell_of_row _ _ 2 _ _ _ hfin).trans rfl
        have d3 := (cell_of_row _ _ 3 _ _ _ hfin).trans rfl
        refine bodyPost_ret (v := .tuple #[.agg #[.int .i64 0, .string ⟨#[]⟩, .bool false, .int .i64 0], .int .i64 z]) (by simp [results, Tryz.results115, go_sem, d0, d1, d2, d3]) rfl (UDecP.of HR.out rfl ?_)
        exact (((HB3.out.setCell (p := ⟨w.heap.size, 0, none⟩) (Nat.le_refl _) _).setCell (p := ⟨w.heap.size, 1, none⟩) (Nat.le_refl _) _).setCell (p := ⟨w.heap.size, 2, none⟩) (Nat.le_refl _) _).setCell (p := ⟨w.heap.size, 3, none⟩) (Nat.le_refl _) _
      obtain rfl : z = 0 := by simpa using hz
      by_cases hm : m < t.length
      · have HR := Lib.hid (Upt.dec_1b HQ.out hm)
        have t1 : (m : Int) < (n : Int) - 1 := by have := HLN.out; omega
        clear hm hz
        go_enter Tryz.func115, Tryz.ntmps115
        go_wp2_with (refine wpList_from rfl _ _ rfl rfl 1 _ rfl rfl (by rw [HW1.out]; exact hs1) (by omega) ?_; intro a2 hsa2)
        rw [HW1.out] at hsa2 ⊢
        refine (HD.out _ _ hsa2).mono ?_; rintro e w2 ⟨rfl, hB2⟩
        have hU2 := HU0.out.ext hB2
        have hR2 := HR1.out.ext hB2
        obtain ⟨u0, u1, u2, u3⟩ := hU2.cells
        obtain ⟨r0, r1, r2, r3⟩ := hR2.cells
        have fu := hU2.frz
        have fr := hR2.frz
        have lu := heap_lt hU2
        have lr := heap_lt hR2
        have hU3 := hU2.put sq qs qx
        have hR3 := ((hR2.other (g := w.heap.size + 1) (by omega) 1 (.string sq)).other (g := w.heap.size + 1) (by omega) 2 (.bool qs)).other (g := w.heap.size + 1) (by omega) 3 (.int .i64 qx)
        have hb3 := (((HB1.out.trans (hB2.mono HB1.out.size)).setCell (p := ⟨w.heap.size + 1, 1, none⟩) (Nat.le_succ _) (.string sq)).setCell (p := ⟨w.heap.size + 1, 2, none⟩) (Nat.le_succ _) (.bool qs)).setCell (p := ⟨w.heap.size + 1, 3, none⟩) (Nat.le_succ _) (.int .i64 qx)
        have HU3 := Lib.hid hU3
        have HR3 := Lib.hid hR3
        have HB3 := Lib.hid hb3
        clear hU2 hR2 hU3 hR3 hb3
        go_wp2_with fail
        have hfin := set4 HR3.out (.int .i64 0) (.string ⟨#[]⟩) (.bool false) (.int .i64 0)
        have d0 := (cell_of_row _ _ 0 _ _ _ hfin).trans rfl
        have d1 := (cell_of_row _ _ 1 _ _ _ hfin).trans rfl
        have d2 := (cell_of_row _ _ 2 _ _ _ hfin).trans rfl
        have d3 := (cell_of_row _ _ 3 _ _ _ hfin).trans rfl
        refine bodyPost_ret (v := .tuple #[.agg #[.int .i64 0, .string ⟨#[]⟩, .bool false, .int .i64 0], .int .i64 6]) (by simp [results, Tryz.results115, go_sem, d0, d1, d2, d3]) rfl (UDecP.of HR.out rfl ?_)
        exact (((HB3.out.setCell (p := ⟨w.heap.size, 0, none⟩) (Nat.le_refl _) _).setCell (p := ⟨w.heap.size, 1, none⟩) (Nat.le_refl _) _).setCell (p := ⟨w.heap.size, 2, none⟩) (Nat.le_refl _) _).setCell (p := ⟨w.heap.size, 3, none⟩) (Nat.le_refl _) _
      · have HR := Lib.hid (Upt.dec_1c HQ.out hm)
        have t1 : ¬ (m : Int) < (n : Int) - 1 := by have := HLN.out; omega
        have hvq : Pin.valid ⟨qh, qs, qx⟩ = true := (Pin.enc_dec HQ.out).1
        have hql : qh.length ≤ 1000000 := by have := Pin.name_len ((Pin.valid_iff _).1 hvq).1; simp only at this; omega
        have HV := Lib.hid (fun W => up_valid ⟨1, ⟨qh, qs, qx⟩⟩ hql W)
        have hvu : Upt.valid ⟨1, ⟨qh, qs, qx⟩⟩ = true := by unfold Upt.valid; rw [if_pos rfl]; exact hvq
        rw [hvu] at HV
        unfold uv uc at HV
        simp only at HV
        rw [HSQ.out] at HV
        clear hm hz hvq hql hvu
        go_enter Tryz.func115, Tryz.ntmps115
        go_wp2_with (refine wpList_from rfl _ _ rfl rfl 1 _ rfl rfl (by rw [HW1.out]; exact hs1) (by omega) ?_; intro a2 hsa2)
        rw [HW1.out] at hsa2 ⊢
        refine (HD.out _ _ hsa2).mono ?_; rintro e w2 ⟨rfl, hB2⟩
        have hU2 := HU0.out.ext hB2
        have hR2 := HR1.out.ext hB2
        obtain ⟨u0, u1, u2, u3⟩ := hU2.cells
        obtain ⟨r0, r1, r2, r3⟩ := hR2.cells
        have fu := hU2.frz
        have fr := hR2.frz
        have lu := heap_lt hU2
        have lr := heap_lt hR2
        have hU3 := hU2.put sq qs qx
        have hR3 := ((hR2.other (g := w.heap.size + 1) (by omega) 1 (.string sq)).other (g := w.heap.size + 1) (by omega) 2 (.bool qs)).other (g := w.heap.size + 1) (by omega) 3 (.int .i64 qx)
        have hb3 := (((HB1.out.trans (hB2.mono HB1.out.size)).setCell (p := ⟨w.heap.size + 1, 1, none⟩) (Nat.le_succ _) (.string sq)).setCell (p := ⟨w.heap.size + 1, 2, none⟩) (Nat.le_succ _) (.bool qs)).setCell (p := ⟨w.heap.size + 1, 3, none⟩) (Nat.le_succ _) (.int .i64 qx)
        have HU3 := Lib.hid hU3
        have HR3 := Lib.hid hR3
        have HB3 := Lib.hid hb3
        clear hU2 hR2 hU3 hR3 hb3
        obtain ⟨W3, hW3⟩ : ∃ W3, ((w2.setCell ⟨w.heap.size + 1, 1, none⟩ (.string sq)).setCell ⟨w.heap.size + 1, 2, none⟩ (.bool qs)).setCell ⟨w.heap.size + 1, 3, none⟩ (.int .i64 qx) = W3 := ⟨_, rfl⟩
        have hu3 := HU3.out
        have hr3 := HR3.out
        have hb3 := HB3.out
        rw [hW3] at hu3 hr3 hb3
        have HW3 := Lib.hid hW3
        have HU4 := Lib.hid hu3
        have HR4 := Lib.hid hr3
        have HB4 := Lib.hid hb3
        clear hu3 hr3 hb3 hW3
        go_wp2_with fail
        rw [HW3.out]
        refine (HV.out _).mono ?_; rintro e w4 ⟨rfl, hB4⟩
        have hU5 := HU4.out.ext hB4
        have hR5 := HR4.out.ext hB4
        clear u0 u1 u2 u3 r0 r1 r2 r3 fu fr lu lr
        obtain ⟨u0, u1, u2, u3⟩ := hU5.cells
        obtain ⟨r0, r1, r2, r3⟩ := hR5.cells
        have fu := hU5.frz
        have fr := hR5.frz
        have lu := heap_lt hU5
        have lr := heap_lt hR5
        have HR5 := Lib.hid hR5
        have HB5 := Lib.hid (HB4.out.trans (Below.mono hB4 HB4.out.size))
        clear hU5 hR5
        go_wp2_with fail
        have hfin := set4 HR5.out (.int .i64 1) (.string sq) (.bool qs) (.int .i64 qx)
        have d0 := (cell_of_row _ _ 0 _ _ _ hfin).trans rfl
        have d1 := (cell_of_row _ _ 1 _ _ _ hfin).trans rfl
        have d2 := (cell_of_row _ _ 2 _ _ _ hfin).trans rfl
        have d3 := (cell_of_row _ _ 3 _ _ _ hfin).trans rfl
        refine bodyPost_ret (v := .tuple #[.agg #[.int .i64 1, .string sq, .bool qs, .int .i64 qx], .int .i64 0]) (by simp [results, Tryz.results115, go_sem, d0, d1, d2, d3]) rfl (UDecP.of HR.out (by unfold uv uc; simp only; rw [HSQ.out]) ?_)
        exact (((HB5.out.setCell (p := ⟨w.heap.size, 0, none⟩) (Nat.le_refl _) _).setCell (p := ⟨w.heap.size, 1, none⟩) (Nat.le_refl _) _).setCell (p := ⟨w.heap.size, 2, none⟩) (Nat.le_refl _) _).setCell (p := ⟨w.heap.size, 3, none⟩) (Nat.le_refl _) _
    by_cases hx2 : x = 2
    · subst hx2
      obtain rfl : 2 = xn := hxn
      simp only [show ((2 : Nat) : Int) = 2 from rfl] at c0 hU0 hB1 hE1 hR1 hs1
      obtain ⟨W1, hW1⟩ : ∃ W1, (w.alloc (.cells #[.int .i64 0, .string ⟨#[]⟩, .bool false, .int .i64 0] 36)).alloc (.cells #[.int .i64 2, .string ⟨#[]⟩, .bool false, .int .i64 0] 36) = W1 := ⟨_, rfl⟩
      rw [hW1] at hU0 hB1 hR1 hs1
      have HW1 := Lib.hid hW1
      have HU0 := Lib.hid hU0
      have HR1 := Lib.hid hR1
      have HB1 := Lib.hid hB1
      obtain ⟨q, m, z, hq⟩ : ∃ q m z, Wire.decT t = (q, m, z) := ⟨_, _, _, rfl⟩
      have HD := Lib.hid (fun a2 c2 (hs : SlB W1 a2 (n - 1) c2 t) => wi_text a2 (n - 1) c2 t W1 hs (by omega))
      rw [hq] at HD
      have HQ := Lib.hid hq
      simp only at HD
      obtain ⟨sq, hsq⟩ : ∃ sq, str q = sq := ⟨_, rfl⟩
      rw [hsq] at HD
      have HSQ := Lib.hid hsq
      have HLN := Lib.hid hln
      clear hW1 hU0 hR1 hB1 hE1 hR0 hB0 hz0 h hln hq hsq hx8 hx1
      by_cases hz : z ≠ 0
      · have HR := Lib.hid (Upt.dec_2a HQ.out hz)
        have t1 : (z != 0) = true := by simpa using hz
        have t2 : (z == 0) = false := by simpa using hz
        clear hz
        go_enter Tryz.func115, Tryz.ntmps115
        go_wp2_with (refine wpList_from rfl _ _ rfl rfl 1 _ rfl rfl (by rw [HW1.out]; exact hs1) (by omega) ?_; intro a2 hsa2)
        rw [HW1.out] at hsa2 ⊢
        refine (HD.out _ _ hsa2).mono ?_; rintro e w2 ⟨rfl, rfl⟩
        obtain ⟨u0, u1, u2, u3⟩ := HU0.out.cells
        obtain ⟨r0, r1, r2, r3⟩ := HR1.out.cells
        have fu := HU0.out.frz
        have fr := HR1.out.frz
        have lu := heap_lt HU0.out
        have lr := heap_lt HR1.out
        have HU3 := Lib.hid (HU0.out.put1 sq)
        have HR3 := Lib.hid (HR1.out.other (g := w.heap.size + 1) (by omega) 1 (.string sq))
        have HB3 := Lib.hid (HB1.out.setCell (p := ⟨w.heap.size + 1, 1, none⟩) (Nat.le_succ _) (.string sq))
        go_wp2_with fail
        have hfin := set4 HR3.out (.int .i64 0) (.string ⟨#[]⟩) (.bool false) (.int .i64 0)
        have d0 := (cell_of_row _ _ 0 _ _ _ hfin).trans rfl
        have d1 := (cell_of_row _ _ 1 _ _ _ hfin).trans rfl
        have d2 := (cell_of_row _ _ 2 _ _ _ hfin).trans rfl
        have d3 := (cell_of_row _ _ 3 _ _ _ hfin).trans rfl
        refine bodyPost_ret (v := .tuple #[.agg #[.int .i64 0, .string ⟨#[]⟩, .bool false, .int .i64 0], .int .i64 z]) (by simp [results, Tryz.results115, go_sem, d0, d1, d2, d3]) rfl (UDecP.of HR.out rfl ?_)
        exact (((HB3.out.setCell (p := ⟨w.heap.size, 0, none⟩) (Nat.le_refl _) _).setCell (p := ⟨w.heap.size, 1, none⟩) (Nat.le_refl _) _).setCell (p := ⟨w.heap.size, 2, none⟩) (Nat.le_refl _) _).setCell (p := ⟨w.heap.size, 3, none⟩) (Nat.le_refl _) _
      obtain rfl : z = 0 := by simpa using hz
      by_cases hm : m < t.length
      · have HR := Lib.hid (Upt.dec_2b HQ.out hm)
        have t1 : (m : Int) < (n : Int) - 1 := by have := HLN.out; omega
        clear hm hz
        go_enter Tryz.func115, Tryz.ntmps115
        go_wp2_with (refine wpList_from rfl _ _ rfl rfl 1 _ rfl rfl (by rw [HW1.out]; exact hs1) (by omega) ?_; intro a2 hsa2)
        rw [HW1.out] at hsa2 ⊢
        refine (HD.out _ _ hsa2).mono ?_; rintro e w2 ⟨rfl, rfl⟩
        obtain ⟨u0, u1, u2, u3⟩ := HU0.out.cells
        obtain ⟨r0, r1, r2, r3⟩ := HR1.out.cells
        have fu := HU0.out.frz
        have fr := HR1.out.frz
        have lu := heap_lt HU0.out
        have lr := heap_lt HR1.out
        have HU3 := Lib.hid (HU0.out.put1 sq)
        have HR3 := Lib.hid (HR1.out.other (g := w.heap.size + 1) (by omega) 1 (.string sq))
        have HB3 := Lib.hid (HB1.out.setCell (p := ⟨w.heap.size + 1, 1, none⟩) (Nat.le_succ _) (.string sq))
        go_wp2_with fail
        have hfin := set4 HR3.out (.int .i64 0) (.string ⟨#[]⟩) (.bool false) (.int .i64 0)
        have d0 := (cell_of_row _ _ 0 _ _ _ hfin).trans rfl
        have d1 := (cell_of_row _ _ 1 _ _ _ hfin).trans rfl
        have d2 := (cell_of_row _ _ 2 _ _ _ hfin).trans rfl
        have d3 := (cell_of_row _ _ 3 _ _ _ hfin).trans rfl
        refine bodyPost_ret (v := .tuple #[.agg #[.int .i64 0, .string ⟨#[]⟩, .bool false, .int .i64 0], .int .i64 6]) (by simp [results, Tryz.results115, go_sem, d0, d1, d2, d3]) rfl (UDecP.of HR.out rfl ?_)
        exact (((HB3.out.setCell (p := ⟨w.heap.size, 0, none⟩) (Nat.le_refl _) _).setCell (p := ⟨w.heap.size, 1, none⟩) (Nat.le_refl _) _).setCell (p := ⟨w.heap.size, 2, none⟩) (Nat.le_refl _) _).setCell (p := ⟨w.heap.size, 3, none⟩) (Nat.le_refl _) _
      have hql : q.length ≤ 1000000 := by have := (Wire.txt_decT HQ.out).2.2.1; omega
      have HV := Lib.hid (fun W => up_valid ⟨2, ⟨q, false, 0⟩⟩ hql W)
      have hvu : Upt.valid ⟨2, ⟨q, false, 0⟩⟩ = Host.name q := by unfold Upt.valid; simp
      rw [hvu] at HV
      unfold uv uc at HV
      simp only at HV
      rw [HSQ.out] at HV
      have t1 : ¬ (m : Int) < (n : Int) - 1 := by have := HLN.out; omega
      cases hnm : Host.name q with
      | false =>
        have HR := Lib.hid (Upt.dec_2c HQ.out hm hnm)
        rw [hnm] at HV
        clear hm hz hql hvu hnm
        go_enter Tryz.func115, Tryz.ntmps115
        go_wp2_with (refine wpList_from rfl _ _ rfl rfl 1 _ rfl rfl (by rw [HW1.out]; exact hs1) (by omega) ?_; intro a2 hsa2)
        rw [HW1.out] at hsa2 ⊢
        refine (HD.out _ _ hsa2).mono ?_; rintro e w2 ⟨rfl, rfl⟩
        obtain ⟨u0, u1, u2, u3⟩ := HU0.out.cells
        obtain ⟨r0, r1, r2, r3⟩ := HR1.out.cells
        have fu := HU0.out.frz
        have fr := HR1.out.frz
        have lu := heap_lt HU0.out
        have lr := heap_lt HR1.out
        have HU3 := Lib.hid (HU0.out.put1 sq)
        have HR3 := Lib.hid (HR1.out.other (g := w.heap.size + 1) (by omega) 1 (.string sq))
        have HB3 := Lib.hid (HB1.out.setCell (p := ⟨w.heap.size + 1, 1, none⟩) (Nat.le_succ _) (.string sq))
        obtain ⟨W3, hW3⟩ : ∃ W3, W1.setCell ⟨w.heap.size + 1, 1, none⟩ (.string sq) = W3 := ⟨_, rfl⟩
        have hu3 := HU3.out
        have hr3 := HR3.out
        have hb3 := HB3.out
        rw [hW3] at hu3 hr3 hb3
        have HW3 := Lib.hid hW3
        have HU4 := Lib.hid hu3
        have HR4 := Lib.hid hr3
        have HB4 := Lib.hid hb3
        clear hu3 hr3 hb3 hW3
        go_wp2_with fail
        rw [HW3.out]
        refine (HV.out _).mono ?_; rintro e w4 ⟨rfl, hB4⟩
        have hU5 := HU4.out.ext hB4
        have hR5 := HR4.out.ext hB4
        clear u0 u1 u2 u3 r0 r1 r2 r3 fu fr lu lr
        obtain ⟨u0, u1, u2, u3⟩ := hU5.cells
        obtain ⟨r0, r1, r2, r3⟩ := hR5.cells
        have fu := hU5.frz
        have fr := hR5.frz
        have lu := heap_lt hU5
        have lr := heap_lt hR5
        have HR5 := Lib.hid hR5
        have HB5 := Lib.hid (HB4.out.trans (Below.mono hB4 HB4.out.size))
        clear hU5 hR5
        go_wp2_with fail
        have hfin := set4 HR5.out (.int .i64 0) (.string ⟨#[]⟩) (.bool false) (.int .i64 0)
        have d0 := (cell_of_row _ _ 0 _ _ _ hfin).trans rfl
        have d1 := (cell_of_row _ _ 1 _ _ _ hfin).trans rfl
        have d2 := (cell_of_row _ _ 2 _ _ _ hfin).trans rfl
        have d3 := (cell_of_row _ _ 3 _ _ _ hfin).trans rfl
        refine bodyPost_ret (v := .tuple #[.agg #[.int .i64 0, .string ⟨#[]⟩, .bool false, .int .i64 0], .int .i64 14]) (by simp [results, Tryz.results115, go_sem, d0, d1, d2, d3]) rfl (UDecP.of HR.out rfl ?_)
        exact (((HB5.out.setCell (p := ⟨w.heap.size, 0, none⟩) (Nat.le_refl _) _).setCell (p := ⟨w.heap.size, 1, none⟩) (Nat.le_refl _) _).setCell (p := ⟨w.heap.size, 2, none⟩) (Nat.le_refl _) _).setCell (p := ⟨w.heap.size, 3, none⟩) (Nat.le_refl _) _
      | true =>
        have HR := Lib.hid (Upt.dec_2d HQ.out hm hnm)
        rw [hnm] at HV
        clear hm hz hql hvu hnm
        go_enter Tryz.func115, Tryz.ntmps115
        go_wp2_with (refine wpList_from rfl _ _ rfl rfl 1 _ rfl rfl (by rw [HW1.out]; exact hs1) (by omega) ?_; intro a2 hsa2)
        rw [HW1.out] at hsa2 ⊢
        refine (HD.out _ _ hsa2).mono ?_; rintro e w2 ⟨rfl, rfl⟩
        obtain ⟨u0, u1, u2, u3⟩ := HU0.out.cells
        obtain ⟨r0, r1, r2, r3⟩ := HR1.out.cells
        have fu := HU0.out.frz
        have fr := HR1.out.frz
        have lu := heap_lt HU0.out
        have lr := heap_lt HR1.out
        have HU3 := Lib.hid (HU0.out.put1 sq)
        have HR3 := Lib.hid (HR1.out.other (g := w.heap.size + 1) (by omega) 1 (.string sq))
        have HB3 := Lib.hid (HB1.out.setCell (p := ⟨w.heap.size + 1, 1, none⟩) (Nat.le_succ _) (.string sq))
        obtain ⟨W3, hW3⟩ : ∃ W3, W1.setCell ⟨w.heap.size + 1, 1, none⟩ (.string sq) = W3 := ⟨_, rfl⟩
        have hu3 := HU3.out
        have hr3 := HR3.out
        have hb3 := HB3.out
        rw [hW3] at hu3 hr3 hb3
        have HW3 := Lib.hid hW3
        have HU4 := Lib.hid hu3
        have HR4 := Lib.hid hr3
        have HB4 := Lib.hid hb3
        clear hu3 hr3 hb3 hW3
        go_wp2_with fail
        rw [HW3.out]
        refine (HV.out _).mono ?_; rintro e w4 ⟨rfl, hB4⟩
        have hU5 := HU4.out.ext hB4
        have hR5 := HR4.out.ext hB4
        clear u0 u1 u2 u3 r0 r1 r2 r3 fu fr lu lr
        obtain ⟨u0, u1, u2, u3⟩ := hU5.cells
        obtain ⟨r0, r1, r2, r3⟩ := hR5.cells
        have fu := hU5.frz
        have fr := hR5.frz
        have lu := heap_lt hU5
        have lr := heap_lt hR5
        have HR5 := Lib.hid hR5
        have HB5 := Lib.hid (HB4.out.trans (Below.mono hB4 HB4.out.size))
        clear hU5 hR5
        go_wp2_with fail
        have hfin := set4 HR5.out (.int .i64 2) (.string sq) (.bool false) (.int .i64 0)
        have d0 := (cell_of_row _ _ 0 _ _ _ hfin).trans rfl
        have d1 := (cell_of_row _ _ 1 _ _ _ hfin).trans rfl
        have d2 := (cell_of_row _ _ 2 _ _ _ hfin).trans rfl
        have d3 := (cell_of_row _ _ 3 _ _ _ hfin).trans rfl
        refine bodyPost_ret (v := .tuple #[.agg #[.int .i64 2, .string sq, .bool false, .int .i64 0], .int .i64 0]) (by simp [results, Tryz.results115, go_sem, d0, d1, d2, d3]) rfl (UDecP.of HR.out (by unfold uv uc; simp only; rw [HSQ.out]) ?_)
        exact (((HB5.out.setCell (p := ⟨w.heap.size, 0, none⟩) (Nat.le_refl _) _).setCell (p := ⟨w.heap.size, 1, none⟩) (Nat.le_refl _) _).setCell (p := ⟨w.heap.size, 2, none⟩) (Nat.le_refl _) _).setCell (p := ⟨w.heap.size, 3, none⟩) (Nat.le_refl _) _
    have hx1' : xn ≠ 1 := fun e => hx1 (UInt8.toNat_inj.1 (hxn.trans e))
    have hx2' : xn ≠ 2 := fun e => hx2 (UInt8.toNat_inj.1 (hxn.trans e))
    obtain ⟨W1, hW1⟩ : ∃ W1, (w.alloc (.cells #[.int .i64 0, .string ⟨#[]⟩, .bool false, .int .i64 0] 36)).alloc (.cells #[.int .i64 (xn : Int), .string ⟨#[]⟩, .bool false, .int .i64 0] 36) = W1 := ⟨_, rfl⟩
    rw [hW1] at hU0 hB1 hR1 hs1
    have HW1 := Lib.hid hW1
    have HU0 := Lib.hid hU0
    have HR1 := Lib.hid hR1
    have HB1 := Lib.hid hB1
    have HR := Lib.hid (Upt.dec_o (t := t) hx1 hx2)
    have t1 : ((xn : Int) == 1) = false := beq_eq_false_iff_ne.2 (by omega)
    have t2 : ((xn : Int) == 2) = false := beq_eq_false_iff_ne.2 (by omega)
    have wx : IntKind.i64.wrap (xn : Int) = (xn : Int) := by rw [IntKind.wrap_i64]; omega
    clear hW1 hU0 hR1 hB1 hE1 hR0 hB0 hz0 h hln hx1 hx2 hx1' hx2' hxn hs1
    obtain ⟨r0, r1, r2, r3⟩ := HR1.out.cells
    have fr := HR1.out.frz
    have lr := heap_lt HR1.out
    go_enter Tryz.func115, Tryz.ntmps115
    go_wp2_with fail
    refine bodyPost_ret (v := .tuple #[.agg #[.int .i64 0, .string ⟨#[]⟩, .bool false, .int .i64 0], .int .i64 6]) (by simp [results, Tryz.results115, go_sem]) rfl (UDecP.of HR.out rfl ?_)
    rw [HW1.out]
    exact HB1.out

end Go.Proofs.YtmanejniepghlaaGreatDoor
