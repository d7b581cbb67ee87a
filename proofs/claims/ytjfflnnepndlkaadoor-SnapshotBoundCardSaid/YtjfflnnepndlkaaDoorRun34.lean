/-
  The walk through the reference's ValidState.
-/
import Derived.Test.YtjfflnnepndlkaaDoorRun27
namespace Go.Proofs.YtjfflnnepndlkaaDoor
open Go.RowKit

theorem Upt.stValid_load (ck : Int) (L : List Pin) : Upt.stValid ck L = decide (0 ≤ ck ∧ ck ≤ 1099511627776 ∧ Tab.load L 1000 = 0) := by
  unfold Upt.stValid Tab.load
  apply decide_eq_decide.2
  rw [if_neg (by omega)]
  by_cases h2 : (1000 : Int) < L.length
  · rw [if_pos h2]
    exact ⟨fun e => by omega, fun e => by omega⟩
  · rw [if_neg h2]
    exact ⟨fun e => ⟨e.1, e.2.1, e.2.2.2⟩, fun e => ⟨e.1, e.2.1, by omega, e.2.2⟩⟩

set_option maxHeartbeats 4000000 in
set_option maxRecDepth 100000 in
theorem ru_validState (ck : Int) (a : Option Addr) (n c : Nat) (L : List Pin) (w : World) (h : SlN w a n c L) (hn : n ≤ 1000000) (hL : ∀ p ∈ L, p.h.length ≤ 1000000) :
    Calls Tryd.prog 24 #[.agg #[.int .i64 ck, .slice a n c]] w fun e w' => e = .returned (.bool (Upt.stValid ck L)) ∧ Ext w w' := by
  have hr := Upt.stValid_load ck L
  obtain ⟨r, hrr⟩ : ∃ r, Upt.stValid ck L = r := ⟨_, rfl⟩
  rw [hrr] at hr ⊢
  have hb0 := (Below.refl w.heap.size w).alloc (Nat.le_refl _) (.cells #[.int .i64 ck, .slice a n c] 24)
  have HB0 := Lib.hid hb0
  have HLD := Lib.hid (rt_load 1000 a n c L _ (h.ext hb0) hn hL)
  have hln := h.len
  have h0 : n = 0 → Tab.load L 1000 = 0 := fun e => by
    have : L = [] := List.eq_nil_of_length_eq_zero (by omega)
    subst this; rfl
  obtain ⟨z, hz⟩ : ∃ z, Tab.load L 1000 = z := ⟨_, rfl⟩
  rw [hz] at hr h0 HLD
  clear hz hrr hb0 h hL
  by_cases h1 : ck < 0
  · have hrf : r = false := by rw [hr]; exact decide_eq_false (fun e => by omega)
    subst hrf
    clear hr hln h0
    go_enter Tryd.func24, Tryd.ntmps24
    go_wp2_with fail
    go_ret
    exact ⟨rfl, HB0.out⟩
  have t1 : decide (0 ≤ ck) = true := decide_eq_true (by omega)
  by_cases h2 : 1099511627776 < ck
  · have hrf : r = false := by rw [hr]; exact decide_eq_false (fun e => by omega)
    subst hrf
    clear hr hln h0
    go_enter Tryd.func24, Tryd.ntmps24
    go_wp2_with fail
    go_ret
    exact ⟨rfl, HB0.out⟩
  have t2 : decide (ck ≤ 1099511627776) = true := decide_eq_true (by omega)
  have hr2 : r = decide (z = 0) := by rw [hr]; apply decide_eq_decide.2; exact ⟨fun e => e.2.2, fun e => ⟨by omega, by omega, e⟩⟩
  clear hr
  by_cases hn0 : n = 0
  · have hrt : r = true := by rw [hr2]; exact decide_eq_true (h0 hn0)
    subst hrt; subst hn0
    clear hr2 h0 hln
    go_enter Tryd.func24, Tryd.ntmps24
    go_wp2_with fail
    go_ret
    exact ⟨rfl, HB0.out⟩
  · have t3 : ((n : Int) == 0) = false := beq_eq_false_iff_ne.2 (by omega)
    have HR := Lib.hid hr2
    have HZ := Lib.hid (show (w.alloc (.cells #[.int .i64 ck, .slice a n c] 24)).heap.size = w.heap.size + 1 by simp)
    clear hr2 h0 hln hn0
    go_enter Tryd.func24, Tryd.ntmps24
    go_wp2_with fail
    refine HLD.out.mono ?_; rintro e w1 ⟨rfl, hb1⟩
    go_wp2_with fail
    go_ret
    exact ⟨by rw [HR.out]; rfl, HB0.out.trans (hb1.mono HB0.out.size)⟩

end Go.Proofs.YtjfflnnepndlkaaDoor
