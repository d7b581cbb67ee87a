/-
  The walks through the statements' helpers (package hstsstorekeep) that deal with bytes and numbers.
-/
import Derived.Test.YtcmeajaakdaeeaaDoorRun0
namespace Go.Proofs.YtcmeajaakdaeeaaDoor
open Go.RowKit

theorem keep_own (a : Option Addr) (n c : Nat) (l : List UInt8) (w : World) (h : SlB w a n c l) (hn : n ≤ 140737488355328) :
    Calls Tryd.prog 18 #[.slice a n c] w fun e w' => ∃ v, e = .returned v ∧ OwnB w.heap.size w' v l ∧ Below w.heap.size w w' := by
  have h2 : SlB (w.alloc (.cells #[] 5)) a n c l := h.ext ((Below.refl _ _).alloc (Nat.le_refl _) _)
  go_enter Tryd.func18, Tryd.ntmps18
  go_wp2_with (at_builtin; refine wpList_append_bytes rfl _ _ rfl w.heap.size _ [] rfl (OwnB.empty w (Nat.le_refl _)) a n c l rfl h2 (by simpa using hn) (by simp) ?_; intro v w1 hown hg _)
  go_ret
  exact ⟨v, rfl, hown, ((Below.refl _ _).alloc (Nat.le_refl _) _).grown hg (by simp) (fun k hk => by cases hk; exact Nat.le_refl _)⟩

theorem keep_bytes (a b : Option Addr) (n m c d : Nat) (l k : List UInt8) (w : World) (h : SlB w a n c l) (h' : SlB w b m d k) :
    Calls Tryd.prog 17 #[.slice a n c, .slice b m d] w fun e w' => e = .returned (.bool (l == k)) ∧ w = w' := by
  have h1 := run_conv_bytes h
  have h2 := run_conv_bytes h'
  clear h h'
  go_enter Tryd.func17, Tryd.ntmps17
  go_wp2
  go_ret
  exact ⟨by simp, rfl⟩

theorem tmod_pos (n m : Int) (hm : 0 < m) : (if n.tmod m < 0 then n.tmod m + m else n.tmod m) = n % m := by
  have h1 := Int.emod_nonneg n (show m ≠ 0 by omega)
  have h2 := Int.emod_lt_of_pos n hm
  have h3 := Int.tmod_eq_emod (a := n) (b := m)
  by_cases hc : 0 ≤ n ∨ m ∣ n
  · rw [if_pos hc] at h3
    rw [h3]; split <;> omega
  · rw [if_neg hc] at h3
    rw [h3]; split <;> omega

theorem keep_mod (n m : Int) (w : World) (hm : 0 < m) (hm2 : m ≤ 9223372036854775807) :
    Calls Tryd.prog 28 #[.int .i64 n, .int .i64 m] w fun e w' => e = .returned (.int .i64 (n % m)) ∧ w = w' := by
  have h0 := tmod_pos n m hm
  have h1 := Int.lt_tmod_of_pos n hm
  have h2 := Int.tmod_lt_of_pos n hm
  by_cases h : n.tmod m < 0
  · rw [if_pos h] at h0; have H := Lib.hid h0; clear h0
    go_enter Tryd.func28, Tryd.ntmps28
    go_wp2
    go_ret
    exact ⟨by rw [← H.out]; rfl, rfl⟩
  · rw [if_neg h] at h0; have H := Lib.hid h0; clear h0
    go_enter Tryd.func28, Tryd.ntmps28
    go_wp2
    go_ret
    exact ⟨by rw [← H.out]; rfl, rfl⟩

end Go.Proofs.YtcmeajaakdaeeaaDoor
