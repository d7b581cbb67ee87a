/-
  The walks through the statements' helpers (package hstsstorekeep) that deal with bytes and numbers.
-/
import Derived.Test.YtabeelcidlhniaaGreatBase
namespace Go.Proofs.YtabeelcidlhniaaGreat
open Go.RowKit

theorem keep_own (a : Option Addr) (n c : Nat) (l : List UInt8) (w : World) (h : SlB w a n c l) (hn : n ≤ 140737488355328) :
    Calls Tryz.prog 8 #[.slice a n c] w fun e w' => ∃ v, e = .returned v ∧ OwnB w.heap.size w' v l ∧ Below w.heap.size w w' := by
  have h2 : SlB (w.alloc (.cells #[] 5)) a n c l := h.ext ((Below.refl _ _).alloc (Nat.le_refl _) _)
  go_enter Tryz.func8, Tryz.ntmps8
  go_wp2_with (at_builtin; refine wpList_append_bytes rfl _ _ rfl w.heap.size _ [] rfl (OwnB.empty w (Nat.le_refl _)) a n c l rfl h2 (by simpa using hn) (by simp) ?_; intro v w1 hown hg _)
  go_ret
  exact ⟨v, rfl, hown, ((Below.refl _ _).alloc (Nat.le_refl _) _).grown hg (by simp) (fun k hk => by cases hk; exact Nat.le_refl _)⟩

theorem keep_bytes (a b : Option Addr) (n m c d : Nat) (l k : List UInt8) (w : World) (h : SlB w a n c l) (h' : SlB w b m d k) :
    Calls Tryz.prog 11 #[.slice a n c, .slice b m d] w fun e w' => e = .returned (.bool (l == k)) ∧ w = w' := by
  have h1 := run_conv_bytes h
  have h2 := run_conv_bytes h'
  clear h h'
  go_enter Tryz.func11, Tryz.ntmps11
  go_wp2
  go_ret
  exact ⟨by simp, rfl⟩

theorem tmod_pos (n m : Int) (hm : 0 < m) : (if n.tmod m < 0 then n.tmod m + m else n.tmod m) = n % m := by
  have h1 := Int.emod_nonneg n (show m ≠ 0 by omega)
  have h2 := Int.emod_lt_of_pos n hm
  have h3 := Int.tmod_eq_emod (a := n) (b := m)
  by_cases hc : 0 ≤ n ∨ m ∣ n
  · rw [if_pos hc] at h3
    rw [h3]; split <;> omega
  · rw [if_neg hc] at h3
    rw [h3]; split <;> omega


end Go.Proofs.YtabeelcidlhniaaGreat
