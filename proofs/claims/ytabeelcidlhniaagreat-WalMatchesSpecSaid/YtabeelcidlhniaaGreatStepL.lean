/-
  append of one slice of bytes to a slice of slices, as an equation on the builtin's run and as a step of a region that draws its order.
-/
import Derived.Test.YtabeelcidlhniaaGreatStepB
import Derived.Test.YtabeelcidlhniaaGreatLists
namespace Go.Proofs.YtabeelcidlhniaaGreat
open Go.RowKit

theorem run_append_list {w : World} (ty : TypeId) (base : Nat) (v : Value) (ls : List (List UInt8)) (hown : OwnL base w v ls) (u : Value) (l : List UInt8) (hu : OwnB base w u l) (k : Nat) (hk : w.cell? ⟨k, 0, none⟩ = some u) (hlen : ls.length ≤ 1000000000) (hbase : base ≤ w.heap.size) :
    ∃ v' w', (Builtin.append_ #[48, 48] ty #[v, .slice (some ⟨k, 0, none⟩) 1 1]).run Tryz.prog w = .ok v' w' ∧ OwnL base w' v' (ls ++ [l]) ∧ w.grownBy w' v.ownBlock := by
  obtain ⟨i0, hi, hz0, hz1, hz2⟩ := info_parts info26
  obtain ⟨vs, h1, h2⟩ := hown
  have hvl : vs.length = ls.length := by rw [h1.1]; simp
  obtain ⟨v', w', hrun, h3, h4, _⟩ := run_append_own (P := Tryz.prog) w base 48 ty 37 i0 (.slice none 0 0) 1 24 Tryz.underlying48 hi hz0 hz1 hz2 rfl (by decide) v ls.length vs h1 ⟨k, 0, none⟩ 1 1 [u] rfl (fun j q hj => by
      obtain ⟨rfl, rfl⟩ : j = 0 ∧ q = u := by
        cases j with
        | zero => exact ⟨rfl, by simpa using hj.symm⟩
        | succ j => simp at hj
      have hadd : (⟨k, 0, none⟩ : Addr).add 0 = ⟨k, 0, none⟩ := by unfold Addr.add; split <;> simp_all
      rw [hadd]; exact hk) (fun q hq => by
      simp at hq; subst hq
      obtain ⟨p, d, rfl, -⟩ := hu.sl
      rfl) (by unfold maxLen; omega) (by omega) hbase
  refine ⟨v', w', hrun, ⟨vs ++ [u], by simpa using h3, fun i hi => ?_⟩, h4⟩
  have hkeep : ∀ q m, OwnB base w q m → OwnB base w' q m := fun q m hq => hq.grownL h1 h4
  by_cases hil : i < ls.length
  · obtain ⟨q, h5, h6⟩ := h2 i hil
    refine ⟨q, ?_, ?_⟩
    · rw [List.getElem?_append_left (by omega)]; exact h5
    · rw [List.getElem?_append_left hil]; exact hkeep _ _ h6
  · obtain rfl : i = ls.length := by simp at hi; omega
    refine ⟨u, ?_, ?_⟩
    · rw [List.getElem?_append_right (by omega), hvl]; simp
    · rw [List.getElem?_append_right (by omega)]; simpa using hkeep _ _ hu

theorem step_app_l {w : World} {ops : Array Oper} {o : Oper} {a : Act} {K : Act → World → Prop} {Q : Exit → Act → World → Prop} {E : Prop} (hgd : o.guard = none) (s x : Operand)
    (ho : o.op = .call { callee := .builtin .append, args := #[s, x], argTypes := #[48, 48] })
    (base : Nat) (v : Value) (ls : List (List UInt8)) (hs : a.eval s = v) (hown : OwnL base w v ls) (u : Value) (l : List UInt8) (hu : OwnB base w u l) (k : Nat) (hx : a.eval x = .slice (some ⟨k, 0, none⟩) 1 1) (hk : w.cell? ⟨k, 0, none⟩ = some u)
    (hlen : ls.length ≤ 1000000000) (hbase : base ≤ w.heap.size)
    (h : ∀ v' w', OwnL base w' v' (ls ++ [l]) → w.grownBy w' v.ownBlock → K (a.put o.dst v') w') :
    if Region.wanted o (yielded ops a.tmps) = true then Oper.wp Tryz.prog o a w K Q else E := by
  have hw : Region.wanted o (yielded ops a.tmps) = true := by simp [Region.wanted, hgd]
  rw [if_pos hw]
  obtain ⟨v', w', hrun, h1, h2⟩ := run_append_list o.type base v ls hown u l hu k hk hlen hbase
  unfold Oper.wp
  simp [execOp, ho, resolve, invoke, builtin, hs, hx, hrun, Result.andThen]
  exact h v' w' h1 h2

end Go.Proofs.YtabeelcidlhniaaGreat
