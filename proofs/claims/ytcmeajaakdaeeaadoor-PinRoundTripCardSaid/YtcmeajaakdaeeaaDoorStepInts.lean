/-
  append of a slice of ints onto an own slice, as one step of a region that draws its order.
-/
import Derived.Test.YtcmeajaakdaeeaaDoorPunyDecode
namespace Go.Proofs.YtcmeajaakdaeeaaDoor
open Go.RowKit

theorem step_append_ints {w : World} {ops : Array Oper} {o : Oper} {a : Act} {K : Act → World → Prop} {Q : Exit → Act → World → Prop} {E : Prop} (hgd : o.guard = none) (s x : Operand)
    (ho : o.op = .call { callee := .builtin .append, args := #[s, x], argTypes := #[92, 92] })
    (base : Nat) (v : Value) (l : List Int) (hs : a.eval s = v) (hown : OwnI base w v l) (b : Option Addr) (m c : Nat) (l2 : List Int) (hx : a.eval x = .slice b m c) (hsl : SlI w b m c l2)
    (hlen : l.length + m ≤ 10000000000000) (hbase : base ≤ w.heap.size)
    (h : ∀ v' w', OwnI base w' v' (l ++ l2) → w.grownBy w' v.ownBlock → K (a.put o.dst v') w') :
    if Region.wanted o (yielded ops a.tmps) = true then Oper.wp Tryd.prog o a w K Q else E := by
  have hw : Region.wanted o (yielded ops a.tmps) = true := by simp [Region.wanted, hgd]
  rw [if_pos hw]
  obtain ⟨i0, hi, hz0, hz1, hz2⟩ := info_parts infoInt
  cases b with
  | none =>
    obtain ⟨rfl, rfl⟩ := hsl.2.2.2.1 rfl
    obtain rfl : m = 0 := hsl.1.symm
    have hrun := run_append_owned_none (P := Tryd.prog) (w := w) base 92 o.type 3 i0 1 Tryd.underlying92 hi v l.length _ hown
    unfold Oper.wp
    simp [execOp, ho, resolve, invoke, builtin, hs, hx, hrun, Result.andThen]
    exact h v w (by simpa using hown) ⟨rfl, rfl, rfl, Nat.le_refl _, fun _ _ _ => rfl⟩
  | some ad =>
    have hl2 := hsl.len
    refine wp_append_own w s x 92 ho base 3 i0 (.int .i64 0) 1 8 Tryd.underlying92 hi hz0 hz1 hz2 rfl (by decide) v l.length _ hs hown ad m c (l2.map iv) hx (by simp [hl2]) ?_ ?_ (by unfold maxLen; omega) (by omega) hbase ?_
    · intro j u hj
      have hjl : j < l2.length := by
        have := (List.getElem?_eq_some_iff.1 hj).1; simpa using this
      obtain ⟨hsp, hb, this⟩ := hsl.2.2.2.2 ad rfl j hjl
      have hadd : ad.add j = ⟨ad.block, ad.off + j, none⟩ := by
        obtain ⟨b, o, sp⟩ := ad; simp only at hsp; subst hsp; unfold Addr.add; split <;> simp_all
      rw [hadd, this]; rw [← hj]; simp [iv, hjl]
    · intro u hu
      obtain ⟨b, _, rfl⟩ := List.mem_map.1 hu; rfl
    · intro v' w' h1 h2 _
      refine h v' w' ?_ h2
      unfold OwnI; rw [List.length_append, List.map_append, hl2]; exact h1

theorem SlI.grown {w w' : World} {x : Addr} {n c : Nat} {l : List Int} {row : Option Nat} (h : SlI w (some x) n c l) (hg : w.grownBy w' row) (hne : row ≠ some x.block) : SlI w' (some x) n c l := by
  obtain ⟨hl, hn, hc, h0, h1⟩ := h
  refine ⟨hl, hn, hc, h0, fun y hy i hi => ?_⟩
  cases hy
  obtain ⟨hs, hb, hi⟩ := h1 x rfl i hi
  exact ⟨hs, Nat.lt_of_lt_of_le hb hg.size, (World.cell?_of_block (a := ⟨x.block, x.off + i, none⟩) (hg.block _ hb (fun e => hne e.symm))).trans hi⟩

/-- The same where the world that grew is w but for its draws. -/
theorem sli_grownD {w W w' : World} {x : Addr} {n c : Nat} {l : List Int} {row : Option Nat} (h : SlI w (some x) n c l) (hg : W.grownBy w' row) (he : W.heap = w.heap) (hne : row ≠ some x.block) : SlI w' (some x) n c l := by
  have h' : SlI W (some x) n c l := by
    obtain ⟨hl, hn, hc, h0, h1⟩ := h
    refine ⟨hl, hn, hc, h0, fun y hy i hi => ?_⟩
    obtain ⟨hs, hb, hi⟩ := h1 y hy i hi
    exact ⟨hs, by rw [he]; exact hb, (World.cell?_of_block (a := ⟨y.block, y.off + i, none⟩) (by rw [he])).trans hi⟩
  exact h'.grown hg hne
theorem below_grownD {B : Nat} {w0 w W w' : World} {row : Option Nat} (h : Below B w0 w) (hg : W.grownBy w' row) (he : W.heap = w.heap) (ho : W.os = w.os) (ht : W.tape = w.tape) (hp : W.output = w.output) (hB : B ≤ w.heap.size) (hk : ∀ k, row = some k → B ≤ k) : Below B w0 w' := by
  have h' : Below B w0 W := h.trans ⟨ho, ht, hp, by rw [he]; exact Nat.le_refl _, fun k _ => by rw [he]⟩
  exact h'.grown hg (by rw [he]; exact hB) hk

/-- A small machine: append(append(append([]int{}, out[:m]...), N), out[m:]...) is ins. -/
theorem ins_eq (l : List Int) (m : Nat) (n : Int) : ([] ++ l.take m) ++ [n] ++ l.drop m = Puny.ins l m n := by simp [Puny.ins]

end Go.Proofs.YtcmeajaakdaeeaaDoor
