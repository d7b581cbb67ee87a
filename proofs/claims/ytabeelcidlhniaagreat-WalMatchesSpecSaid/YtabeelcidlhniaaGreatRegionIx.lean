/-
  A region that draws its order, in a round's frame, by an invariant over the set of its operations that have run: each operation is walked once, whatever came before it.
-/
import Derived.Test.YtabeelcidlhniaaGreatRangeIx
import Derived.Shelf.RegionOpen
import Derived.OwnWalkIn
namespace Go.Proofs.YtabeelcidlhniaaGreat
open Go.RowKit

theorem ready_mem {md : Region.Mode} {ops : Array Oper} {l : Array Bool} {i : Nat} (h : i ∈ Region.ready md ops l) : i < ops.size ∧ l.getD i true = false := by
  unfold Region.ready at h
  obtain ⟨h1, h2⟩ := List.mem_filter.1 h
  simp only [Bool.and_eq_true] at h2
  exact ⟨List.mem_range.1 h1, by have := h2.1; simpa using this⟩

theorem left_zero {l : Array Bool} {i : Nat} (h : l.getD i true = false) (hi : i < l.size) : 0 < l.toList.countP (fun b => b == false) := by
  refine List.countP_pos_iff.2 ⟨l[i], by simp, ?_⟩
  have : l.getD i true = l[i] := by simp [hi]
  rw [← this, h]; rfl
theorem left_less {l : Array Bool} {i : Nat} (h : l.getD i true = false) (hi : i < l.size) : (l.setIfInBounds i true).toList.countP (fun b => b == false) + 1 = l.toList.countP (fun b => b == false) := by
  have h1 := left_zero h hi
  have hli : l.toList[i]'(by simpa using hi) = false := by
    have : l.getD i true = l[i] := by simp [hi]
    rw [← h, this]; simp
  rw [Array.toList_setIfInBounds, List.countP_set (by simpa using hi), hli]
  have e : (true == false) = false := rfl
  simp only [beq_self_eq_true, if_true, e, Bool.false_eq_true, if_false]
  omega

theorem wpAnyIn_inv {F : Fence} {n : Nat} {P : Program} {ops : Array Oper} {Q : Exit → Act → World → Prop} (Inv : Array Bool → Act → World → Prop) (hsz : ∀ l a W, Inv l a W → l.size = ops.size)
    (hdone : ∀ l a W, Inv l a W → Region.ready .any ops l = [] → Q .normal a W)
    (hstep : ∀ l a W i, Inv l a W → i ∈ Region.ready .any ops l → ∀ K' : Act → World → Prop, (∀ a' W', Inv (l.setIfInBounds i true) a' W' → K' a' W') → wpOpIn F n P ops Q i K' a W) :
    ∀ (fuel : Nat) (l : Array Bool) (a : Act) (W : World), Inv l a W → l.toList.countP (fun b => b == false) ≤ fuel → wpAnyIn F n P .any ops Q fuel l a W := by
  intro fuel
  induction fuel with
  | zero =>
    intro l a W hi hc
    have hr : Region.ready .any ops l = [] := by
      cases hrd : Region.ready .any ops l with
      | nil => rfl
      | cons i r =>
        have hm : i ∈ Region.ready .any ops l := by rw [hrd]; exact List.mem_cons_self
        obtain ⟨h1, h2⟩ := ready_mem hm
        have := left_zero h2 (by rw [hsz l a W hi]; exact h1)
        omega
    exact ⟨hr, hdone l a W hi hr⟩
  | succ fuel ih =>
    intro l a W hi hc
    refine ⟨fun hr => hdone l a W hi hr, fun i hm => ?_⟩
    obtain ⟨h1, h2⟩ := ready_mem hm
    have h3 := left_less h2 (by rw [hsz l a W hi]; exact h1)
    exact hstep l a W i hi hm _ (fun a' W' hi' => ih _ a' W' hi' (by omega))

theorem put_getD (a : Act) (d : Nat) (v : Value) (k : Nat) (hd : d < a.tmps.size) : (a.put (some d) v).tmps.getD k undef = if k = d then v else a.tmps.getD k undef := by
  show (a.tmps.setIfInBounds d v).getD k undef = _
  by_cases h : k = d
  · subst h; simp [hd]
  · simp [Ne.symm h, h]
theorem put_size (a : Act) (d : Nat) (v : Value) : (a.put (some d) v).tmps.size = a.tmps.size := by
  show (a.tmps.setIfInBounds d v).size = _
  simp
theorem bit_set (l : Array Bool) (i j : Nat) (d : Bool) (hi : i < l.size) : (l.setIfInBounds i true).getD j d = if j = i then true else l.getD j d := by
  by_cases h : j = i
  · subst h; simp [hi]
  · simp [Ne.symm h, h]

/-- The operation that stands at a place: what it does, where it puts it, which ones go ahead of it. -/
structure OpIs (ops : Array Oper) (i : Nat) (op : Op) (dst : Option Nat) (deps : List Nat) : Prop where
  ex : ∃ o, ops[i]? = some o ∧ o.op = op ∧ o.guard = none ∧ o.dst = dst ∧ o.after.toList.map (fun e => (e.on, Region.binds .any e)) = deps.map (fun j => (j, true))

theorem OpIs.dep {ops : Array Oper} {i : Nat} {op : Op} {dst : Option Nat} {deps : List Nat} (h : OpIs ops i op dst deps) {l : Array Bool} (hm : i ∈ Region.ready .any ops l) {j : Nat} (hj : j ∈ deps) : l.getD j false = true := by
  obtain ⟨o, h1, h2, h3, h4, h5⟩ := h.ex
  unfold Region.ready at hm
  obtain ⟨_, hm⟩ := List.mem_filter.1 hm
  simp only [Bool.and_eq_true, h1, Option.map_some, Option.getD_some, Array.all_eq_true_iff_forall_mem] at hm
  have : (j, true) ∈ o.after.toList.map (fun e => (e.on, Region.binds .any e)) := by rw [h5]; exact List.mem_map.2 ⟨j, hj, rfl⟩
  obtain ⟨e, he, h6⟩ := List.mem_map.1 this
  have h7 := hm.2 e (by simpa using he)
  injection h6 with h8 h9
  rw [h9, h8] at h7
  simpa using h7
theorem OpIs.listed {ops : Array Oper} {i : Nat} {op : Op} {dst : Option Nat} {deps : List Nat} (h : OpIs ops i op dst deps) {l : Array Bool} (hr : Region.ready .any ops l = []) (hd : ∀ j ∈ deps, l.getD j false = true) (hi : i < ops.size) : l.getD i true = true := by
  obtain ⟨o, h1, h2, h3, h4, h5⟩ := h.ex
  cases hl : l.getD i true with
  | true => rfl
  | false =>
    exfalso
    have : i ∈ Region.ready .any ops l := by
      unfold Region.ready
      refine List.mem_filter.2 ⟨List.mem_range.2 hi, ?_⟩
      simp only [Bool.and_eq_true, h1, Option.map_some, Option.getD_some, Array.all_eq_true_iff_forall_mem]
      refine ⟨by rw [hl]; rfl, fun e he => ?_⟩
      have h6 : (e.on, Region.binds .any e) ∈ deps.map (fun j => (j, true)) := by rw [← h5]; exact List.mem_map.2 ⟨e, by simpa using he, rfl⟩
      obtain ⟨j, hj, h7⟩ := List.mem_map.1 h6
      injection h7 with h8 h9
      rw [← h8, hd j hj]; simp
    rw [hr] at this; cases this
theorem OpIs.value {F : Fence} {n : Nat} {P : Program} {ops : Array Oper} {Q : Exit → Act → World → Prop} {i : Nat} {op : Op} {dst : Option Nat} {deps : List Nat} (h : OpIs ops i op dst deps) {a : Act} {w : World} (hd : ∀ c, op ≠ .defer c)
    (hab : ∀ o : Oper, o.op = op → o.about P w a.eval = none) {v : Value} {w' : World} (hr : ∀ o : Oper, o.op = op → (execOp a.eval o).run P w = .ok (.value v) w') {K : Act → World → Prop} (hK : K (a.put dst v) w') : wpOpIn F n P ops Q i K a w := by
  obtain ⟨o, h1, h2, h3, h4, h5⟩ := h.ex
  unfold wpOpIn
  rw [h1]
  simp only [Region.wanted, h3, if_true]
  unfold Oper.wpIn
  rw [Oper.semAt_plain F _ _ (by rw [h2]; exact hd), hr o h2]
  refine ⟨(fun f hf => by rw [hab o h2] at hf; cases hf), ?_⟩
  rw [Oper.uponIn_value, h4]; exact hK
theorem OpIs.skip {F : Fence} {n : Nat} {P : Program} {ops : Array Oper} {Q : Exit → Act → World → Prop} {i : Nat} {op : Op} {dst : Option Nat} {deps : List Nat} (h : OpIs ops i op dst deps) {a : Act} {w : World} (hd : ∀ c, op ≠ .defer c)
    (hab : ∀ o : Oper, o.op = op → o.about P w a.eval = none) {w' : World} (hr : ∀ o : Oper, o.op = op → (execOp a.eval o).run P w = .ok .skip w') {K : Act → World → Prop} (hK : K (a.put dst undef) w') : wpOpIn F n P ops Q i K a w := by
  obtain ⟨o, h1, h2, h3, h4, h5⟩ := h.ex
  unfold wpOpIn
  rw [h1]
  simp only [Region.wanted, h3, if_true]
  unfold Oper.wpIn
  rw [Oper.semAt_plain F _ _ (by rw [h2]; exact hd), hr o h2]
  refine ⟨(fun f hf => by rw [hab o h2] at hf; cases hf), ?_⟩
  rw [Oper.uponIn_skip, h4]; exact hK

end Go.Proofs.YtabeelcidlhniaaGreat
