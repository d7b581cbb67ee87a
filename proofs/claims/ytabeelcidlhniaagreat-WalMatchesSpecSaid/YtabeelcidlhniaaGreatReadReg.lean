/-
  The statement out = append(out, b[p.from:p.to]...) of extent.Read inside a round: its operations in any order.
-/
import Derived.Test.YtabeelcidlhniaaGreatRegionIx
import Derived.Test.YtabeelcidlhniaaGreatRuns
import Derived.WalkKit
namespace Go.Proofs.YtabeelcidlhniaaGreat
open Go.RowKit

theorem bitF {l : Array Bool} {j : Nat} (h : l.getD j false = true) : l.getD j true = true := by
  have hj : j < l.size := by
    rcases Nat.lt_or_ge j l.size with h1 | h1
    · exact h1
    · rw [Array.getD_eq_getD_getElem?, Array.getElem?_eq_none h1] at h; cases h
  rw [Array.getD_eq_getD_getElem?, Array.getElem?_eq_getElem hj] at h ⊢
  simpa using h
theorem bitT {l : Array Bool} {j : Nat} (h : l.getD j true = true) (hj : j < l.size) : l.getD j false = true := by
  rw [Array.getD_eq_getD_getElem?, Array.getElem?_eq_getElem hj] at h ⊢
  simpa using h

/-- How far the statement has come. -/
structure RegInv (X pb : Nat) (vo : Value) (bb q u cc : Nat) (W0 : World) (Fact : Value → World → Prop) (Fin : World → Prop) (l : Array Bool) (a : Act) (W : World) : Prop where
  lsz : l.size = 9
  asz : a.tmps.size = 49
  s11 : a.tmps.getD 11 undef = .pointer (some ⟨X, 0, none⟩)
  s12 : a.tmps.getD 12 undef = .pointer (some ⟨pb, 0, none⟩)
  s13 : a.tmps.getD 13 undef = .slice (some ⟨bb, 0, none⟩) 64 cc
  i0 : l.getD 0 true = true → a.tmps.getD 40 undef = vo
  i1 : l.getD 1 true = true → a.tmps.getD 41 undef = .slice (some ⟨bb, 0, none⟩) 64 cc
  i2 : l.getD 2 true = true → a.tmps.getD 42 undef = .pointer (some ⟨pb, 1, none⟩)
  i3 : l.getD 3 true = true → a.tmps.getD 43 undef = .int .i64 (q : Int)
  i4 : l.getD 4 true = true → a.tmps.getD 44 undef = .pointer (some ⟨pb, 2, none⟩)
  i5 : l.getD 5 true = true → a.tmps.getD 45 undef = .int .i64 (u : Int)
  i6 : l.getD 6 true = true → a.tmps.getD 46 undef = .slice (some ⟨bb, q, none⟩) (u - q) (cc - q)
  o6 : l.getD 6 true = true → l.getD 3 true = true ∧ l.getD 5 true = true
  o7 : l.getD 7 true = true → l.getD 0 true = true ∧ l.getD 6 true = true
  o8 : l.getD 8 true = true → l.getD 7 true = true
  w0 : l.getD 7 true = false → W = W0
  w7 : l.getD 7 true = true → l.getD 8 true = false → Fact (a.tmps.getD 47 undef) W
  w8 : l.getD 8 true = true → Fin W

theorem RegInv.step {X pb : Nat} {vo : Value} {bb q u cc : Nat} {W0 : World} {Fact : Value → World → Prop} {Fin : World → Prop} {l : Array Bool} {a : Act} {W : World} (h : RegInv X pb vo bb q u cc W0 Fact Fin l a W) (i d : Nat) (v : Value) (W' : World)
    (hi : i < 9) (hd : d = i + 40) (hl : l.getD i true = false)
    (g0 : i = 0 → v = vo) (g1 : i = 1 → v = .slice (some ⟨bb, 0, none⟩) 64 cc) (g2 : i = 2 → v = .pointer (some ⟨pb, 1, none⟩)) (g3 : i = 3 → v = .int .i64 (q : Int)) (g4 : i = 4 → v = .pointer (some ⟨pb, 2, none⟩)) (g5 : i = 5 → v = .int .i64 (u : Int)) (g6 : i = 6 → v = .slice (some ⟨bb, q, none⟩) (u - q) (cc - q))
    (p6 : i = 6 → l.getD 3 true = true ∧ l.getD 5 true = true) (p7 : i = 7 → l.getD 0 true = true ∧ l.getD 6 true = true) (h8 : i ≠ 8) (hW : i ≠ 7 → W' = W) (h7 : i = 7 → Fact v W') : RegInv X pb vo bb q u cc W0 Fact Fin (l.setIfInBounds i true) (a.put (some d) v) W' := by
  have hia : i < l.size := by rw [h.lsz]; exact hi
  have hda : d < a.tmps.size := by rw [h.asz]; omega
  have A : ∀ k, (a.put (some d) v).tmps.getD k undef = if k = d then v else a.tmps.getD k undef := fun k => put_getD a d v k hda
  have B : ∀ k, (l.setIfInBounds i true).getD k true = if k = i then true else l.getD k true := fun k => bit_set l i k true hia
  have S : ∀ (j : Nat) (x : Value), (i = j → v = x) → (l.getD j true = true → a.tmps.getD (j + 40) undef = x) → (l.setIfInBounds i true).getD j true = true → (a.put (some d) v).tmps.getD (j + 40) undef = x := by
    intro j x e1 e2 e3
    rw [A]; rw [B] at e3
    by_cases hj : j = i
    · rw [if_pos (by omega)]; exact e1 hj.symm
    · rw [if_neg hj] at e3; rw [if_neg (by omega)]; exact e2 e3
  refine ⟨by simpa using h.lsz, by rw [put_size]; exact h.asz, by rw [A, if_neg (by omega)]; exact h.s11, by rw [A, if_neg (by omega)]; exact h.s12, by rw [A, if_neg (by omega)]; exact h.s13,
    S 0 _ g0 h.i0, S 1 _ g1 h.i1, S 2 _ g2 h.i2, S 3 _ g3 h.i3, S 4 _ g4 h.i4, S 5 _ g5 h.i5, S 6 _ g6 h.i6, ?_, ?_, ?_, ?_, ?_, ?_⟩
  · intro e; rw [B] at e ⊢; rw [B]
    by_cases h6 : 6 = i
    · obtain ⟨e1, e2⟩ := p6 h6.symm; rw [e1, e2]; simp
    · rw [if_neg h6] at e; obtain ⟨e1, e2⟩ := h.o6 e; rw [e1, e2]; simp
  · intro e; rw [B] at e ⊢; rw [B]
    by_cases h7 : 7 = i
    · obtain ⟨e1, e2⟩ := p7 h7.symm; rw [e1, e2]; simp
    · rw [if_neg h7] at e; obtain ⟨e1, e2⟩ := h.o7 e; rw [e1, e2]; simp
  · intro e; rw [B, if_neg (fun e => h8 e.symm)] at e; rw [B, h.o8 e]; simp
  · intro e; rw [B] at e
    by_cases h7' : 7 = i
    · rw [if_pos h7'] at e; cases e
    · rw [if_neg h7'] at e; rw [hW (fun e => h7' e.symm)]; exact h.w0 e
  · intro e e8; rw [B] at e e8; rw [A]
    rw [if_neg (fun e => h8 e.symm)] at e8
    by_cases h7' : 7 = i
    · rw [if_pos (by omega)]; exact h7 h7'.symm
    · rw [if_neg h7'] at e; rw [if_neg (by omega), hW (fun e => h7' e.symm)]; exact h.w7 e e8
  · intro e; rw [B, if_neg (fun e => h8 e.symm)] at e
    by_cases h7' : i = 7
    · -- the eighth behind the seventh
      exfalso
      have := h.o8 e; rw [← h7', hl] at this; cases this
    · rw [hW h7']; exact h.w8 e

set_option maxRecDepth 100000 in
theorem rd_region {F : Fence} {n : Nat} {ops : Array Oper} {Q : Exit → Act → World → Prop} {a : Act} {W : World} (hsz : ops.size = 9)
    (e0 : OpIs ops 0 (.load 37 (.tmp 11)) (some 40) []) (e1 : OpIs ops 1 (.move (.tmp 13)) (some 41) []) (e2 : OpIs ops 2 (.fieldAddr 103 (.tmp 12) 1) (some 42) []) (e3 : OpIs ops 3 (.load 3 (.tmp 42)) (some 43) [2])
    (e4 : OpIs ops 4 (.fieldAddr 103 (.tmp 12) 2) (some 44) []) (e5 : OpIs ops 5 (.load 3 (.tmp 44)) (some 45) [4]) (e6 : OpIs ops 6 (.slice 37 (.tmp 41) (some (.tmp 43)) (some (.tmp 45)) none) (some 46) [1, 3, 5])
    (e7 : OpIs ops 7 (.call { callee := .builtin .append, args := #[.tmp 40, .tmp 46], argTypes := #[37, 37] }) (some 47) [0, 6]) (e8 : OpIs ops 8 (.store 37 (.tmp 11) (.tmp 47)) none [7, 7, 0, 1, 2, 3, 4, 5, 6, 7])
    {X pb bb q u cc base : Nat} {vo : Value} {acc l2 : List UInt8} (ha : a.tmps.size = 49) (h11 : a.tmps.getD 11 undef = .pointer (some ⟨X, 0, none⟩)) (h12 : a.tmps.getD 12 undef = .pointer (some ⟨pb, 0, none⟩)) (h13 : a.tmps.getD 13 undef = .slice (some ⟨bb, 0, none⟩) 64 cc)
    (hX : Boxed W X 37 vo) (hp1 : W.cell? ⟨pb, 1, none⟩ = some (.int .i64 (q : Int))) (hp2 : W.cell? ⟨pb, 2, none⟩ = some (.int .i64 (u : Int))) (hq : q ≤ u) (hu : u ≤ 64) (hc : 64 ≤ cc) (hq6 : q < 64) (hO : OwnB base W vo acc) (hb : base ≤ W.heap.size) (hXb : ∀ k, vo.ownBlock = some k → k ≠ X)
    (hS : SlB W (some ⟨bb, q, none⟩) (u - q) (cc - q) l2) (hlen : acc.length + (u - q) ≤ 140737488355328)
    (hQ : ∀ a' v' W', OwnB base W' v' (acc ++ l2) → W.grownBy W' vo.ownBlock → Q .normal a' (W'.setCell ⟨X, 0, none⟩ v')) :
    wpAnyIn F n Tryz.prog .any ops Q ops.size (Array.replicate ops.size false) a W := by
  obtain ⟨Inv, hInv⟩ : ∃ Inv, Inv = RegInv X pb vo bb q u cc W (fun v W1 => OwnB base W1 v (acc ++ l2) ∧ W.grownBy W1 vo.ownBlock) (fun W2 => ∃ v1 W1, OwnB base W1 v1 (acc ++ l2) ∧ W.grownBy W1 vo.ownBlock ∧ W2 = W1.setCell ⟨X, 0, none⟩ v1) := ⟨_, rfl⟩
  refine wpAnyIn_inv Inv (fun l a W h => by rw [hInv] at h; rw [h.lsz, hsz]) ?_ ?_ _ _ _ _ ?_ ?_
  · -- all have run
    rintro l a1 W1 h hr
    rw [hInv] at h
    have f0 := e0.listed hr (by simp) (by omega)
    have T : ∀ {j : Nat}, l.getD j true = true → j < 9 → l.getD j false = true := fun h1 h2 => bitT h1 (by rw [h.lsz]; exact h2)
    have f1 := e1.listed hr (by simp) (by omega)
    have f2 := e2.listed hr (by simp) (by omega)
    have f4 := e4.listed hr (by simp) (by omega)
    have f3 := e3.listed hr (by intro j hj; simp only [List.mem_cons, List.not_mem_nil, or_false] at hj; rw [hj]; exact T f2 (by omega)) (by omega)
    have f5 := e5.listed hr (by intro j hj; simp only [List.mem_cons, List.not_mem_nil, or_false] at hj; rw [hj]; exact T f4 (by omega)) (by omega)
    have f6 := e6.listed hr (by intro j hj; simp only [List.mem_cons, List.not_mem_nil, or_false] at hj; rcases hj with rfl | rfl | rfl <;> first | exact T f1 (by omega) | exact T f3 (by omega) | exact T f5 (by omega)) (by omega)
    have f7 := e7.listed hr (by intro j hj; simp only [List.mem_cons, List.not_mem_nil, or_false] at hj; rcases hj with rfl | rfl <;> first | exact T f0 (by omega) | exact T f6 (by omega)) (by omega)
    have f8 := e8.listed hr (by intro j hj; simp only [List.mem_cons, List.not_mem_nil, or_false] at hj; rcases hj with rfl | rfl | rfl | rfl | rfl | rfl | rfl | rfl | rfl | rfl <;> first | exact T f0 (by omega) | exact T f1 (by omega) | exact T f2 (by omega) | exact T f3 (by omega) | exact T f4 (by omega) | exact T f5 (by omega) | exact T f6 (by omega) | exact T f7 (by omega)) (by omega)
    obtain ⟨v1, W2, q1, q2, rfl⟩ := h.w8 f8
    exact hQ _ _ _ q1 q2
  · -- one more
    intro l a1 W1 i h hm K' hK
    rw [hInv] at h hK
    obtain ⟨hi, hl⟩ := ready_mem hm
    rw [hsz] at hi
    have n7 : i ≠ 8 → l.getD 8 true = true → l.getD 7 true = true := fun _ => h.o8
    have x11 : a1.tmps[11]?.getD undef = .pointer (some ⟨X, 0, none⟩) := by have := h.s11; rwa [Array.getD_eq_getD_getElem?] at this
    have x12 : a1.tmps[12]?.getD undef = .pointer (some ⟨pb, 0, none⟩) := by have := h.s12; rwa [Array.getD_eq_getD_getElem?] at this
    have x13 : a1.tmps[13]?.getD undef = .slice (some ⟨bb, 0, none⟩) 64 cc := by have := h.s13; rwa [Array.getD_eq_getD_getElem?] at this
    match i, hi with
    | 0, _ =>
      have hW : W1 = W := h.w0 (by cases h7 : l.getD 7 true with | false => rfl | true => have := (h.o7 h7).1; rw [hl] at this; cases this)
      subst hW
      have hcell := hX.cell
      refine e0.value (by simp) (fun o ho => by simp [Oper.about, ho]) (v := vo) (w' := W1) (fun o ho => ?_) (hK _ _ (h.step 0 40 vo W1 (by omega) rfl hl (fun _ => rfl) (by simp) (by simp) (by simp) (by simp) (by simp) (by simp) (by simp) (by simp) (by simp) (fun _ => rfl) (by simp)))
      simp [execOp, ho, x11, go_sem, hcell]
    | 1, _ =>
      refine e1.value (by simp) (fun o ho => by simp [Oper.about, ho]) (v := .slice (some ⟨bb, 0, none⟩) 64 cc) (w' := W1) (fun o ho => ?_) (hK _ _ (h.step 1 41 _ W1 (by omega) rfl hl (by simp) (fun _ => rfl) (by simp) (by simp) (by simp) (by simp) (by simp) (by simp) (by simp) (by simp) (fun _ => rfl) (by simp)))
      simp [execOp, ho, x13, go_sem]
    | 2, _ =>
      refine e2.value (by simp) (fun o ho => by simp [Oper.about, ho]) (v := .pointer (some ⟨pb, 1, none⟩)) (w' := W1) (fun o ho => ?_) (hK _ _ (h.step 2 42 _ W1 (by omega) rfl hl (by simp) (by simp) (fun _ => rfl) (by simp) (by simp) (by simp) (by simp) (by simp) (by simp) (by simp) (fun _ => rfl) (by simp)))
      simp [execOp, ho, x12, go_sem]
    | 4, _ =>
      refine e4.value (by simp) (fun o ho => by simp [Oper.about, ho]) (v := .pointer (some ⟨pb, 2, none⟩)) (w' := W1) (fun o ho => ?_) (hK _ _ (h.step 4 44 _ W1 (by omega) rfl hl (by simp) (by simp) (by simp) (by simp) (fun _ => rfl) (by simp) (by simp) (by simp) (by simp) (by simp) (fun _ => rfl) (by simp)))
      simp [execOp, ho, x12, go_sem]
    | 3, _ =>
      have d2 := e3.dep hm (j := 2) (by simp)
      have hs : a1.tmps[42]?.getD undef = .pointer (some ⟨pb, 1, none⟩) := by have := h.i2 (bitF d2); rwa [Array.getD_eq_getD_getElem?] at this
      have hW : W1 = W := h.w0 (by cases h7 : l.getD 7 true with | false => rfl | true => have := (h.o6 (h.o7 h7).2).1; rw [hl] at this; cases this)
      subst hW
      refine e3.value (by simp) (fun o ho => by simp [Oper.about, ho]) (v := .int .i64 (q : Int)) (w' := W1) (fun o ho => ?_) (hK _ _ (h.step 3 43 _ W1 (by omega) rfl hl (by simp) (by simp) (by simp) (fun _ => rfl) (by simp) (by simp) (by simp) (by simp) (by simp) (by simp) (fun _ => rfl) (by simp)))
      simp [execOp, ho, hs, go_sem, hp1]
    | 5, _ =>
      have d4 := e5.dep hm (j := 4) (by simp)
      have hs : a1.tmps[44]?.getD undef = .pointer (some ⟨pb, 2, none⟩) := by have := h.i4 (bitF d4); rwa [Array.getD_eq_getD_getElem?] at this
      have hW : W1 = W := h.w0 (by cases h7 : l.getD 7 true with | false => rfl | true => have := (h.o6 (h.o7 h7).2).2; rw [hl] at this; cases this)
      subst hW
      refine e5.value (by simp) (fun o ho => by simp [Oper.about, ho]) (v := .int .i64 (u : Int)) (w' := W1) (fun o ho => ?_) (hK _ _ (h.step 5 45 _ W1 (by omega) rfl hl (by simp) (by simp) (by simp) (by simp) (by simp) (fun _ => rfl) (by simp) (by simp) (by simp) (by simp) (fun _ => rfl) (by simp)))
      simp [execOp, ho, hs, go_sem, hp2]
    | 6, _ =>
      have d1 := e6.dep hm (j := 1) (by simp)
      have d3 := e6.dep hm (j := 3) (by simp)
      have d5 := e6.dep hm (j := 5) (by simp)
      have s1 : a1.tmps[41]?.getD undef = .slice (some ⟨bb, 0, none⟩) 64 cc := by have := h.i1 (bitF d1); rwa [Array.getD_eq_getD_getElem?] at this
      have s3 : a1.tmps[43]?.getD undef = .int .i64 (q : Int) := by have := h.i3 (bitF d3); rwa [Array.getD_eq_getD_getElem?] at this
      have s5 : a1.tmps[45]?.getD undef = .int .i64 (u : Int) := by have := h.i5 (bitF d5); rwa [Array.getD_eq_getD_getElem?] at this
      have c1 : ¬ cc = q := by omega
      have c2 : u ≤ cc := by omega
      refine e6.value (by simp) (fun o ho => by simp [Oper.about, ho]) (v := .slice (some ⟨bb, q, none⟩) (u - q) (cc - q)) (w' := W1) (fun o ho => ?_) (hK _ _ (h.step 6 46 _ W1 (by omega) rfl hl (by simp) (by simp) (by simp) (by simp) (by simp) (by simp) (fun _ => rfl) (fun _ => ⟨bitF d3, bitF d5⟩) (by simp) (by simp) (fun _ => rfl) (by simp)))
      simp [execOp, ho, s1, s3, s5, go_sem, c1, c2, hq]
    | 7, _ =>
      have d0 := e7.dep hm (j := 0) (by simp)
      have d6 := e7.dep hm (j := 6) (by simp)
      have hW : W1 = W := h.w0 hl
      subst hW
      obtain ⟨o, ho1, ho2, ho3, ho4, ho5⟩ := id e7.ex
      obtain ⟨v', w', hrun, hv, hg⟩ := run_append_bytes o.type base vo acc hO (some ⟨bb, q, none⟩) (u - q) (cc - q) l2 hS hlen hb
      unfold wpOpIn
      rw [ho1]
      simp only [Region.wanted, ho3, if_true]
      unfold Oper.wpIn
      rw [Oper.semAt_plain F _ _ (by rw [ho2]; intro c hc'; cases hc')]
      refine ⟨by simp [Oper.about, ho2, resolve, Target.leads, Sem.run_pure], ?_⟩
      have : (execOp a1.eval o).run Tryz.prog W1 = .ok (.value v') w' := by
        have s0' : a1.eval (.tmp 40) = vo := h.i0 (bitF d0)
        have s6' : a1.eval (.tmp 46) = .slice (some ⟨bb, q, none⟩) (u - q) (cc - q) := h.i6 (bitF d6)
        simp [execOp, ho2, resolve, invoke, builtin, s0', s6', hrun, Result.andThen]
      rw [this, Oper.uponIn_value, ho4]
      exact hK _ _ (h.step 7 47 v' w' (by omega) rfl hl (by simp) (by simp) (by simp) (by simp) (by simp) (by simp) (by simp) (by simp) (fun _ => ⟨bitF d0, bitF d6⟩) (by simp) (by simp) (fun _ => ⟨hv, hg⟩))
    | 8, _ =>
      have d7 := e8.dep hm (j := 7) (by simp)
      obtain ⟨hv, hg⟩ := h.w7 (bitF d7) hl
      obtain ⟨v', hv'⟩ : ∃ v', v' = a1.tmps.getD 47 undef := ⟨_, rfl⟩
      rw [← hv'] at hv
      have s7 : a1.tmps[47]?.getD undef = v' := by have := hv'.symm; rwa [Array.getD_eq_getD_getElem?] at this
      have hfr : W1.frozen? ⟨X, 0, none⟩ = false := by
        exact (hX.kept hg (fun e => hXb X e.symm rfl)).frozen
      refine e8.skip (by simp) (fun o ho => by simp [Oper.about, ho]) (w' := W1.setCell ⟨X, 0, none⟩ v') (fun o ho => ?_) (hK _ _ ?_)
      · obtain ⟨av, cv, hvv, -, -⟩ := hv.sl
        have hcl := (hX.kept hg (fun e => hXb X e.symm rfl)).cell
        simp [execOp, ho, x11, s7, hvv, go_sem, hfr, hcl]
      · have B : ∀ k, (l.setIfInBounds 8 true).getD k true = if k = 8 then true else l.getD k true := fun k => bit_set l 8 k true (by rw [h.lsz]; omega)
        refine ⟨by simpa using h.lsz, h.asz, h.s11, h.s12, h.s13, ?_, ?_, ?_, ?_, ?_, ?_, ?_, ?_, ?_, ?_, ?_, ?_, ?_⟩
        · intro e; rw [B] at e; exact h.i0 e
        · intro e; rw [B] at e; exact h.i1 e
        · intro e; rw [B] at e; exact h.i2 e
        · intro e; rw [B] at e; exact h.i3 e
        · intro e; rw [B] at e; exact h.i4 e
        · intro e; rw [B] at e; exact h.i5 e
        · intro e; rw [B] at e; exact h.i6 e
        · intro e; rw [B] at e; simp only [B]; exact h.o6 e
        · intro e; rw [B] at e; simp only [B]; exact h.o7 e
        · intro e; rw [B]; exact bitF d7
        · intro e; rw [B] at e; have := bitF d7; rw [if_neg (by decide), this] at e; cases e
        · intro _ e; rw [B] at e; cases e
        · intro _; exact ⟨v', W1, hv, hg, rfl⟩
  · rw [hInv, hsz]
    have : ∀ j, j < 9 → (Array.replicate 9 false).getD j true = false := by decide
    refine ⟨rfl, ha, h11, h12, h13, ?_, ?_, ?_, ?_, ?_, ?_, ?_, ?_, ?_, ?_, fun _ => rfl, ?_, ?_⟩ <;> (intro e; first | (rw [this _ (by decide)] at e; cases e))
  · rw [hsz]; decide

end Go.Proofs.YtabeelcidlhniaaGreat
