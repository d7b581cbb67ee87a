/-
  Punycode: what bounds the variables of Encode. No program in sight.
-/
import Derived.Test.YtcmeajaakdaeeaaDoorRun3
namespace Go.Proofs.YtcmeajaakdaeeaaDoor.Puny

theorem encPt_lt {n : Int} {basic : Nat} {s : E} {p : Int} (h : p < n) : encPt n basic s p = { s with delta := s.delta + 1 } := if_pos h
theorem encPt_eq {n : Int} {basic : Nat} {s : E} {p : Int} (h : ¬ p < n) (h2 : p = n) : encPt n basic s p = ⟨s.out ++ numE s.delta s.bias, 0, adapt s.delta (s.done + 1) (s.done == basic), s.done + 1⟩ := by unfold encPt; rw [if_neg h, if_pos h2]
theorem encPt_gt {n : Int} {basic : Nat} {s : E} {p : Int} (h : ¬ p < n) (h2 : ¬ p = n) : encPt n basic s p = s := by unfold encPt; rw [if_neg h, if_neg h2]

theorem fold_done (m : Int) (basic : Nat) (l : List Int) : ∀ e : E, (l.foldl (encPt m basic) e).done = e.done + (l.filter fun p => decide (p = m)).length := by
  induction l with
  | nil => intro e; rfl
  | cons p l ih =>
    intro e
    rw [List.foldl_cons, ih]
    by_cases h : p < m
    · rw [encPt_lt h, List.filter_cons_of_neg (by simp; omega)]
    · by_cases h2 : p = m
      · rw [encPt_eq h h2, List.filter_cons_of_pos (by simp [h2]), List.length_cons]; simp only; omega
      · rw [encPt_gt h h2, List.filter_cons_of_neg (by simp [h2])]
theorem fold_delta (m : Int) (basic : Nat) (l : List Int) : ∀ e : E, 0 ≤ e.delta → 0 ≤ (l.foldl (encPt m basic) e).delta ∧ (l.foldl (encPt m basic) e).delta ≤ e.delta + l.length ∧ (m ∈ l → (l.foldl (encPt m basic) e).delta ≤ l.length) := by
  induction l with
  | nil => intro e h; exact ⟨h, by simp, fun hm => by cases hm⟩
  | cons p l ih =>
    intro e h
    rw [List.foldl_cons]
    by_cases h1 : p < m
    · rw [encPt_lt h1]
      obtain ⟨a1, a2, a3⟩ := ih { e with delta := e.delta + 1 } (by simp only; omega)
      simp only at a2
      refine ⟨a1, by rw [List.length_cons]; omega, fun hm => ?_⟩
      rcases List.mem_cons.1 hm with rfl | hm
      · omega
      · have := a3 hm; rw [List.length_cons]; omega
    · by_cases h2 : p = m
      · rw [encPt_eq h1 h2]
        obtain ⟨a1, a2, a3⟩ := ih ⟨e.out ++ numE e.delta e.bias, 0, adapt e.delta (e.done + 1) (e.done == basic), e.done + 1⟩ (Int.le_refl _)
        simp only at a2
        exact ⟨a1, by rw [List.length_cons]; omega, fun _ => by rw [List.length_cons]; omega⟩
      · rw [encPt_gt h1 h2]
        obtain ⟨a1, a2, a3⟩ := ih e h
        refine ⟨a1, by rw [List.length_cons]; omega, fun hm => ?_⟩
        rcases List.mem_cons.1 hm with e1 | hm
        · exact absurd e1.symm h2
        · have := a3 hm; rw [List.length_cons]; omega
theorem fold_rest (m : Int) (basic : Nat) (l : List Int) : ∀ e : E, 0 ≤ e.delta → e.delta + l.length ≤ 400000000 → 0 ≤ e.bias → e.bias ≤ 1000 → 
    0 ≤ (l.foldl (encPt m basic) e).bias ∧ (l.foldl (encPt m basic) e).bias ≤ 1000 ∧ (l.foldl (encPt m basic) e).out.length + 10 * e.done ≤ e.out.length + 10 * (l.foldl (encPt m basic) e).done := by
  induction l with
  | nil => intro e h0 h1 h2 h3; exact ⟨h2, h3, Nat.le_refl _⟩
  | cons p l ih =>
    intro e h0 h1 h2 h3
    rw [List.length_cons] at h1
    rw [List.foldl_cons]
    by_cases g1 : p < m
    · rw [encPt_lt g1]
      exact ih { e with delta := e.delta + 1 } (by simp only; omega) (by simp only; omega) h2 h3
    · by_cases g2 : p = m
      · rw [encPt_eq g1 g2]
        obtain ⟨b0, b1⟩ := adapt_bd e.delta (e.done + 1) (e.done == basic) h0 (by omega) (by omega)
        obtain ⟨a1, a2, a3⟩ := ih ⟨e.out ++ numE e.delta e.bias, 0, adapt e.delta (e.done + 1) (e.done == basic), e.done + 1⟩ (Int.le_refl _) (by simp only; omega) b0 b1
        simp only [List.length_append] at a3
        have hdl : (numE e.delta e.bias).length ≤ 10 := digs_length 9 (e.delta.toNat + 1) e.delta 0 e.bias h0 (Int.lt_of_le_of_lt (show e.delta ≤ 400000000 by omega) (by decide))
        exact ⟨a1, a2, by omega⟩
      · rw [encPt_gt g1 g2]
        exact ih e h0 (by omega) h2 h3

theorem below_succ (n m : Int) (hnm : n ≤ m) (l : List Int) (h : ∀ p ∈ l, n ≤ p → m ≤ p) : (below (m + 1) l).length = (below n l).length + (l.filter fun p => decide (p = m)).length := by
  induction l with
  | nil => rfl
  | cons p l ih =>
    have hp := h p (List.mem_cons_self ..)
    have := ih fun q hq => h q (List.mem_cons_of_mem _ hq)
    unfold below at this ⊢
    by_cases h1 : p < n
    · rw [List.filter_cons_of_pos (by simp; omega), List.filter_cons_of_pos (by simp; omega), List.filter_cons_of_neg (by simp; omega), List.length_cons, List.length_cons]; omega
    · have h2 := hp (by omega)
      by_cases h3 : p = m
      · rw [List.filter_cons_of_pos (by simp; omega), List.filter_cons_of_neg (by simp; omega), List.filter_cons_of_pos (by simp; omega), List.length_cons, List.length_cons]; omega
      · rw [List.filter_cons_of_neg (by simp; omega), List.filter_cons_of_neg (by simp; omega), List.filter_cons_of_neg (by simp; omega)]; exact this

/-- What bounds the variables at the head of the outer loop. -/
structure HeadOk (ps : List Int) (n : Int) (e : E) : Prop where
  done : e.done = (below n ps).length
  n1 : 128 ≤ n
  n2 : n ≤ 1114112
  d0 : 0 ≤ e.delta
  d1 : e.delta ≤ 300
  b0 : 0 ≤ e.bias
  b1 : e.bias ≤ 1000
  o : e.out.length ≤ 300 + 10 * e.done

/-- The state at the beginning of the inner loop. -/
def mid0 (n m : Int) (e : E) : E := { e with delta := e.delta + (m - n) * (e.done + 1) }
/-- The state behind k points of the inner loop. -/
def midK (ps : List Int) (n m : Int) (basic : Nat) (e : E) (k : Nat) : E := (ps.take k).foldl (encPt m basic) (mid0 n m e)
/-- The state at the end of a round. -/
def next (ps : List Int) (n m : Int) (basic : Nat) (e : E) : E := { midK ps n m basic e ps.length with delta := (midK ps n m basic e ps.length).delta + 1 }

theorem midK_succ (ps : List Int) (n m : Int) (basic : Nat) (e : E) (k : Nat) (hk : k < ps.length) : midK ps n m basic e (k + 1) = encPt m basic (midK ps n m basic e k) ps[k] := by
  unfold midK
  rw [List.take_succ_eq_append_getElem hk, List.foldl_append]; rfl
theorem encGo_next (ps : List Int) (n : Int) (basic : Nat) (e : E) (f : Nat) (h : e.done < ps.length) : encGo ps basic (f + 1) n e = encGo ps basic f (least n 1114112 ps + 1) (next ps n (least n 1114112 ps) basic e) := by
  rw [encGo, if_pos h]
  unfold next midK
  rw [List.take_length]; rfl
theorem encGo_end (ps : List Int) (n : Int) (basic : Nat) (e : E) (f : Nat) (h : ¬ e.done < ps.length) : encGo ps basic f n e = e.out := by
  cases f with
  | zero => rfl
  | succ f => rw [encGo, if_neg h]

/-- What bounds the variables within a round. -/
structure MidOk (e' : E) : Prop where
  d0 : 0 ≤ e'.delta
  d1 : e'.delta ≤ 400000000
  b0 : 0 ≤ e'.bias
  b1 : e'.bias ≤ 1000
  o : e'.out.length ≤ 300 + 10 * e'.done
  k : e'.done ≤ 600

theorem headOk_round (ps : List Int) (hps : ∀ p ∈ ps, point p = true) (hl : ps.length ≤ 256) (basic : Nat) (n : Int) (e : E) (h : HeadOk ps n e) (hlt : e.done < ps.length) :
    let m := least n 1114112 ps
    n ≤ m ∧ m ≤ 1114111 ∧ 0 ≤ (m - n) * (e.done + 1) ∧ (m - n) * (e.done + 1) ≤ 300000000 ∧ (∀ k, k ≤ ps.length → MidOk (midK ps n m basic e k)) ∧ HeadOk ps (m + 1) (next ps n m basic e) ∧ e.done < (next ps n m basic e).done := by
  intro m
  obtain ⟨l1, l2, l3⟩ := least_spec n 1114112 ps (below_some n ps (by rw [← h.done]; exact hlt)) (fun p hp => by have := (point_iff p).1 (hps p hp); omega)
  have hm := (point_iff m).1 (hps m l1)
  have hn1 := h.n1
  have hp0 : 0 ≤ (m - n) * ((e.done : Int) + 1) := Int.mul_nonneg (by omega) (by omega)
  have hp1 : (m - n) * ((e.done : Int) + 1) ≤ 1114111 * 257 := Int.mul_le_mul (by omega) (by omega) (by omega) (by omega)
  have hd0 := h.d0
  have hd1 := h.d1
  have hcount : ∀ k, ((ps.take k).filter fun p => decide (p = m)).length ≤ 256 := fun k => Nat.le_trans (List.length_filter_le _ _) (by rw [List.length_take]; omega)
  have hmid : ∀ k, k ≤ ps.length → MidOk (midK ps n m basic e k) := by
    intro k hk
    have a := fold_delta m basic (ps.take k) (mid0 n m e) (by unfold mid0; simp only; omega)
    have b := fold_rest m basic (ps.take k) (mid0 n m e) (by unfold mid0; simp only; omega) (by unfold mid0; simp only [List.length_take]; omega) (by unfold mid0; exact h.b0) (by unfold mid0; exact h.b1)
    have c := fold_done m basic (ps.take k) (mid0 n m e)
    have := hcount k
    have ho := h.o
    unfold midK
    generalize (ps.take k).foldl (encPt m basic) (mid0 n m e) = e' at *
    unfold mid0 at a b c
    simp only [List.length_take] at a b c
    exact ⟨a.1, by omega, b.1, b.2.1, by omega, by omega⟩
  have hlast := hmid ps.length (Nat.le_refl _)
  have c := fold_done m basic ps (mid0 n m e)
  have a := fold_delta m basic ps (mid0 n m e) (by unfold mid0; simp only; omega)
  have hb := below_succ n m l2 ps l3
  have hme : midK ps n m basic e ps.length = ps.foldl (encPt m basic) (mid0 n m e) := by unfold midK; rw [List.take_length]
  have hpos : 0 < (ps.filter fun p => decide (p = m)).length := List.length_pos_iff.2 (List.ne_nil_of_mem (List.mem_filter.2 ⟨l1, decide_eq_true rfl⟩))
  refine ⟨l2, hm.2.1, hp0, by omega, hmid, ?_, ?_⟩
  · have hn := a.2.2 l1
    unfold next
    rw [← hme] at c hn
    have hm0 : (mid0 n m e).done = e.done := rfl
    have hd := h.done
    exact ⟨by simp only; omega, by omega, by omega, by simp only; have := hlast.d0; omega, by simp only; omega, hlast.b0, hlast.b1, hlast.o⟩
  · unfold next
    rw [← hme] at c
    have hm0 : (mid0 n m e).done = e.done := rfl
    simp only; omega

theorem headOk_start (ps : List Int) (hps : ∀ p ∈ ps, point p = true) : HeadOk ps 128 ⟨front ps, 0, 72, (basics ps).length⟩ := by
  have hb : (basics ps).length = (below 128 ps).length := by rw [← basics_below ps hps, List.length_map]
  refine ⟨hb, by omega, by omega, by simp, by simp, by simp, by simp, ?_⟩
  unfold front
  simp only [List.length_append]
  split <;> simp <;> omega

theorem least_snoc (n M : Int) (l : List Int) (p : Int) : least n M (l ++ [p]) = if n ≤ p then min (least n M l) p else least n M l := by
  unfold least
  rw [List.foldl_append]; rfl
theorem basics_snoc (l : List Int) (p : Int) : basics (l ++ [p]) = if p < 128 then basics l ++ [UInt8.ofNat p.toNat] else basics l := by
  unfold basics
  rw [List.filter_append]
  by_cases h : p < 128
  · rw [if_pos h, List.filter_cons_of_pos (by simp [h])]; simp
  · rw [if_neg h, List.filter_cons_of_neg (by simp [h])]; simp
theorem basics_le (l : List Int) : (basics l).length ≤ l.length := by unfold basics; rw [List.length_map]; exact List.length_filter_le _ _

/-- The reference begins its search for the least from a greater number. -/
theorem least_big (ps : List Int) (hps : ∀ p ∈ ps, point p = true) (n : Int) (h : (below n ps).length < ps.length) : least n 1073741824 ps = least n 1114112 ps :=
  least_any n _ _ ps (below_some n ps h) (fun p hp => by have := (point_iff p).1 (hps p hp); omega) (fun p hp => by have := (point_iff p).1 (hps p hp); omega)

end Go.Proofs.YtcmeajaakdaeeaaDoor.Puny
