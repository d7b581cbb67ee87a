/-
  Slices of ints: what they read as; slices that the call itself made; append; the statements' comparison.
-/
import Derived.Test.YtcmeajaakdaeeaaDoorRun0
import Derived.Deep.QuietTactic
import Derived.BigQuiet
import Derived.Deep.DeepMust
namespace Go.Proofs.YtcmeajaakdaeeaaDoor
open Go.RowKit

/-- The cell of an int. -/
def iv (z : Int) : Value := .int .i64 z

/-- The slice reads as the ints l. -/
def SlI (w : World) (a : Option Addr) (n c : Nat) (l : List Int) : Prop :=
  l.length = n ∧ n ≤ c ∧ c ≤ maxLen ∧ (a = none → l = [] ∧ c = 0) ∧
    ∀ x, a = some x → ∀ i (h : i < l.length), x.spot = none ∧ x.block < w.heap.size ∧ w.cell? ⟨x.block, x.off + i, none⟩ = some (.int .i64 l[i])

theorem SlI.len {w : World} {a : Option Addr} {n c : Nat} {l : List Int} (h : SlI w a n c l) : l.length = n := h.1
theorem SlI.le {w : World} {a : Option Addr} {n c : Nat} {l : List Int} (h : SlI w a n c l) : n ≤ 9223372036854775807 := by
  have := h.2.1; have := h.2.2.1; unfold maxLen at *; omega
theorem SlI.nil (w : World) : SlI w none 0 0 [] := ⟨rfl, Nat.le_refl _, by unfold maxLen; omega, fun _ => ⟨rfl, rfl⟩, fun x hx => by cases hx⟩

theorem SlI.at {w : World} {a : Option Addr} {n c : Nat} {l : List Int} (h : SlI w a n c l) {k : Nat} (hk : k < n) :
    ∃ b o, a = some ⟨b, o, none⟩ ∧ b < w.heap.size ∧ k < l.length ∧ w.cell? ⟨b, o + k, none⟩ = some (.int .i64 (l[k]?.getD 0)) := by
  obtain ⟨hl, hn, hc, h0, h1⟩ := h
  cases a with
  | none => have := (h0 rfl).1; subst this; simp at hl; omega
  | some x =>
    obtain ⟨b, o, sp⟩ := x
    have hk' : k < l.length := by omega
    obtain ⟨hs, hb, hi⟩ := h1 _ rfl k hk'
    simp only at hs; subst hs
    refine ⟨b, o, rfl, hb, hk', ?_⟩
    rw [List.getElem?_eq_getElem hk']
    exact hi

theorem SlI.ext {w w' : World} {a : Option Addr} {n c : Nat} {l : List Int} (h : SlI w a n c l) (e : Below w.heap.size w w') : SlI w' a n c l := by
  obtain ⟨hl, hn, hc, h0, h1⟩ := h
  refine ⟨hl, hn, hc, h0, fun x hx i hi => ?_⟩
  obtain ⟨hs, hb, hi⟩ := h1 x hx i hi
  exact ⟨hs, Nat.lt_of_lt_of_le hb e.size, (e.cell (p := ⟨x.block, x.off + i, none⟩) hb).trans hi⟩
theorem SlI.take {w : World} {a : Option Addr} {n c : Nat} {l : List Int} (h : SlI w a n c l) {k : Nat} (hk : k ≤ n) : SlI w a k c (l.take k) := by
  obtain ⟨hl, hn, hc, h0, h1⟩ := h
  refine ⟨by simp; omega, by omega, hc, fun e => by simp [h0 e], fun x hx i hi => ?_⟩
  have hi' : i < l.length := by simp at hi; omega
  obtain ⟨hs, hb, hcl⟩ := h1 x hx i hi'
  exact ⟨hs, hb, by rw [hcl]; simp⟩
theorem SlI.drop {w : World} {b o n c : Nat} {l : List Int} (h : SlI w (some ⟨b, o, none⟩) n c l) {k : Nat} (hk : k ≤ n) : SlI w (some ⟨b, o + k, none⟩) (n - k) (c - k) (l.drop k) := by
  obtain ⟨hl, hn, hc, h0, h1⟩ := h
  refine ⟨by simp; omega, by omega, by omega, (fun e => by cases e), fun x hx i hi => ?_⟩
  cases hx
  have hi' : k + i < l.length := by simp at hi; omega
  obtain ⟨hs, hb, hcl⟩ := h1 _ rfl (k + i) hi'
  refine ⟨rfl, hb, ?_⟩
  simp only [Nat.add_assoc] at hcl ⊢
  rw [hcl]; simp
theorem SlI.zero (w : World) (x : Addr) (c : Nat) (hc : c ≤ maxLen) : SlI w (some x) 0 c [] := ⟨rfl, Nat.zero_le _, hc, (fun h => by cases h), fun y _ i hi => by simp at hi⟩

/-- The slice value v is the call's own, in a block from base on, and holds the ints l. -/
def OwnI (base : Nat) (w : World) (v : Value) (l : List Int) : Prop := w.ownsRow base 3 1 v l.length (l.map iv)

theorem OwnI.sl {base : Nat} {w : World} {v : Value} {l : List Int} (h : OwnI base w v l) : ∃ a c, v = .slice a l.length c ∧ SlI w a l.length c l := by
  rcases id h.2 with ⟨hv, hn⟩ | ⟨g, cap, cur, hv, hg, hc, hnc, hcm, hcs, htake⟩
  · have hl : l = [] := List.eq_nil_of_length_eq_zero hn
    subst hl
    exact ⟨none, 0, hv, SlI.nil w⟩
  · refine ⟨some ⟨g, 0, none⟩, cap, hv, ⟨rfl, hnc, hcm, (fun h => by cases h), fun x hx i hi => ?_⟩⟩
    cases hx
    refine ⟨rfl, (Array.getElem?_eq_some_iff.1 hc).1, ?_⟩
    have := World.ownsRow.cellAt (g := g) (cap := cap) (by rw [← hv]; exact h) i (by simpa using hi)
    simp only [Nat.zero_add]
    rw [this]; simp [iv, hi]
theorem OwnI.lt {base : Nat} {w : World} {v : Value} {l : List Int} (h : OwnI base w v l) : ∀ k, v.ownBlock = some k → base ≤ k ∧ k < w.heap.size := World.ownsRow.lt h
theorem OwnI.ext {base : Nat} {w w' : World} {v : Value} {l : List Int} (h : OwnI base w v l) (e : Below w.heap.size w w') : OwnI base w' v l := by
  refine ⟨h.1, ?_⟩
  rcases h.2 with hn | ⟨g, cap, cur, rfl, hb, hgg, rest⟩
  · exact .inl hn
  · exact .inr ⟨g, cap, cur, rfl, hb, (e.block g (Array.getElem?_eq_some_iff.1 hgg).1).trans hgg, rest⟩
theorem OwnI.mono {b b' : Nat} {w : World} {v : Value} {l : List Int} (h : OwnI b w v l) (hb : b' ≤ b) : OwnI b' w v l := by
  refine ⟨h.1, ?_⟩
  rcases h.2 with hn | ⟨g, cap, cur, rfl, hbg, rest⟩
  · exact .inl hn
  · exact .inr ⟨g, cap, cur, rfl, Nat.le_trans hb hbg, rest⟩
theorem OwnI.alloc {base : Nat} {w : World} {v : Value} {l : List Int} (h : OwnI base w v l) (o : Obj) : OwnI base (w.alloc o) v l := World.ownsRow.alloc h o
theorem OwnI.nil (base : Nat) (w : World) : OwnI base w (.slice none 0 0) [] := World.ownsRow_nil w base _ _
theorem OwnI.empty {base : Nat} (w : World) (hb : base ≤ w.heap.size) : OwnI base (w.alloc (.cells #[] 3)) (.slice (some ⟨w.heap.size, 0, none⟩) 0 0) [] :=
  World.ownsRow_made w #[] 0 hb (by unfold maxLen; omega) rfl
theorem OwnI.kept {base : Nat} {w w' : World} {v : Value} {l : List Int} {row : Option Nat} (h : OwnI base w v l) (hg : w.grownBy w' row) (hne : ∀ k, v.ownBlock = some k → row ≠ some k) : OwnI base w' v l :=
  World.ownsRow.kept h hg (by
    cases hv : v.ownBlock with
    | none => exact .inl rfl
    | some k => exact .inr (fun e => hne k hv e.symm))

theorem infoInt : (Tryd.prog.info? 3).map (fun i => (i.zero, i.size, i.bytes)) = some (some (.int .i64 0), 1, 8) := by kernel_rfl

theorem SlI.one (w : World) (z : Int) (t : TypeId) : SlI (w.alloc (.cells #[.int .i64 z] t)) (some ⟨w.heap.size, 0, none⟩) 1 1 [z] := by
  refine ⟨rfl, Nat.le_refl _, by unfold maxLen; omega, (fun h => by cases h), fun x hx i hi => ?_⟩
  cases hx
  refine ⟨rfl, by simp, ?_⟩
  obtain rfl : i = 0 := by simpa using hi
  rw [World.cell?_alloc_at _ _ _ _ rfl]; rfl
theorem SlI.built (w : World) (A : Array Value) (l : List Int) (n k : Nat) (t : TypeId) (fr : Nat × Nat) (hA : A = (l.map iv).toArray) (hn : l.length = n) (hm : n ≤ maxLen) (hk : k = w.heap.size) :
    SlI (w.alloc (.cells A t fr)) (some ⟨k, 0, none⟩) n n l := by
  subst hA; subst hk
  refine ⟨hn, Nat.le_refl _, hm, (fun h => by cases h), fun x hx i hi => ?_⟩
  cases hx
  refine ⟨rfl, by simp, ?_⟩
  rw [cell_of_row _ _ _ _ _ _ (heap_alloc_eq w _ _ rfl)]; simp [iv, hi]

/-- append of a slice of ints, whatever it is, onto a slice that is nil or the call's own. -/
theorem wpList_append_ints {w : World} {ops : Array Oper} {rest : List Oper} {o : Oper} {a : Act} {Q : Exit → Act → World → Prop} (hgd : o.guard = none) (s x : Operand)
    (ho : o.op = .call { callee := .builtin .append, args := #[s, x], argTypes := #[92, 92] })
    (base : Nat) (v : Value) (l : List Int) (hs : a.eval s = v) (hown : OwnI base w v l) (b : Option Addr) (m c : Nat) (l2 : List Int) (hx : a.eval x = .slice b m c) (hsl : SlI w b m c l2)
    (hlen : l.length + m ≤ 10000000000000) (hbase : base ≤ w.heap.size)
    (h : ∀ v' w', OwnI base w' v' (l ++ l2) → w.grownBy w' v.ownBlock → wpList Tryd.prog ops Q rest (a.put o.dst v') w') : wpList Tryd.prog ops Q (o :: rest) a w := by
  obtain ⟨i0, hi, hz0, hz1, hz2⟩ := info_parts infoInt
  cases b with
  | none =>
    obtain ⟨rfl, rfl⟩ := hsl.2.2.2.1 rfl
    obtain rfl : m = 0 := hsl.1.symm
    refine wpList_append_own_none hgd s x 92 ho base 3 i0 1 Tryd.underlying92 hi v l.length _ hs hown hx ?_
    exact h v w (by simpa using hown) ⟨rfl, rfl, rfl, Nat.le_refl _, fun _ _ _ => rfl⟩
  | some ad =>
    have hl2 := hsl.len
    refine wpList_append_own w hgd s x 92 ho base 3 i0 (.int .i64 0) 1 8 Tryd.underlying92 hi hz0 hz1 hz2 rfl (by decide) v l.length _ hs hown ad m c (l2.map iv) hx (by simp [hl2]) ?_ ?_ (by unfold maxLen; omega) (by omega) hbase ?_
    · intro j u hj
      have hjl : j < l2.length := by
        have := (List.getElem?_eq_some_iff.1 hj).1; simpa using this
      obtain ⟨hsp, hb, this⟩ := hsl.2.2.2.2 ad rfl j hjl
      have hadd : ad.add j = ⟨ad.block, ad.off + j, none⟩ := by
        obtain ⟨b, o, sp⟩ := ad; simp only at hsp; subst hsp; unfold Addr.add; split <;> simp_all
      rw [hadd, this]; rw [← hj]; simp [iv, hjl]
    · intro u hu
      obtain ⟨b, _, rfl⟩ := List.mem_map.1 hu; rfl
    · intro v' w' h1 h2 _
      refine h v' w' ?_ h2
      unfold OwnI; rw [List.length_append, List.map_append, hl2]; exact h1

/-- What the form hands over of a slice of ints. -/
theorem SlI.of_row {w : World} {x : Addr} {n c : Nat} {zs : List Int} (hl : n ≤ c) (hm : c ≤ maxLen) (hz : zs.length = c) (hcell : ∀ i, i < zs.length → w.cell? (x.add i) = some (.int .i64 (zs.getD i 0))) :
    SlI w (some x) n c (zs.take n) := by
  refine ⟨by simp; omega, hl, hm, (fun h => by cases h), fun y hy i hi => ?_⟩
  cases hy
  simp at hi
  have hc := hcell i (by omega)
  obtain ⟨b, o, sp⟩ := x
  have hsp : sp = none := by
    have := World.cell?_spot (hcell 0 (by omega))
    simpa [Addr.add] using this
  subst hsp
  have hadd : (⟨b, o, none⟩ : Addr).add i = ⟨b, o + i, none⟩ := by unfold Addr.add; split <;> simp_all
  rw [hadd] at hc
  refine ⟨rfl, World.block_lt_of_cell? w ⟨b, o + i, none⟩ hc, ?_⟩
  rw [hc]
  simp [show i < zs.length by omega]

theorem below_drewN' (B : Nat) (w : World) (n : Nat) : Below B w (w.drewN n) := (Below.refl B w).trans ⟨rfl, rfl, rfl, Nat.le_refl _, fun _ _ => rfl⟩

end Go.Proofs.YtcmeajaakdaeeaaDoor
