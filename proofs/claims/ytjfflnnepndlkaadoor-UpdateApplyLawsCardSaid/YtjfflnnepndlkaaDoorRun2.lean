/-
  Texts in one: Strs, Ints, Puny, Upd.
-/
import Derived.Test.YtjfflnnepndlkaaDoorRun1
import Derived.Deep.QuietTactic
import Derived.BigQuiet
import Derived.Deep.DeepMust
import Derived.Test.YtjfflnnepndlkaaDoorRun0
/-
  Slices of strings: what they read as; slices that the call itself made; append.
-/
namespace Go.Proofs.YtjfflnnepndlkaaDoor
open Go.RowKit

/-- The cell of a string. -/
def tv (z : List UInt8) : Value := .string (str z)

/-- The slice reads as the strings l. -/
def SlT (w : World) (a : Option Addr) (n c : Nat) (l : List (List UInt8)) : Prop :=
  l.length = n ∧ n ≤ c ∧ c ≤ maxLen ∧ (a = none → l = [] ∧ c = 0) ∧
    ∀ x, a = some x → ∀ i (h : i < l.length), x.spot = none ∧ x.block < w.heap.size ∧ w.cell? ⟨x.block, x.off + i, none⟩ = some (tv l[i])

theorem SlT.len {w : World} {a : Option Addr} {n c : Nat} {l : List (List UInt8)} (h : SlT w a n c l) : l.length = n := h.1
theorem SlT.le {w : World} {a : Option Addr} {n c : Nat} {l : List (List UInt8)} (h : SlT w a n c l) : n ≤ 9223372036854775807 := by
  have := h.2.1; have := h.2.2.1; unfold maxLen at *; omega
theorem SlT.nil (w : World) : SlT w none 0 0 [] := ⟨rfl, Nat.le_refl _, by unfold maxLen; omega, fun _ => ⟨rfl, rfl⟩, fun x hx => by cases hx⟩

theorem SlT.at {w : World} {a : Option Addr} {n c : Nat} {l : List (List UInt8)} (h : SlT w a n c l) {k : Nat} (hk : k < n) :
    ∃ b o, a = some ⟨b, o, none⟩ ∧ b < w.heap.size ∧ k < l.length ∧ w.cell? ⟨b, o + k, none⟩ = some (tv (l[k]?.getD [])) := by
  obtain ⟨hl, hn, hc, h0, h1⟩ := h
  cases a with
  | none => have := (h0 rfl).1; subst this; simp at hl; omega
  | some x =>
    obtain ⟨b, o, sp⟩ := x
    have hk' : k < l.length := by omega
    obtain ⟨hs, hb, hi⟩ := h1 _ rfl k hk'
    simp only at hs; subst hs
    refine ⟨b, o, rfl, hb, hk', ?_⟩
    rw [List.getElem?_eq_getElem hk']
    exact hi

theorem SlT.ext {w w' : World} {a : Option Addr} {n c : Nat} {l : List (List UInt8)} (h : SlT w a n c l) (e : Below w.heap.size w w') : SlT w' a n c l := by
  obtain ⟨hl, hn, hc, h0, h1⟩ := h
  refine ⟨hl, hn, hc, h0, fun x hx i hi => ?_⟩
  obtain ⟨hs, hb, hi⟩ := h1 x hx i hi
  exact ⟨hs, Nat.lt_of_lt_of_le hb e.size, (e.cell (p := ⟨x.block, x.off + i, none⟩) hb).trans hi⟩
theorem SlT.take {w : World} {a : Option Addr} {n c : Nat} {l : List (List UInt8)} (h : SlT w a n c l) {k : Nat} (hk : k ≤ n) : SlT w a k c (l.take k) := by
  obtain ⟨hl, hn, hc, h0, h1⟩ := h
  refine ⟨by simp; omega, by omega, hc, fun e => by simp [h0 e], fun x hx i hi => ?_⟩
  have hi' : i < l.length := by simp at hi; omega
  obtain ⟨hs, hb, hcl⟩ := h1 x hx i hi'
  exact ⟨hs, hb, by rw [hcl]; simp⟩
theorem SlT.drop {w : World} {b o n c : Nat} {l : List (List UInt8)} (h : SlT w (some ⟨b, o, none⟩) n c l) {k : Nat} (hk : k ≤ n) : SlT w (some ⟨b, o + k, none⟩) (n - k) (c - k) (l.drop k) := by
  obtain ⟨hl, hn, hc, h0, h1⟩ := h
  refine ⟨by simp; omega, by omega, by omega, (fun e => by cases e), fun x hx i hi => ?_⟩
  cases hx
  have hi' : k + i < l.length := by simp at hi; omega
  obtain ⟨hs, hb, hcl⟩ := h1 _ rfl (k + i) hi'
  refine ⟨rfl, hb, ?_⟩
  simp only [Nat.add_assoc] at hcl ⊢
  rw [hcl]; simp
theorem SlT.zero (w : World) (x : Addr) (c : Nat) (hc : c ≤ maxLen) : SlT w (some x) 0 c [] := ⟨rfl, Nat.zero_le _, hc, (fun h => by cases h), fun y _ i hi => by simp at hi⟩

/-- The slice value v is the call's own, in a block from base on, and holds the strings l. -/
def OwnT (base : Nat) (w : World) (v : Value) (l : List (List UInt8)) : Prop := w.ownsRow base 9 1 v l.length (l.map tv)

theorem OwnT.sl {base : Nat} {w : World} {v : Value} {l : List (List UInt8)} (h : OwnT base w v l) : ∃ a c, v = .slice a l.length c ∧ SlT w a l.length c l := by
  rcases id h.2 with ⟨hv, hn⟩ | ⟨g, cap, cur, hv, hg, hc, hnc, hcm, hcs, htake⟩
  · have hl : l = [] := List.eq_nil_of_length_eq_zero hn
    subst hl
    exact ⟨none, 0, hv, SlT.nil w⟩
  · refine ⟨some ⟨g, 0, none⟩, cap, hv, ⟨rfl, hnc, hcm, (fun h => by cases h), fun x hx i hi => ?_⟩⟩
    cases hx
    refine ⟨rfl, (Array.getElem?_eq_some_iff.1 hc).1, ?_⟩
    have := World.ownsRow.cellAt (g := g) (cap := cap) (by rw [← hv]; exact h) i (by simpa using hi)
    simp only [Nat.zero_add]
    rw [this]; simp [hi]
theorem OwnT.lt {base : Nat} {w : World} {v : Value} {l : List (List UInt8)} (h : OwnT base w v l) : ∀ k, v.ownBlock = some k → base ≤ k ∧ k < w.heap.size := World.ownsRow.lt h
theorem OwnT.ext {base : Nat} {w w' : World} {v : Value} {l : List (List UInt8)} (h : OwnT base w v l) (e : Below w.heap.size w w') : OwnT base w' v l := by
  refine ⟨h.1, ?_⟩
  rcases h.2 with hn | ⟨g, cap, cur, rfl, hb, hgg, rest⟩
  · exact .inl hn
  · exact .inr ⟨g, cap, cur, rfl, hb, (e.block g (Array.getElem?_eq_some_iff.1 hgg).1).trans hgg, rest⟩
theorem OwnT.mono {b b' : Nat} {w : World} {v : Value} {l : List (List UInt8)} (h : OwnT b w v l) (hb : b' ≤ b) : OwnT b' w v l := by
  refine ⟨h.1, ?_⟩
  rcases h.2 with hn | ⟨g, cap, cur, rfl, hbg, rest⟩
  · exact .inl hn
  · exact .inr ⟨g, cap, cur, rfl, Nat.le_trans hb hbg, rest⟩
theorem OwnT.alloc {base : Nat} {w : World} {v : Value} {l : List (List UInt8)} (h : OwnT base w v l) (o : Obj) : OwnT base (w.alloc o) v l := World.ownsRow.alloc h o
theorem OwnT.nil (base : Nat) (w : World) : OwnT base w (.slice none 0 0) [] := World.ownsRow_nil w base _ _
theorem OwnT.empty {base : Nat} (w : World) (hb : base ≤ w.heap.size) : OwnT base (w.alloc (.cells #[] 9)) (.slice (some ⟨w.heap.size, 0, none⟩) 0 0) [] :=
  World.ownsRow_made w #[] 0 hb (by unfold maxLen; omega) rfl
theorem OwnT.kept {base : Nat} {w w' : World} {v : Value} {l : List (List UInt8)} {row : Option Nat} (h : OwnT base w v l) (hg : w.grownBy w' row) (hne : ∀ k, v.ownBlock = some k → row ≠ some k) : OwnT base w' v l :=
  World.ownsRow.kept h hg (by
    cases hv : v.ownBlock with
    | none => exact .inl rfl
    | some k => exact .inr (fun e => hne k hv e.symm))

theorem infoStr : (Tryd.prog.info? 9).map (fun i => (i.zero, i.size, i.bytes)) = some (some (.string ⟨#[]⟩), 1, 16) := by kernel_rfl

theorem SlT.one (w : World) (z : List UInt8) (t : TypeId) : SlT (w.alloc (.cells #[tv z] t)) (some ⟨w.heap.size, 0, none⟩) 1 1 [z] := by
  refine ⟨rfl, Nat.le_refl _, by unfold maxLen; omega, (fun h => by cases h), fun x hx i hi => ?_⟩
  cases hx
  refine ⟨rfl, by simp, ?_⟩
  obtain rfl : i = 0 := by simpa using hi
  rw [World.cell?_alloc_at _ _ _ _ rfl]; rfl
theorem SlT.built (w : World) (A : Array Value) (l : List (List UInt8)) (n k : Nat) (t : TypeId) (fr : Nat × Nat) (hA : A = (l.map tv).toArray) (hn : l.length = n) (hm : n ≤ maxLen) (hk : k = w.heap.size) :
    SlT (w.alloc (.cells A t fr)) (some ⟨k, 0, none⟩) n n l := by
  subst hA; subst hk
  refine ⟨hn, Nat.le_refl _, hm, (fun h => by cases h), fun x hx i hi => ?_⟩
  cases hx
  refine ⟨rfl, by simp, ?_⟩
  rw [cell_of_row _ _ _ _ _ _ (heap_alloc_eq w _ _ rfl)]; simp [hi]

/-- append of a slice of strings, whatever it is, onto a slice that is nil or the call's own. -/
theorem wpList_append_texts {w : World} {ops : Array Oper} {rest : List Oper} {o : Oper} {a : Act} {Q : Exit → Act → World → Prop} (hgd : o.guard = none) (s x : Operand)
    (ho : o.op = .call { callee := .builtin .append, args := #[s, x], argTypes := #[54, 54] })
    (base : Nat) (v : Value) (l : List (List UInt8)) (hs : a.eval s = v) (hown : OwnT base w v l) (b : Option Addr) (m c : Nat) (l2 : List (List UInt8)) (hx : a.eval x = .slice b m c) (hsl : SlT w b m c l2)
    (hlen : l.length + m ≤ 1000000000000) (hbase : base ≤ w.heap.size)
    (h : ∀ v' w', OwnT base w' v' (l ++ l2) → w.grownBy w' v.ownBlock → wpList Tryd.prog ops Q rest (a.put o.dst v') w') : wpList Tryd.prog ops Q (o :: rest) a w := by
  obtain ⟨i0, hi, hz0, hz1, hz2⟩ := info_parts infoStr
  cases b with
  | none =>
    obtain ⟨rfl, rfl⟩ := hsl.2.2.2.1 rfl
    obtain rfl : m = 0 := hsl.1.symm
    refine wpList_append_own_none hgd s x 54 ho base 9 i0 1 Tryd.underlying54 hi v l.length _ hs hown hx ?_
    exact h v w (by simpa using hown) ⟨rfl, rfl, rfl, Nat.le_refl _, fun _ _ _ => rfl⟩
  | some ad =>
    have hl2 := hsl.len
    refine wpList_append_own w hgd s x 54 ho base 9 i0 (.string ⟨#[]⟩) 1 16 Tryd.underlying54 hi hz0 hz1 hz2 rfl (by decide) v l.length _ hs hown ad m c (l2.map tv) hx (by simp [hl2]) ?_ ?_ (by unfold maxLen; omega) (by omega) hbase ?_
    · intro j u hj
      have hjl : j < l2.length := by
        have := (List.getElem?_eq_some_iff.1 hj).1; simpa using this
      obtain ⟨hsp, hb, this⟩ := hsl.2.2.2.2 ad rfl j hjl
      have hadd : ad.add j = ⟨ad.block, ad.off + j, none⟩ := by
        obtain ⟨b, o, sp⟩ := ad; simp only at hsp; subst hsp; unfold Addr.add; split <;> simp_all
      rw [hadd, this]; rw [← hj]; simp [hjl]
    · intro u hu
      obtain ⟨b, _, rfl⟩ := List.mem_map.1 hu; rfl
    · intro v' w' h1 h2 _
      refine h v' w' ?_ h2
      unfold OwnT; rw [List.length_append, List.map_append, hl2]; exact h1

end Go.Proofs.YtjfflnnepndlkaaDoor

/-
  Slices of ints: what they read as; slices that the call itself made; append; the statements' comparison.
-/
namespace Go.Proofs.YtjfflnnepndlkaaDoor
open Go.RowKit

/-- The cell of an int. -/
def iv (z : Int) : Value := .int .i64 z

/-- The slice reads as the ints l. -/
def SlI (w : World) (a : Option Addr) (n c : Nat) (l : List Int) : Prop :=
  l.length = n ∧ n ≤ c ∧ c ≤ maxLen ∧ (a = none → l = [] ∧ c = 0) ∧
    ∀ x, a = some x → ∀ i (h : i < l.length), x.spot = none ∧ x.block < w.heap.size ∧ w.cell? ⟨x.block, x.off + i, none⟩ = some (.int .i64 l[i])

theorem SlI.len {w : World} {a : Option Addr} {n c : Nat} {l : List Int} (h : SlI w a n c l) : l.length = n := h.1
theorem SlI.le {w : World} {a : Option Addr} {n c : Nat} {l : List Int} (h : SlI w a n c l) : n ≤ 9223372036854775807 := by
  have := h.2.1; have := h.2.2.1; unfold maxLen at *; omega
theorem SlI.nil (w : World) : SlI w none 0 0 [] := ⟨rfl, Nat.le_refl _, by unfold maxLen; omega, fun _ => ⟨rfl, rfl⟩, fun x hx => by cases hx⟩

theorem SlI.at {w : World} {a : Option Addr} {n c : Nat} {l : List Int} (h : SlI w a n c l) {k : Nat} (hk : k < n) :
    ∃ b o, a = some ⟨b, o, none⟩ ∧ b < w.heap.size ∧ k < l.length ∧ w.cell? ⟨b, o + k, none⟩ = some (.int .i64 (l[k]?.getD 0)) := by
  obtain ⟨hl, hn, hc, h0, h1⟩ := h
  cases a with
  | none => have := (h0 rfl).1; subst this; simp at hl; omega
  | some x =>
    obtain ⟨b, o, sp⟩ := x
    have hk' : k < l.length := by omega
    obtain ⟨hs, hb, hi⟩ := h1 _ rfl k hk'
    simp only at hs; subst hs
    refine ⟨b, o, rfl, hb, hk', ?_⟩
    rw [List.getElem?_eq_getElem hk']
    exact hi

theorem SlI.ext {w w' : World} {a : Option Addr} {n c : Nat} {l : List Int} (h : SlI w a n c l) (e : Below w.heap.size w w') : SlI w' a n c l := by
  obtain ⟨hl, hn, hc, h0, h1⟩ := h
  refine ⟨hl, hn, hc, h0, fun x hx i hi => ?_⟩
  obtain ⟨hs, hb, hi⟩ := h1 x hx i hi
  exact ⟨hs, Nat.lt_of_lt_of_le hb e.size, (e.cell (p := ⟨x.block, x.off + i, none⟩) hb).trans hi⟩
theorem SlI.take {w : World} {a : Option Addr} {n c : Nat} {l : List Int} (h : SlI w a n c l) {k : Nat} (hk : k ≤ n) : SlI w a k c (l.take k) := by
  obtain ⟨hl, hn, hc, h0, h1⟩ := h
  refine ⟨by simp; omega, by omega, hc, fun e => by simp [h0 e], fun x hx i hi => ?_⟩
  have hi' : i < l.length := by simp at hi; omega
  obtain ⟨hs, hb, hcl⟩ := h1 x hx i hi'
  exact ⟨hs, hb, by rw [hcl]; simp⟩
theorem SlI.drop {w : World} {b o n c : Nat} {l : List Int} (h : SlI w (some ⟨b, o, none⟩) n c l) {k : Nat} (hk : k ≤ n) : SlI w (some ⟨b, o + k, none⟩) (n - k) (c - k) (l.drop k) := by
  obtain ⟨hl, hn, hc, h0, h1⟩ := h
  refine ⟨by simp; omega, by omega, by omega, (fun e => by cases e), fun x hx i hi => ?_⟩
  cases hx
  have hi' : k + i < l.length := by simp at hi; omega
  obtain ⟨hs, hb, hcl⟩ := h1 _ rfl (k + i) hi'
  refine ⟨rfl, hb, ?_⟩
  simp only [Nat.add_assoc] at hcl ⊢
  rw [hcl]; simp
theorem SlI.zero (w : World) (x : Addr) (c : Nat) (hc : c ≤ maxLen) : SlI w (some x) 0 c [] := ⟨rfl, Nat.zero_le _, hc, (fun h => by cases h), fun y _ i hi => by simp at hi⟩

/-- The slice value v is the call's own, in a block from base on, and holds the ints l. -/
def OwnI (base : Nat) (w : World) (v : Value) (l : List Int) : Prop := w.ownsRow base 3 1 v l.length (l.map iv)

theorem OwnI.sl {base : Nat} {w : World} {v : Value} {l : List Int} (h : OwnI base w v l) : ∃ a c, v = .slice a l.length c ∧ SlI w a l.length c l := by
  rcases id h.2 with ⟨hv, hn⟩ | ⟨g, cap, cur, hv, hg, hc, hnc, hcm, hcs, htake⟩
  · have hl : l = [] := List.eq_nil_of_length_eq_zero hn
    subst hl
    exact ⟨none, 0, hv, SlI.nil w⟩
  · refine ⟨some ⟨g, 0, none⟩, cap, hv, ⟨rfl, hnc, hcm, (fun h => by cases h), fun x hx i hi => ?_⟩⟩
    cases hx
    refine ⟨rfl, (Array.getElem?_eq_some_iff.1 hc).1, ?_⟩
    have := World.ownsRow.cellAt (g := g) (cap := cap) (by rw [← hv]; exact h) i (by simpa using hi)
    simp only [Nat.zero_add]
    rw [this]; simp [iv, hi]
theorem OwnI.lt {base : Nat} {w : World} {v : Value} {l : List Int} (h : OwnI base w v l) : ∀ k, v.ownBlock = some k → base ≤ k ∧ k < w.heap.size := World.ownsRow.lt h
theorem OwnI.ext {base : Nat} {w w' : World} {v : Value} {l : List Int} (h : OwnI base w v l) (e : Below w.heap.size w w') : OwnI base w' v l := by
  refine ⟨h.1, ?_⟩
  rcases h.2 with hn | ⟨g, cap, cur, rfl, hb, hgg, rest⟩
  · exact .inl hn
  · exact .inr ⟨g, cap, cur, rfl, hb, (e.block g (Array.getElem?_eq_some_iff.1 hgg).1).trans hgg, rest⟩
theorem OwnI.mono {b b' : Nat} {w : World} {v : Value} {l : List Int} (h : OwnI b w v l) (hb : b' ≤ b) : OwnI b' w v l := by
  refine ⟨h.1, ?_⟩
  rcases h.2 with hn | ⟨g, cap, cur, rfl, hbg, rest⟩
  · exact .inl hn
  · exact .inr ⟨g, cap, cur, rfl, Nat.le_trans hb hbg, rest⟩
theorem OwnI.alloc {base : Nat} {w : World} {v : Value} {l : List Int} (h : OwnI base w v l) (o : Obj) : OwnI base (w.alloc o) v l := World.ownsRow.alloc h o
theorem OwnI.nil (base : Nat) (w : World) : OwnI base w (.slice none 0 0) [] := World.ownsRow_nil w base _ _
theorem OwnI.empty {base : Nat} (w : World) (hb : base ≤ w.heap.size) : OwnI base (w.alloc (.cells #[] 3)) (.slice (some ⟨w.heap.size, 0, none⟩) 0 0) [] :=
  World.ownsRow_made w #[] 0 hb (by unfold maxLen; omega) rfl
theorem OwnI.kept {base : Nat} {w w' : World} {v : Value} {l : List Int} {row : Option Nat} (h : OwnI base w v l) (hg : w.grownBy w' row) (hne : ∀ k, v.ownBlock = some k → row ≠ some k) : OwnI base w' v l :=
  World.ownsRow.kept h hg (by
    cases hv : v.ownBlock with
    | none => exact .inl rfl
    | some k => exact .inr (fun e => hne k hv e.symm))

theorem infoInt : (Tryd.prog.info? 3).map (fun i => (i.zero, i.size, i.bytes)) = some (some (.int .i64 0), 1, 8) := by kernel_rfl

theorem SlI.one (w : World) (z : Int) (t : TypeId) : SlI (w.alloc (.cells #[.int .i64 z] t)) (some ⟨w.heap.size, 0, none⟩) 1 1 [z] := by
  refine ⟨rfl, Nat.le_refl _, by unfold maxLen; omega, (fun h => by cases h), fun x hx i hi => ?_⟩
  cases hx
  refine ⟨rfl, by simp, ?_⟩
  obtain rfl : i = 0 := by simpa using hi
  rw [World.cell?_alloc_at _ _ _ _ rfl]; rfl
theorem SlI.built (w : World) (A : Array Value) (l : List Int) (n k : Nat) (t : TypeId) (fr : Nat × Nat) (hA : A = (l.map iv).toArray) (hn : l.length = n) (hm : n ≤ maxLen) (hk : k = w.heap.size) :
    SlI (w.alloc (.cells A t fr)) (some ⟨k, 0, none⟩) n n l := by
  subst hA; subst hk
  refine ⟨hn, Nat.le_refl _, hm, (fun h => by cases h), fun x hx i hi => ?_⟩
  cases hx
  refine ⟨rfl, by simp, ?_⟩
  rw [cell_of_row _ _ _ _ _ _ (heap_alloc_eq w _ _ rfl)]; simp [iv, hi]

/-- append of a slice of ints, whatever it is, onto a slice that is nil or the call's own. -/
theorem wpList_append_ints {w : World} {ops : Array Oper} {rest : List Oper} {o : Oper} {a : Act} {Q : Exit → Act → World → Prop} (hgd : o.guard = none) (s x : Operand)
    (ho : o.op = .call { callee := .builtin .append, args := #[s, x], argTypes := #[102, 102] })
    (base : Nat) (v : Value) (l : List Int) (hs : a.eval s = v) (hown : OwnI base w v l) (b : Option Addr) (m c : Nat) (l2 : List Int) (hx : a.eval x = .slice b m c) (hsl : SlI w b m c l2)
    (hlen : l.length + m ≤ 10000000000000) (hbase : base ≤ w.heap.size)
    (h : ∀ v' w', OwnI base w' v' (l ++ l2) → w.grownBy w' v.ownBlock → wpList Tryd.prog ops Q rest (a.put o.dst v') w') : wpList Tryd.prog ops Q (o :: rest) a w := by
  obtain ⟨i0, hi, hz0, hz1, hz2⟩ := info_parts infoInt
  cases b with
  | none =>
    obtain ⟨rfl, rfl⟩ := hsl.2.2.2.1 rfl
    obtain rfl : m = 0 := hsl.1.symm
    refine wpList_append_own_none hgd s x 102 ho base 3 i0 1 Tryd.underlying102 hi v l.length _ hs hown hx ?_
    exact h v w (by simpa using hown) ⟨rfl, rfl, rfl, Nat.le_refl _, fun _ _ _ => rfl⟩
  | some ad =>
    have hl2 := hsl.len
    refine wpList_append_own w hgd s x 102 ho base 3 i0 (.int .i64 0) 1 8 Tryd.underlying102 hi hz0 hz1 hz2 rfl (by decide) v l.length _ hs hown ad m c (l2.map iv) hx (by simp [hl2]) ?_ ?_ (by unfold maxLen; omega) (by omega) hbase ?_
    · intro j u hj
      have hjl : j < l2.length := by
        have := (List.getElem?_eq_some_iff.1 hj).1; simpa using this
      obtain ⟨hsp, hb, this⟩ := hsl.2.2.2.2 ad rfl j hjl
      have hadd : ad.add j = ⟨ad.block, ad.off + j, none⟩ := by
        obtain ⟨b, o, sp⟩ := ad; simp only at hsp; subst hsp; unfold Addr.add; split <;> simp_all
      rw [hadd, this]; rw [← hj]; simp [iv, hjl]
    · intro u hu
      obtain ⟨b, _, rfl⟩ := List.mem_map.1 hu; rfl
    · intro v' w' h1 h2 _
      refine h v' w' ?_ h2
      unfold OwnI; rw [List.length_append, List.map_append, hl2]; exact h1

/-- What the form hands over of a slice of ints. -/
theorem SlI.of_row {w : World} {x : Addr} {n c : Nat} {zs : List Int} (hl : n ≤ c) (hm : c ≤ maxLen) (hz : zs.length = c) (hcell : ∀ i, i < zs.length → w.cell? (x.add i) = some (.int .i64 (zs.getD i 0))) :
    SlI w (some x) n c (zs.take n) := by
  refine ⟨by simp; omega, hl, hm, (fun h => by cases h), fun y hy i hi => ?_⟩
  cases hy
  simp at hi
  have hc := hcell i (by omega)
  obtain ⟨b, o, sp⟩ := x
  have hsp : sp = none := by
    have := World.cell?_spot (hcell 0 (by omega))
    simpa [Addr.add] using this
  subst hsp
  have hadd : (⟨b, o, none⟩ : Addr).add i = ⟨b, o + i, none⟩ := by unfold Addr.add; split <;> simp_all
  rw [hadd] at hc
  refine ⟨rfl, World.block_lt_of_cell? w ⟨b, o + i, none⟩ hc, ?_⟩
  rw [hc]
  simp [show i < zs.length by omega]

theorem below_drewN' (B : Nat) (w : World) (n : Nat) : Below B w (w.drewN n) := (Below.refl B w).trans ⟨rfl, rfl, rfl, Nat.le_refl _, fun _ _ => rfl⟩

end Go.Proofs.YtjfflnnepndlkaaDoor

/-
  The walks through the small functions of punycode and of its reference: point, adapt, digit, value.
-/
namespace Go.Proofs.YtjfflnnepndlkaaDoor
open Go.RowKit

theorem pn_point (n : Int) (w : World) (_h1 : -9223372036854775808 ≤ n) (_h2 : n ≤ 9223372036854775807) : Calls Tryd.prog 99 #[.int .i64 n] w fun e w' => e = .returned (.bool (Puny.point n)) ∧ w = w' := by
  by_cases h0 : n < 0
  · rw [show Puny.point n = false by rw [← Bool.not_eq_true, Puny.point_iff]; omega]
    go_enter Tryd.func99, Tryd.ntmps99
    go_wp2
    go_ret
    exact ⟨rfl, rfl⟩
  by_cases h1 : 1114111 < n
  · rw [show Puny.point n = false by rw [← Bool.not_eq_true, Puny.point_iff]; omega]
    go_enter Tryd.func99, Tryd.ntmps99
    go_wp2
    go_ret
    exact ⟨rfl, rfl⟩
  by_cases h2 : n < 55296
  · rw [show Puny.point n = true by rw [Puny.point_iff]; omega]
    go_enter Tryd.func99, Tryd.ntmps99
    go_wp2
    go_ret
    exact ⟨rfl, rfl⟩
  by_cases h3 : 57343 < n
  · rw [show Puny.point n = true by rw [Puny.point_iff]; omega]
    go_enter Tryd.func99, Tryd.ntmps99
    go_wp2
    go_ret
    exact ⟨rfl, rfl⟩
  rw [show Puny.point n = false by rw [← Bool.not_eq_true, Puny.point_iff]; omega]
  go_enter Tryd.func99, Tryd.ntmps99
  go_wp2
  go_ret
  exact ⟨rfl, rfl⟩

theorem pr_point (n : Int) (w : World) (_h1 : -9223372036854775808 ≤ n) (_h2 : n ≤ 9223372036854775807) : Calls Tryd.prog 118 #[.int .i64 n] w fun e w' => e = .returned (.bool (Puny.point n)) ∧ w = w' := by
  by_cases h0 : n < 0
  · rw [show Puny.point n = false by rw [← Bool.not_eq_true, Puny.point_iff]; omega]
    go_enter Tryd.func118, Tryd.ntmps118
    go_wp2
    go_ret
    exact ⟨rfl, rfl⟩
  by_cases h1 : 1114111 < n
  · rw [show Puny.point n = false by rw [← Bool.not_eq_true, Puny.point_iff]; omega]
    go_enter Tryd.func118, Tryd.ntmps118
    go_wp2
    go_ret
    exact ⟨rfl, rfl⟩
  by_cases h2 : n < 55296
  · rw [show Puny.point n = true by rw [Puny.point_iff]; omega]
    go_enter Tryd.func118, Tryd.ntmps118
    go_wp2
    go_ret
    exact ⟨rfl, rfl⟩
  by_cases h3 : 57343 < n
  · rw [show Puny.point n = true by rw [Puny.point_iff]; omega]
    go_enter Tryd.func118, Tryd.ntmps118
    go_wp2
    go_ret
    exact ⟨rfl, rfl⟩
  rw [show Puny.point n = false by rw [← Bool.not_eq_true, Puny.point_iff]; omega]
  go_enter Tryd.func118, Tryd.ntmps118
  go_wp2
  go_ret
  exact ⟨rfl, rfl⟩

theorem pn_digit (d : Int) (w : World) (h0 : 0 ≤ d) (h1 : d < 36) : Calls Tryd.prog 114 #[.int .i64 d] w fun e w' => e = .returned (bv (Puny.digit d)) ∧ w = w' := by
  unfold bv Puny.digit
  by_cases h : d < 26
  · rw [if_pos h]
    have e1 : ((UInt8.ofNat (97 + d).toNat).toNat : Int) = 97 + d := by
      have : (UInt8.ofNat (97 + d).toNat).toNat = (97 + d).toNat := by simp; omega
      rw [this]; omega
    rw [e1]
    clear e1
    go_enter Tryd.func114, Tryd.ntmps114
    go_wp2
    go_ret
    exact ⟨rfl, rfl⟩
  · rw [if_neg h]
    have e1 : ((UInt8.ofNat (48 + d - 26).toNat).toNat : Int) = 48 + d - 26 := by
      have : (UInt8.ofNat (48 + d - 26).toNat).toNat = (48 + d - 26).toNat := by simp; omega
      rw [this]; omega
    rw [e1]
    clear e1
    go_enter Tryd.func114, Tryd.ntmps114
    go_wp2
    go_ret
    exact ⟨rfl, rfl⟩

theorem pr_digit (d : Int) (w : World) (h0 : 0 ≤ d) (h1 : d < 36) : Calls Tryd.prog 119 #[.int .i64 d] w fun e w' => e = .returned (bv (Puny.digit d)) ∧ w = w' := by
  unfold bv Puny.digit
  by_cases h : d < 26
  · rw [if_pos h]
    have e1 : ((UInt8.ofNat (97 + d).toNat).toNat : Int) = 97 + d := by
      have : (UInt8.ofNat (97 + d).toNat).toNat = (97 + d).toNat := by simp; omega
      rw [this]; omega
    rw [e1]
    clear e1
    go_enter Tryd.func119, Tryd.ntmps119
    go_wp2
    go_ret
    exact ⟨rfl, rfl⟩
  · rw [if_neg h]
    have e1 : ((UInt8.ofNat (48 + d - 26).toNat).toNat : Int) = 48 + d - 26 := by
      have : (UInt8.ofNat (48 + d - 26).toNat).toNat = (48 + d - 26).toNat := by simp; omega
      rw [this]; omega
    rw [e1]
    clear e1
    go_enter Tryd.func119, Tryd.ntmps119
    go_wp2
    go_ret
    exact ⟨rfl, rfl⟩

theorem pn_value (b : UInt8) (w : World) : Calls Tryd.prog 124 #[.int .u8 (b.toNat : Int)] w fun e w' => e = .returned (.int .i64 (Puny.value b)) ∧ w = w' := by
  have hb := b.toNat_lt
  unfold Puny.value
  generalize b.toNat = x at *
  by_cases h97 : 97 ≤ x ∧ x ≤ 122
  · rw [if_pos h97]
    obtain ⟨g1, g2⟩ := h97
    go_enter Tryd.func124, Tryd.ntmps124
    go_wp2
    go_ret
    exact ⟨rfl, rfl⟩
  rw [if_neg h97]
  by_cases h65 : 65 ≤ x ∧ x ≤ 90
  · rw [if_pos h65]
    obtain ⟨g1, g2⟩ := h65
    go_enter Tryd.func124, Tryd.ntmps124
    go_wp2
    go_ret
    exact ⟨rfl, rfl⟩
  rw [if_neg h65]
  by_cases h48 : 48 ≤ x ∧ x ≤ 57
  · rw [if_pos h48]
    obtain ⟨g1, g2⟩ := h48
    go_enter Tryd.func124, Tryd.ntmps124
    go_wp2
    go_ret
    exact ⟨rfl, rfl⟩
  rw [if_neg h48]
  have k1 : x < 97 ∨ 122 < x := by omega
  have k2 : x < 65 ∨ 90 < x := by omega
  have k3 : x < 48 ∨ 57 < x := by omega
  clear h97 h65 h48
  rcases k1 with k1 | k1 <;> rcases k2 with k2 | k2 <;> rcases k3 with k3 | k3
  all_goals first | omega | skip
  all_goals
    go_enter Tryd.func124, Tryd.ntmps124
    go_wp2
    go_ret
    exact ⟨rfl, rfl⟩

theorem pr_value (b : UInt8) (w : World) : Calls Tryd.prog 115 #[.int .u8 (b.toNat : Int)] w fun e w' => e = .returned (.int .i64 (Puny.value b)) ∧ w = w' := by
  have hb := b.toNat_lt
  unfold Puny.value
  generalize b.toNat = x at *
  by_cases h97 : 97 ≤ x ∧ x ≤ 122
  · rw [if_pos h97]
    obtain ⟨g1, g2⟩ := h97
    go_enter Tryd.func115, Tryd.ntmps115
    go_wp2
    go_ret
    exact ⟨rfl, rfl⟩
  rw [if_neg h97]
  by_cases h65 : 65 ≤ x ∧ x ≤ 90
  · rw [if_pos h65]
    obtain ⟨g1, g2⟩ := h65
    go_enter Tryd.func115, Tryd.ntmps115
    go_wp2
    go_ret
    exact ⟨rfl, rfl⟩
  rw [if_neg h65]
  by_cases h48 : 48 ≤ x ∧ x ≤ 57
  · rw [if_pos h48]
    obtain ⟨g1, g2⟩ := h48
    go_enter Tryd.func115, Tryd.ntmps115
    go_wp2
    go_ret
    exact ⟨rfl, rfl⟩
  rw [if_neg h48]
  have k1 : x < 97 ∨ 122 < x := by omega
  have k2 : x < 65 ∨ 90 < x := by omega
  have k3 : x < 48 ∨ 57 < x := by omega
  clear h97 h65 h48
  rcases k1 with k1 | k1 <;> rcases k2 with k2 | k2 <;> rcases k3 with k3 | k3
  all_goals first | omega | skip
  all_goals
    go_enter Tryd.func115, Tryd.ntmps115
    go_wp2
    go_ret
    exact ⟨rfl, rfl⟩

set_option maxHeartbeats 1000000 in
theorem pn_adapt (delta count : Int) (first : Bool) (w : World) (hd0 : 0 ≤ delta) (hd1 : delta ≤ 2199023255552) (hc0 : 1 ≤ count) (hc1 : count ≤ 100000) :
    Calls Tryd.prog 101 #[.int .i64 delta, .int .i64 count, .bool first] w fun e w' => e = .returned (.int .i64 (Puny.adapt delta count first)) ∧ w = w' := by
  obtain ⟨s0, s1⟩ := Puny.adStart_bd delta count first hd0 hc0
  unfold Puny.adapt
  obtain ⟨R, hR⟩ : ∃ R, R = Puny.adGo ((Puny.adStart delta count first).toNat + 1) (Puny.adStart delta count first) 0 := ⟨_, rfl⟩
  have hS : Puny.adStart delta count first = (if first then delta / 700 else delta / 2) + (if first then delta / 700 else delta / 2) / count := rfl
  rw [← hR]
  generalize Puny.adStart delta count first = S at *
  have HR := Lib.hid hR; have HS := Lib.hid hS
  clear hR hS
  have hq : ∀ x : Int, 0 ≤ x → 0 ≤ x / count ∧ x / count ≤ x := fun x hx => ⟨Int.ediv_nonneg hx (by omega), Int.ediv_le_self _ hx⟩
  cases first
  · have HSS := Lib.hid (show delta / 2 + delta / 2 / count = S by rw [HS.out]; rfl)
    obtain ⟨q0, q1⟩ := hq (delta / 2) (by omega)
    clear hq
    go_enter Tryd.func101, Tryd.ntmps101
    go_wp2
    rw [HSS.out]
    go_loop [0, 7] (fun d k => ∃ (D K : Int) (f : Nat), d = .int .i64 D ∧ k = .int .i64 K ∧ 0 ≤ D ∧ 0 ≤ K ∧ K + D ≤ 5000000000000 ∧ D < f ∧ Hid (Puny.adGo f D K = R)) (fun d _ => (intOf d).toNat)
    case atStart => exact ⟨S, 0, S.toNat + 1, rfl, rfl, s0, Int.le_refl _, by omega, by omega, Lib.hid HR.out.symm⟩
    case round =>
      obtain ⟨D, K, f, rfl, rfl, hD, hK, hKD, hf, HG⟩ := hrel
      obtain ⟨f, rfl⟩ : ∃ g, f = g + 1 := ⟨f - 1, by omega⟩
      by_cases hlt : 455 < D
      · have hg := HG.out
        rw [Puny.adGo, if_pos hlt] at hg
        have HG2 := Lib.hid hg
        clear hg
        go_wp2
        go_round
        case rel => exact ⟨D / 35, K + 36, f, rfl, rfl, by omega, by omega, by omega, by omega, HG2⟩
        case measure => simp [intOf]; omega
      · have hg := HG.out
        rw [Puny.adGo, if_neg hlt] at hg
        have q2 : 0 ≤ 36 * D / (D + 38) := Int.ediv_nonneg (by omega) (by omega)
        have q3 : 36 * D / (D + 38) ≤ 36 * D := Int.ediv_le_self _ (by omega)
        have HG2 := Lib.hid hg
        clear hg
        go_wp2
        rw [HG2.out]
        go_ret
        exact ⟨rfl, rfl⟩
  · have HSS := Lib.hid (show delta / 700 + delta / 700 / count = S by rw [HS.out]; rfl)
    obtain ⟨q0, q1⟩ := hq (delta / 700) (by omega)
    clear hq
    go_enter Tryd.func101, Tryd.ntmps101
    go_wp2
    rw [HSS.out]
    go_loop [0, 7] (fun d k => ∃ (D K : Int) (f : Nat), d = .int .i64 D ∧ k = .int .i64 K ∧ 0 ≤ D ∧ 0 ≤ K ∧ K + D ≤ 5000000000000 ∧ D < f ∧ Hid (Puny.adGo f D K = R)) (fun d _ => (intOf d).toNat)
    case atStart => exact ⟨S, 0, S.toNat + 1, rfl, rfl, s0, Int.le_refl _, by omega, by omega, Lib.hid HR.out.symm⟩
    case round =>
      obtain ⟨D, K, f, rfl, rfl, hD, hK, hKD, hf, HG⟩ := hrel
      obtain ⟨f, rfl⟩ : ∃ g, f = g + 1 := ⟨f - 1, by omega⟩
      by_cases hlt : 455 < D
      · have hg := HG.out
        rw [Puny.adGo, if_pos hlt] at hg
        have HG2 := Lib.hid hg
        clear hg
        go_wp2
        go_round
        case rel => exact ⟨D / 35, K + 36, f, rfl, rfl, by omega, by omega, by omega, by omega, HG2⟩
        case measure => simp [intOf]; omega
      · have hg := HG.out
        rw [Puny.adGo, if_neg hlt] at hg
        have q2 : 0 ≤ 36 * D / (D + 38) := Int.ediv_nonneg (by omega) (by omega)
        have q3 : 36 * D / (D + 38) ≤ 36 * D := Int.ediv_le_self _ (by omega)
        have HG2 := Lib.hid hg
        clear hg
        go_wp2
        rw [HG2.out]
        go_ret
        exact ⟨rfl, rfl⟩

set_option maxHeartbeats 1000000 in
theorem pr_adapt (delta count : Int) (first : Bool) (w : World) (hd0 : 0 ≤ delta) (hd1 : delta ≤ 2199023255552) (hc0 : 1 ≤ count) (hc1 : count ≤ 100000) :
    Calls Tryd.prog 117 #[.int .i64 delta, .int .i64 count, .bool first] w fun e w' => e = .returned (.int .i64 (Puny.adapt delta count first)) ∧ w = w' := by
  obtain ⟨s0, s1⟩ := Puny.adStart_bd delta count first hd0 hc0
  unfold Puny.adapt
  obtain ⟨R, hR⟩ : ∃ R, R = Puny.adGo ((Puny.adStart delta count first).toNat + 1) (Puny.adStart delta count first) 0 := ⟨_, rfl⟩
  have hS : Puny.adStart delta count first = (if first then delta / 700 else delta / 2) + (if first then delta / 700 else delta / 2) / count := rfl
  rw [← hR]
  generalize Puny.adStart delta count first = S at *
  have HR := Lib.hid hR; have HS := Lib.hid hS
  clear hR hS
  have hq : ∀ x : Int, 0 ≤ x → 0 ≤ x / count ∧ x / count ≤ x := fun x hx => ⟨Int.ediv_nonneg hx (by omega), Int.ediv_le_self _ hx⟩
  cases first
  · have HSS := Lib.hid (show delta / 2 + delta / 2 / count = S by rw [HS.out]; rfl)
    obtain ⟨q0, q1⟩ := hq (delta / 2) (by omega)
    clear hq
    go_enter Tryd.func117, Tryd.ntmps117
    go_wp2
    rw [HSS.out]
    go_loop [0, 7] (fun d k => ∃ (D K : Int) (f : Nat), d = .int .i64 D ∧ k = .int .i64 K ∧ 0 ≤ D ∧ 0 ≤ K ∧ K + D ≤ 5000000000000 ∧ D < f ∧ Hid (Puny.adGo f D K = R)) (fun d _ => (intOf d).toNat)
    case atStart => exact ⟨S, 0, S.toNat + 1, rfl, rfl, s0, Int.le_refl _, by omega, by omega, Lib.hid HR.out.symm⟩
    case round =>
      obtain ⟨D, K, f, rfl, rfl, hD, hK, hKD, hf, HG⟩ := hrel
      obtain ⟨f, rfl⟩ : ∃ g, f = g + 1 := ⟨f - 1, by omega⟩
      by_cases hlt : 455 < D
      · have hg := HG.out
        rw [Puny.adGo, if_pos hlt] at hg
        have HG2 := Lib.hid hg
        clear hg
        go_wp2
        go_round
        case rel => exact ⟨D / 35, K + 36, f, rfl, rfl, by omega, by omega, by omega, by omega, HG2⟩
        case measure => simp [intOf]; omega
      · have hg := HG.out
        rw [Puny.adGo, if_neg hlt] at hg
        have q2 : 0 ≤ 36 * D / (D + 38) := Int.ediv_nonneg (by omega) (by omega)
        have q3 : 36 * D / (D + 38) ≤ 36 * D := Int.ediv_le_self _ (by omega)
        have HG2 := Lib.hid hg
        clear hg
        go_wp2
        rw [HG2.out]
        go_ret
        exact ⟨rfl, rfl⟩
  · have HSS := Lib.hid (show delta / 700 + delta / 700 / count = S by rw [HS.out]; rfl)
    obtain ⟨q0, q1⟩ := hq (delta / 700) (by omega)
    clear hq
    go_enter Tryd.func117, Tryd.ntmps117
    go_wp2
    rw [HSS.out]
    go_loop [0, 7] (fun d k => ∃ (D K : Int) (f : Nat), d = .int .i64 D ∧ k = .int .i64 K ∧ 0 ≤ D ∧ 0 ≤ K ∧ K + D ≤ 5000000000000 ∧ D < f ∧ Hid (Puny.adGo f D K = R)) (fun d _ => (intOf d).toNat)
    case atStart => exact ⟨S, 0, S.toNat + 1, rfl, rfl, s0, Int.le_refl _, by omega, by omega, Lib.hid HR.out.symm⟩
    case round =>
      obtain ⟨D, K, f, rfl, rfl, hD, hK, hKD, hf, HG⟩ := hrel
      obtain ⟨f, rfl⟩ : ∃ g, f = g + 1 := ⟨f - 1, by omega⟩
      by_cases hlt : 455 < D
      · have hg := HG.out
        rw [Puny.adGo, if_pos hlt] at hg
        have HG2 := Lib.hid hg
        clear hg
        go_wp2
        go_round
        case rel => exact ⟨D / 35, K + 36, f, rfl, rfl, by omega, by omega, by omega, by omega, HG2⟩
        case measure => simp [intOf]; omega
      · have hg := HG.out
        rw [Puny.adGo, if_neg hlt] at hg
        have q2 : 0 ≤ 36 * D / (D + 38) := Int.ediv_nonneg (by omega) (by omega)
        have q3 : 36 * D / (D + 38) ≤ 36 * D := Int.ediv_le_self _ (by omega)
        have HG2 := Lib.hid hg
        clear hg
        go_wp2
        rw [HG2.out]
        go_ret
        exact ⟨rfl, rfl⟩


end Go.Proofs.YtjfflnnepndlkaaDoor

/-
  Worlds that differ in the blocks of a set and in new blocks; slices of pairs of ints; rows that stay.
-/
namespace Go.Proofs.YtjfflnnepndlkaaDoor
open Go.RowKit

/-- w' is w but for the blocks of F (and new blocks); F' holds blocks of F and new ones. -/
structure Upd (F : Nat → Prop) (w : World) (F' : Nat → Prop) (w' : World) : Prop where
  os : w'.os = w.os
  tape : w'.tape = w.tape
  output : w'.output = w.output
  size : w.heap.size ≤ w'.heap.size
  block : ∀ k, k < w.heap.size → ¬ F k → w'.heap[k]? = w.heap[k]?
  new : ∀ k, F' k → F k ∨ w.heap.size ≤ k

theorem Upd.refl (F : Nat → Prop) (w : World) : Upd F w F w := ⟨rfl, rfl, rfl, Nat.le_refl _, fun _ _ _ => rfl, fun _ h => .inl h⟩
theorem Upd.trans {F F1 F2 : Nat → Prop} {w w1 w2 : World} (h : Upd F w F1 w1) (k : Upd F1 w1 F2 w2) : Upd F w F2 w2 where
  os := k.os.trans h.os
  tape := k.tape.trans h.tape
  output := k.output.trans h.output
  size := Nat.le_trans h.size k.size
  block i hi hF := (k.block i (Nat.lt_of_lt_of_le hi h.size) (fun e => by rcases h.new i e with e1 | e1; exact hF e1; omega)).trans (h.block i hi hF)
  new i hi := by
    rcases k.new i hi with e | e
    · exact h.new i e
    · exact .inr (Nat.le_trans h.size e)
theorem Upd.of_ext {F : Nat → Prop} {w w' : World} (h : Below w.heap.size w w') : Upd F w F w' := ⟨h.os, h.tape, h.output, h.size, fun k hk _ => h.block k hk, fun _ h => .inl h⟩
theorem Upd.ext {F F' : Nat → Prop} {w w1 w2 : World} (h : Upd F w F' w1) (k : Below w1.heap.size w1 w2) : Upd F w F' w2 := h.trans (Upd.of_ext k)
theorem Upd.drew {F F' : Nat → Prop} {w w1 : World} (h : Upd F w F' w1) : Upd F w F' w1.drew := ⟨h.os, h.tape, h.output, h.size, h.block, h.new⟩
theorem Upd.drewN {F F' : Nat → Prop} {w w1 : World} (h : Upd F w F' w1) (n : Nat) : Upd F w F' (w1.drewN n) := ⟨h.os, h.tape, h.output, h.size, h.block, h.new⟩
theorem Upd.alloc {F F' : Nat → Prop} {w w1 : World} (h : Upd F w F' w1) (o : Obj) : Upd F w F' (w1.alloc o) := h.ext ((Below.refl _ _).alloc (Nat.le_refl _) o)
theorem Upd.setCell {F F' : Nat → Prop} {w w1 : World} (h : Upd F w F' w1) {g : Nat} (hg : F g ∨ w.heap.size ≤ g) (o : Nat) (v : Value) : Upd F w F' (w1.setCell ⟨g, o, none⟩ v) where
  os := h.os
  tape := h.tape
  output := h.output
  size := by simpa using h.size
  block k hk hF := (heap_setCell_other _ _ _ _ (fun e => by subst e; rcases hg with e1 | e1; exact hF e1; omega)).trans (h.block k hk hF)
  new := h.new
theorem Upd.but {F F' : Nat → Prop} {w w1 w2 : World} (h : Upd F w F' w1) {g : Nat} (hg : F g ∨ w.heap.size ≤ g) (k : But g w1 w2) : Upd F w F' w2 where
  os := k.os.trans h.os
  tape := k.tape.trans h.tape
  output := k.output.trans h.output
  size := Nat.le_trans h.size k.size
  block i hi hF := (k.block i (Nat.lt_of_lt_of_le hi h.size) (fun e => by subst e; rcases hg with e1 | e1; exact hF e1; omega)).trans (h.block i hi hF)
  new := h.new
theorem Upd.grown {F F' : Nat → Prop} {w w1 w2 : World} {row : Option Nat} (h : Upd F w F' w1) (hg : ∀ g, row = some g → F g ∨ w.heap.size ≤ g) (k : w1.grownBy w2 row) : Upd F w F' w2 where
  os := k.os.trans h.os
  tape := k.tape.trans h.tape
  output := k.output.trans h.output
  size := Nat.le_trans h.size k.size
  block i hi hF := (k.block i (Nat.lt_of_lt_of_le hi h.size) (fun e => by rcases hg i e.symm with e1 | e1; exact hF e1; omega)).trans (h.block i hi hF)
  new := h.new
theorem Upd.grow {F F' F2 : Nat → Prop} {w w1 : World} (h : Upd F w F' w1) (h2 : ∀ k, F2 k → F k ∨ w.heap.size ≤ k) : Upd F w F2 w1 := ⟨h.os, h.tape, h.output, h.size, h.block, h2⟩
theorem Upd.below {F F' : Nat → Prop} {B : Nat} {w0 w w' : World} (h : Upd F w F' w') (hb : Below B w0 w) (hF : ∀ k, F k → B ≤ k) (hB : B ≤ w.heap.size) : Below B w0 w' :=
  hb.trans ⟨h.os, h.tape, h.output, h.size, fun k hk => h.block k (by omega) (fun e => by have := hF k e; omega)⟩
theorem Upd.lo {F F' : Nat → Prop} {B : Nat} {w w' : World} (h : Upd F w F' w') (hF : ∀ k, F k → B ≤ k) (hB : B ≤ w.heap.size) : ∀ k, F' k → B ≤ k := fun k hk => by
  rcases h.new k hk with e | e
  · exact hF k e
  · omega
theorem Upd.apart {F F' G : Nat → Prop} {w w' : World} (h : Upd F w F' w') (hF : ∀ k, F k → ¬ G k) (hG : ∀ k, G k → k < w.heap.size) : ∀ k, F' k → ¬ G k := fun k hk hg => by
  rcases h.new k hk with e | e
  · exact hF k e hg
  · have := hG k hg; omega
/-- A set of blocks that F does not meet stays. -/
theorem Upd.stays {F F' G : Nat → Prop} {w w' : World} (h : Upd F w F' w') (hF : ∀ k, F k → ¬ G k) (hG : ∀ k, G k → k < w.heap.size) : ∀ k, G k → w'.heap[k]? = w.heap[k]? := fun k hk => h.block k (hG k hk) (fun e => hF k e hk)

/-- What is read of a slice of bytes stays while its block stays. -/
theorem SlB.stay {w w' : World} {a : Option Addr} {n c : Nat} {l : List UInt8} (h : SlB w a n c l) (e : ∀ x, a = some x → l ≠ [] → w'.heap[x.block]? = w.heap[x.block]?) (hz : w.heap.size ≤ w'.heap.size) : SlB w' a n c l := by
  obtain ⟨hl, hn, hc, h0, h1⟩ := h
  refine ⟨hl, hn, hc, h0, fun x hx i hi => ?_⟩
  obtain ⟨hs, hb, hi'⟩ := h1 x hx i hi
  exact ⟨hs, Nat.lt_of_lt_of_le hb hz, (World.cell?_of_block (a := ⟨x.block, x.off + i, none⟩) (e x hx (by rintro rfl; simp at hi))).trans hi'⟩
theorem SlB.upd {F F' : Nat → Prop} {w w' : World} {a : Option Addr} {n c : Nat} {l : List UInt8} (h : SlB w a n c l) (k : Upd F w F' w') (hF : ∀ x, a = some x → l ≠ [] → ¬ F x.block) : SlB w' a n c l :=
  h.stay (fun x hx hl => k.block _ ((h.2.2.2.2 x hx 0 (List.length_pos_iff.2 hl)).2.1) (hF x hx hl)) k.size
theorem SlB.blt {w : World} {x : Addr} {n c : Nat} {l : List UInt8} (h : SlB w (some x) n c l) (hl : l ≠ []) : x.block < w.heap.size := (h.2.2.2.2 x rfl 0 (List.length_pos_iff.2 hl)).2.1
theorem OwnB.upd {F F' : Nat → Prop} {base : Nat} {w w' : World} {v : Value} {l : List UInt8} (h : OwnB base w v l) (k : Upd F w F' w') (hF : ∀ g, v.ownBlock = some g → ¬ F g) : OwnB base w' v l := by
  refine ⟨h.1, ?_⟩
  rcases h.2 with hn | ⟨g, cap, cur, rfl, hb, hgg, rest⟩
  · exact .inl hn
  · exact .inr ⟨g, cap, cur, rfl, hb, (k.block g (Array.getElem?_eq_some_iff.1 hgg).1 (hF g rfl)).trans hgg, rest⟩

/-! ### Slices of pairs of ints -/
def SlP (w : World) (a : Option Addr) (n c : Nat) (l : List (Int × Int)) : Prop :=
  l.length = n ∧ n ≤ c ∧ c ≤ maxLen ∧ (a = none → l = [] ∧ c = 0) ∧
    ∀ x, a = some x → ∀ i (h : i < l.length), x.spot = none ∧ x.block < w.heap.size ∧ w.cell? ⟨x.block, x.off + i * 2, none⟩ = some (.int .i64 l[i].1) ∧ w.cell? ⟨x.block, x.off + i * 2 + 1, none⟩ = some (.int .i64 l[i].2)
theorem SlP.len {w : World} {a : Option Addr} {n c : Nat} {l : List (Int × Int)} (h : SlP w a n c l) : l.length = n := h.1
theorem SlP.le {w : World} {a : Option Addr} {n c : Nat} {l : List (Int × Int)} (h : SlP w a n c l) : n ≤ 9223372036854775807 := by
  have := h.2.1; have := h.2.2.1; unfold maxLen at *; omega
theorem SlP.nil (w : World) : SlP w none 0 0 [] := ⟨rfl, Nat.le_refl _, by unfold maxLen; omega, fun _ => ⟨rfl, rfl⟩, fun x hx => by cases hx⟩
theorem SlP.at {w : World} {a : Option Addr} {n c : Nat} {l : List (Int × Int)} (h : SlP w a n c l) {k : Nat} (hk : k < n) :
    ∃ b o, a = some ⟨b, o, none⟩ ∧ b < w.heap.size ∧ w.cell? ⟨b, o + k * 2, none⟩ = some (.int .i64 (l[k]?.getD (0, 0)).1) ∧ w.cell? ⟨b, o + k * 2 + 1, none⟩ = some (.int .i64 (l[k]?.getD (0, 0)).2) := by
  obtain ⟨hl, hn, hc, h0, h1⟩ := h
  cases a with
  | none => have := (h0 rfl).1; subst this; simp at hl; omega
  | some x =>
    obtain ⟨b, o, sp⟩ := x
    have hk' : k < l.length := by omega
    obtain ⟨hs, hb, hi⟩ := h1 _ rfl k hk'
    simp only at hs; subst hs
    refine ⟨b, o, rfl, hb, ?_⟩
    rw [List.getElem?_eq_getElem hk']
    exact hi
theorem SlP.stay {w w' : World} {a : Option Addr} {n c : Nat} {l : List (Int × Int)} (h : SlP w a n c l) (e : ∀ x, a = some x → l ≠ [] → w'.heap[x.block]? = w.heap[x.block]?) (hz : w.heap.size ≤ w'.heap.size) : SlP w' a n c l := by
  obtain ⟨hl, hn, hc, h0, h1⟩ := h
  refine ⟨hl, hn, hc, h0, fun x hx i hi => ?_⟩
  obtain ⟨hs, hb, hi1, hi2⟩ := h1 x hx i hi
  have e' := e x hx (by rintro rfl; simp at hi)
  exact ⟨hs, Nat.lt_of_lt_of_le hb hz, (World.cell?_of_block (a := ⟨x.block, x.off + i * 2, none⟩) e').trans hi1, (World.cell?_of_block (a := ⟨x.block, x.off + i * 2 + 1, none⟩) e').trans hi2⟩
theorem SlP.ext {w w' : World} {a : Option Addr} {n c : Nat} {l : List (Int × Int)} (h : SlP w a n c l) (e : Below w.heap.size w w') : SlP w' a n c l :=
  h.stay (fun x hx hl => e.block _ ((h.2.2.2.2 x hx 0 (List.length_pos_iff.2 hl)).2.1)) e.size
theorem SlP.upd {F F' : Nat → Prop} {w w' : World} {a : Option Addr} {n c : Nat} {l : List (Int × Int)} (h : SlP w a n c l) (k : Upd F w F' w') (hF : ∀ x, a = some x → l ≠ [] → ¬ F x.block) : SlP w' a n c l :=
  h.stay (fun x hx hl => k.block _ ((h.2.2.2.2 x hx 0 (List.length_pos_iff.2 hl)).2.1) (hF x hx hl)) k.size
theorem SlP.blt {w : World} {x : Addr} {n c : Nat} {l : List (Int × Int)} (h : SlP w (some x) n c l) (hl : l ≠ []) : x.block < w.heap.size := (h.2.2.2.2 x rfl 0 (List.length_pos_iff.2 hl)).2.1

end Go.Proofs.YtjfflnnepndlkaaDoor
