/-
  Slices of strings: what they read as; slices that the call itself made; append.
-/
import Derived.Test.YtcmeajaakdaeeaaDoorRun0
import Derived.Deep.QuietTactic
import Derived.BigQuiet
import Derived.Deep.DeepMust
namespace Go.Proofs.YtcmeajaakdaeeaaDoor
open Go.RowKit

/-- The cell of a string. -/
def tv (z : List UInt8) : Value := .string (str z)

/-- The slice reads as the strings l. -/
def SlT (w : World) (a : Option Addr) (n c : Nat) (l : List (List UInt8)) : Prop :=
  l.length = n ∧ n ≤ c ∧ c ≤ maxLen ∧ (a = none → l = [] ∧ c = 0) ∧
    ∀ x, a = some x → ∀ i (h : i < l.length), x.spot = none ∧ x.block < w.heap.size ∧ w.cell? ⟨x.block, x.off + i, none⟩ = some (tv l[i])

theorem SlT.len {w : World} {a : Option Addr} {n c : Nat} {l : List (List UInt8)} (h : SlT w a n c l) : l.length = n := h.1
theorem SlT.le {w : World} {a : Option Addr} {n c : Nat} {l : List (List UInt8)} (h : SlT w a n c l) : n ≤ 9223372036854775807 := by
  have := h.2.1; have := h.2.2.1; unfold maxLen at *; omega
theorem SlT.nil (w : World) : SlT w none 0 0 [] := ⟨rfl, Nat.le_refl _, by unfold maxLen; omega, fun _ => ⟨rfl, rfl⟩, fun x hx => by cases hx⟩

theorem SlT.at {w : World} {a : Option Addr} {n c : Nat} {l : List (List UInt8)} (h : SlT w a n c l) {k : Nat} (hk : k < n) :
    ∃ b o, a = some ⟨b, o, none⟩ ∧ b < w.heap.size ∧ k < l.length ∧ w.cell? ⟨b, o + k, none⟩ = some (tv (l[k]?.getD [])) := by
  obtain ⟨hl, hn, hc, h0, h1⟩ := h
  cases a with
  | none => have := (h0 rfl).1; subst this; simp at hl; omega
  | some x =>
    obtain ⟨b, o, sp⟩ := x
    have hk' : k < l.length := by omega
    obtain ⟨hs, hb, hi⟩ := h1 _ rfl k hk'
    simp only at hs; subst hs
    refine ⟨b, o, rfl, hb, hk', ?_⟩
    rw [List.getElem?_eq_getElem hk']
    exact hi

theorem SlT.ext {w w' : World} {a : Option Addr} {n c : Nat} {l : List (List UInt8)} (h : SlT w a n c l) (e : Below w.heap.size w w') : SlT w' a n c l := by
  obtain ⟨hl, hn, hc, h0, h1⟩ := h
  refine ⟨hl, hn, hc, h0, fun x hx i hi => ?_⟩
  obtain ⟨hs, hb, hi⟩ := h1 x hx i hi
  exact ⟨hs, Nat.lt_of_lt_of_le hb e.size, (e.cell (p := ⟨x.block, x.off + i, none⟩) hb).trans hi⟩
theorem SlT.take {w : World} {a : Option Addr} {n c : Nat} {l : List (List UInt8)} (h : SlT w a n c l) {k : Nat} (hk : k ≤ n) : SlT w a k c (l.take k) := by
  obtain ⟨hl, hn, hc, h0, h1⟩ := h
  refine ⟨by simp; omega, by omega, hc, fun e => by simp [h0 e], fun x hx i hi => ?_⟩
  have hi' : i < l.length := by simp at hi; omega
  obtain ⟨hs, hb, hcl⟩ := h1 x hx i hi'
  exact ⟨hs, hb, by rw [hcl]; simp⟩
theorem SlT.drop {w : World} {b o n c : Nat} {l : List (List UInt8)} (h : SlT w (some ⟨b, o, none⟩) n c l) {k : Nat} (hk : k ≤ n) : SlT w (some ⟨b, o + k, none⟩) (n - k) (c - k) (l.drop k) := by
  obtain ⟨hl, hn, hc, h0, h1⟩ := h
  refine ⟨by simp; omega, by omega, by omega, (fun e => by cases e), fun x hx i hi => ?_⟩
  cases hx
  have hi' : k + i < l.length := by simp at hi; omega
  obtain ⟨hs, hb, hcl⟩ := h1 _ rfl (k + i) hi'
  refine ⟨rfl, hb, ?_⟩
  simp only [Nat.add_assoc] at hcl ⊢
  rw [hcl]; simp
theorem SlT.zero (w : World) (x : Addr) (c : Nat) (hc : c ≤ maxLen) : SlT w (some x) 0 c [] := ⟨rfl, Nat.zero_le _, hc, (fun h => by cases h), fun y _ i hi => by simp at hi⟩

/-- The slice value v is the call's own, in a block from base on, and holds the strings l. -/
def OwnT (base : Nat) (w : World) (v : Value) (l : List (List UInt8)) : Prop := w.ownsRow base 9 1 v l.length (l.map tv)

theorem OwnT.sl {base : Nat} {w : World} {v : Value} {l : List (List UInt8)} (h : OwnT base w v l) : ∃ a c, v = .slice a l.length c ∧ SlT w a l.length c l := by
  rcases id h.2 with ⟨hv, hn⟩ | ⟨g, cap, cur, hv, hg, hc, hnc, hcm, hcs, htake⟩
  · have hl : l = [] := List.eq_nil_of_length_eq_zero hn
    subst hl
    exact ⟨none, 0, hv, SlT.nil w⟩
  · refine ⟨some ⟨g, 0, none⟩, cap, hv, ⟨rfl, hnc, hcm, (fun h => by cases h), fun x hx i hi => ?_⟩⟩
    cases hx
    refine ⟨rfl, (Array.getElem?_eq_some_iff.1 hc).1, ?_⟩
    have := World.ownsRow.cellAt (g := g) (cap := cap) (by rw [← hv]; exact h) i (by simpa using hi)
    simp only [Nat.zero_add]
    rw [this]; simp [hi]
theorem OwnT.lt {base : Nat} {w : World} {v : Value} {l : List (List UInt8)} (h : OwnT base w v l) : ∀ k, v.ownBlock = some k → base ≤ k ∧ k < w.heap.size := World.ownsRow.lt h
theorem OwnT.ext {base : Nat} {w w' : World} {v : Value} {l : List (List UInt8)} (h : OwnT base w v l) (e : Below w.heap.size w w') : OwnT base w' v l := by
  refine ⟨h.1, ?_⟩
  rcases h.2 with hn | ⟨g, cap, cur, rfl, hb, hgg, rest⟩
  · exact .inl hn
  · exact .inr ⟨g, cap, cur, rfl, hb, (e.block g (Array.getElem?_eq_some_iff.1 hgg).1).trans hgg, rest⟩
theorem OwnT.mono {b b' : Nat} {w : World} {v : Value} {l : List (List UInt8)} (h : OwnT b w v l) (hb : b' ≤ b) : OwnT b' w v l := by
  refine ⟨h.1, ?_⟩
  rcases h.2 with hn | ⟨g, cap, cur, rfl, hbg, rest⟩
  · exact .inl hn
  · exact .inr ⟨g, cap, cur, rfl, Nat.le_trans hb hbg, rest⟩
theorem OwnT.alloc {base : Nat} {w : World} {v : Value} {l : List (List UInt8)} (h : OwnT base w v l) (o : Obj) : OwnT base (w.alloc o) v l := World.ownsRow.alloc h o
theorem OwnT.nil (base : Nat) (w : World) : OwnT base w (.slice none 0 0) [] := World.ownsRow_nil w base _ _
theorem OwnT.empty {base : Nat} (w : World) (hb : base ≤ w.heap.size) : OwnT base (w.alloc (.cells #[] 9)) (.slice (some ⟨w.heap.size, 0, none⟩) 0 0) [] :=
  World.ownsRow_made w #[] 0 hb (by unfold maxLen; omega) rfl
theorem OwnT.kept {base : Nat} {w w' : World} {v : Value} {l : List (List UInt8)} {row : Option Nat} (h : OwnT base w v l) (hg : w.grownBy w' row) (hne : ∀ k, v.ownBlock = some k → row ≠ some k) : OwnT base w' v l :=
  World.ownsRow.kept h hg (by
    cases hv : v.ownBlock with
    | none => exact .inl rfl
    | some k => exact .inr (fun e => hne k hv e.symm))

theorem infoStr : (Tryd.prog.info? 9).map (fun i => (i.zero, i.size, i.bytes)) = some (some (.string ⟨#[]⟩), 1, 16) := by kernel_rfl

theorem SlT.one (w : World) (z : List UInt8) (t : TypeId) : SlT (w.alloc (.cells #[tv z] t)) (some ⟨w.heap.size, 0, none⟩) 1 1 [z] := by
  refine ⟨rfl, Nat.le_refl _, by unfold maxLen; omega, (fun h => by cases h), fun x hx i hi => ?_⟩
  cases hx
  refine ⟨rfl, by simp, ?_⟩
  obtain rfl : i = 0 := by simpa using hi
  rw [World.cell?_alloc_at _ _ _ _ rfl]; rfl
theorem SlT.built (w : World) (A : Array Value) (l : List (List UInt8)) (n k : Nat) (t : TypeId) (fr : Nat × Nat) (hA : A = (l.map tv).toArray) (hn : l.length = n) (hm : n ≤ maxLen) (hk : k = w.heap.size) :
    SlT (w.alloc (.cells A t fr)) (some ⟨k, 0, none⟩) n n l := by
  subst hA; subst hk
  refine ⟨hn, Nat.le_refl _, hm, (fun h => by cases h), fun x hx i hi => ?_⟩
  cases hx
  refine ⟨rfl, by simp, ?_⟩
  rw [cell_of_row _ _ _ _ _ _ (heap_alloc_eq w _ _ rfl)]; simp [hi]

/-- append of a slice of strings, whatever it is, onto a slice that is nil or the call's own. -/
theorem wpList_append_texts {w : World} {ops : Array Oper} {rest : List Oper} {o : Oper} {a : Act} {Q : Exit → Act → World → Prop} (hgd : o.guard = none) (s x : Operand)
    (ho : o.op = .call { callee := .builtin .append, args := #[s, x], argTypes := #[66, 66] })
    (base : Nat) (v : Value) (l : List (List UInt8)) (hs : a.eval s = v) (hown : OwnT base w v l) (b : Option Addr) (m c : Nat) (l2 : List (List UInt8)) (hx : a.eval x = .slice b m c) (hsl : SlT w b m c l2)
    (hlen : l.length + m ≤ 1000000000000) (hbase : base ≤ w.heap.size)
    (h : ∀ v' w', OwnT base w' v' (l ++ l2) → w.grownBy w' v.ownBlock → wpList Tryd.prog ops Q rest (a.put o.dst v') w') : wpList Tryd.prog ops Q (o :: rest) a w := by
  obtain ⟨i0, hi, hz0, hz1, hz2⟩ := info_parts infoStr
  cases b with
  | none =>
    obtain ⟨rfl, rfl⟩ := hsl.2.2.2.1 rfl
    obtain rfl : m = 0 := hsl.1.symm
    refine wpList_append_own_none hgd s x 66 ho base 9 i0 1 Tryd.underlying66 hi v l.length _ hs hown hx ?_
    exact h v w (by simpa using hown) ⟨rfl, rfl, rfl, Nat.le_refl _, fun _ _ _ => rfl⟩
  | some ad =>
    have hl2 := hsl.len
    refine wpList_append_own w hgd s x 66 ho base 9 i0 (.string ⟨#[]⟩) 1 16 Tryd.underlying66 hi hz0 hz1 hz2 rfl (by decide) v l.length _ hs hown ad m c (l2.map tv) hx (by simp [hl2]) ?_ ?_ (by unfold maxLen; omega) (by omega) hbase ?_
    · intro j u hj
      have hjl : j < l2.length := by
        have := (List.getElem?_eq_some_iff.1 hj).1; simpa using this
      obtain ⟨hsp, hb, this⟩ := hsl.2.2.2.2 ad rfl j hjl
      have hadd : ad.add j = ⟨ad.block, ad.off + j, none⟩ := by
        obtain ⟨b, o, sp⟩ := ad; simp only at hsp; subst hsp; unfold Addr.add; split <;> simp_all
      rw [hadd, this]; rw [← hj]; simp [hjl]
    · intro u hu
      obtain ⟨b, _, rfl⟩ := List.mem_map.1 hu; rfl
    · intro v' w' h1 h2 _
      refine h v' w' ?_ h2
      unfold OwnT; rw [List.length_append, List.map_append, hl2]; exact h1

end Go.Proofs.YtcmeajaakdaeeaaDoor
