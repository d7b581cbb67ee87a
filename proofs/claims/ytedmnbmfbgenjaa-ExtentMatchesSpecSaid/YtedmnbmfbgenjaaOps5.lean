/-
  Scripts of law 05: slices of operations, and how such an argument is opened.
-/
import Derived.Test.YtedmnbmfbgenjaaOpen
import Derived.Test.YtedmnbmfbgenjaaKeep
namespace Go.Proofs.Ytedmnbmfbgenjaa
open Go.RowKit

/-- An operation of a script. -/
structure O5 where
  kind : Int
  sec : Int
  data : List UInt8
  fs : List (Int × Int)
  ks : List (Int × Int)
instance : Inhabited O5 := ⟨⟨0, 0, [], [], []⟩⟩

def i64b (z : Int) : Prop := -9223372036854775808 ≤ z ∧ z ≤ 9223372036854775807
theorem i64b_of {z : Int} (h : (Lit.int .i64 z).wf = true) : i64b z := by
  simp [Lit.wf, IntKind.min, IntKind.max, IntKind.signed, IntKind.bits] at h
  exact ⟨by omega, by omega⟩

/-- The cells of an operation at an address. -/
def IsO5 (w : World) (b o : Nat) (x : O5) : Prop :=
  i64b x.kind ∧ i64b x.sec ∧ w.cell? ⟨b, o, none⟩ = some (.int .i64 x.kind) ∧ w.cell? ⟨b, o + 1, none⟩ = some (.int .i64 x.sec) ∧ (∃ p m d, w.cell? ⟨b, o + 2, none⟩ = some (.slice p m d) ∧ SlB w p m d x.data) ∧
    (∃ p m d, w.cell? ⟨b, o + 3, none⟩ = some (.slice p m d) ∧ SlP w p m d x.fs) ∧ (∃ p m d, w.cell? ⟨b, o + 4, none⟩ = some (.slice p m d) ∧ SlP w p m d x.ks)
theorem IsO5.ext {w w' : World} {b o : Nat} {x : O5} (h : IsO5 w b o x) (hb : b < w.heap.size) (e : Below w.heap.size w w') : IsO5 w' b o x := by
  obtain ⟨h1, h2, h3, h4, ⟨p, m, d, h5, h6⟩, ⟨p1, m1, d1, h7, h8⟩, ⟨p2, m2, d2, h9, h10⟩⟩ := h
  exact ⟨h1, h2, (e.cell (p := ⟨b, o, none⟩) hb).trans h3, (e.cell (p := ⟨b, o + 1, none⟩) hb).trans h4, ⟨p, m, d, (e.cell (p := ⟨b, o + 2, none⟩) hb).trans h5, h6.ext e⟩, ⟨p1, m1, d1, (e.cell (p := ⟨b, o + 3, none⟩) hb).trans h7, h8.ext e⟩,
    ⟨p2, m2, d2, (e.cell (p := ⟨b, o + 4, none⟩) hb).trans h9, h10.ext e⟩⟩

/-- The slice reads as the operations. -/
def SlO (w : World) (a : Option Addr) (n c : Nat) (l : List O5) : Prop :=
  l.length = n ∧ n ≤ c ∧ c ≤ maxLen ∧ (a = none → l = [] ∧ c = 0) ∧
    ∀ x, a = some x → ∀ i (h : i < l.length), x.spot = none ∧ x.block < w.heap.size ∧ IsO5 w x.block (x.off + i * 5) l[i]
theorem SlO.len {w : World} {a : Option Addr} {n c : Nat} {l : List O5} (h : SlO w a n c l) : l.length = n := h.1
theorem SlO.le {w : World} {a : Option Addr} {n c : Nat} {l : List O5} (h : SlO w a n c l) : n ≤ 9223372036854775807 := by
  have := h.2.1; have := h.2.2.1; unfold maxLen at *; omega
theorem SlO.nil (w : World) : SlO w none 0 0 [] := ⟨rfl, Nat.le_refl _, by unfold maxLen; omega, fun _ => ⟨rfl, rfl⟩, fun x hx => by cases hx⟩
theorem SlO.at {w : World} {a : Option Addr} {n c : Nat} {l : List O5} (h : SlO w a n c l) {k : Nat} (hk : k < n) : ∃ b o x, a = some ⟨b, o, none⟩ ∧ b < w.heap.size ∧ l[k]? = some x ∧ IsO5 w b (o + k * 5) x := by
  obtain ⟨hl, hn, hc, h0, h1⟩ := h
  cases a with
  | none => have := (h0 rfl).1; subst this; simp at hl; omega
  | some x =>
    obtain ⟨b, o, sp⟩ := x
    have hk' : k < l.length := by omega
    obtain ⟨hs, hb, hq⟩ := h1 _ rfl k hk'
    simp only at hs; subst hs
    exact ⟨b, o, l[k], rfl, hb, List.getElem?_eq_getElem hk', hq⟩
theorem SlO.ext {w w' : World} {a : Option Addr} {n c : Nat} {l : List O5} (h : SlO w a n c l) (e : Below w.heap.size w w') : SlO w' a n c l := by
  obtain ⟨hl, hn, hc, h0, h1⟩ := h
  refine ⟨hl, hn, hc, h0, fun x hx i hi => ?_⟩
  obtain ⟨hs, hb, hq⟩ := h1 x hx i hi
  exact ⟨hs, Nat.lt_of_lt_of_le hb e.size, hq.ext hb e⟩

section
open Go.ChangeShapes Go.WideShapes Go.ChangeAt
variable {H : Type} {enc : TypeId × Value → H} {w : World} {base : Nat} {held : Bool}
set_option maxRecDepth 100000 in
theorem open_ops5 {fuel : Nat} {v : Value} {x : DataW H × List MemPlace} (h : DataW.trod enc Try.prog w base (fun _ => true) held fuel 48 [v] = some x) : ∃ a n c l, v = .slice a n c ∧ SlO w a n c l := by
  rcases Go.Deep.open_slice Try.underlying48 h with ⟨hcs, _⟩ | ⟨a, len, cap, m, n, D, Pl, hcs, hb, hl, hm, hmm, hx, hi⟩
  · exact ⟨none, 0, 0, [], List.singleton_inj.1 hcs, SlO.nil w⟩
  · have hlm : len ≤ m := by rw [hmm]; split <;> omega
    have hC : Try.prog.cellsOf 56 = 5 := by kernel_rfl
    have he := Try.underlying56
    have hel : ∀ i, i < len → ∃ q : O5, ∀ b o, a = ⟨b, o, none⟩ → IsO5 w b (o + i * 5) q := by
      intro i hil
      obtain ⟨cs', hc, ht'⟩ := hi i (by omega)
      rw [hC] at hc
      obtain ⟨z0, c0, w0⟩ := elem_int he hc ht' 0 _ rfl 0 rfl (by omega) .i64 Try.underlying3 (by kernel_rfl)
      obtain ⟨z1, c1, w1⟩ := elem_int he hc ht' 1 _ rfl 1 rfl (by omega) .i64 Try.underlying3 (by kernel_rfl)
      obtain ⟨v2, m2, y2, c2, t2⟩ := elem_field he hc ht' 2 _ rfl 2 rfl (by omega) (by kernel_rfl)
      obtain ⟨v3, m3, y3, c3, t3⟩ := elem_field he hc ht' 3 _ rfl 3 rfl (by omega) (by kernel_rfl)
      obtain ⟨v4, m4, y4, c4, t4⟩ := elem_field he hc ht' 4 _ rfl 4 rfl (by omega) (by kernel_rfl)
      obtain ⟨p2, n2, d2, l2, rfl, s2⟩ := open_bytes Try.underlying26 Try.underlying5 (by kernel_rfl) t2
      obtain ⟨p3, n3, d3, l3, rfl, s3⟩ := open_faults t3
      obtain ⟨p4, n4, d4, l4, rfl, s4⟩ := open_keeps t4
      refine ⟨⟨z0, z1, l2, l3, l4⟩, fun b o hab => ?_⟩
      subst hab
      have hadd : ∀ (p : Nat) j, (⟨b, p, none⟩ : Addr).add j = ⟨b, p + j, none⟩ := by intro p j; unfold Addr.add; split <;> simp_all
      simp only [hadd] at c0 c1 c2 c3 c4
      exact ⟨i64b_of w0, i64b_of w1, c0, c1, ⟨_, _, _, c2, s2⟩, ⟨_, _, _, c3, s3⟩, ⟨_, _, _, c4, s4⟩⟩
    obtain ⟨p, hp⟩ := Go.Deep.choose_lt (α := O5) (p := fun i q => ∀ b o, a = ⟨b, o, none⟩ → IsO5 w b (o + i * 5) q) hel
    have hspot : 0 < len → a.spot = none := by
      intro hil
      obtain ⟨cs', hc, ht'⟩ := hi 0 (by omega)
      rw [hC] at hc
      obtain ⟨z0, c0, _⟩ := elem_int he hc ht' 0 _ rfl 0 rfl (by omega) .i64 Try.underlying3 (by kernel_rfl)
      have h2 := World.cell?_spot c0
      revert h2
      obtain ⟨b, o, sp⟩ := a
      unfold Addr.add; split <;> simp_all
    refine ⟨some a, len, cap, (List.range len).map p, List.singleton_inj.1 hcs, by simp, hl, hm, (fun h => by cases h), fun y hy i hil => ?_⟩
    cases hy
    simp at hil
    have hsp := hspot (by omega)
    obtain ⟨b, o, sp⟩ := a
    simp only at hsp; subst hsp
    have hq := hp i hil b o rfl
    refine ⟨rfl, World.block_lt_of_cell? w ⟨b, o + i * 5, none⟩ hq.2.2.1, ?_⟩
    simpa using hq
end

end Go.Proofs.Ytedmnbmfbgenjaa
