/-
  Scripts of law 06: slices of operations, and how such an argument is opened.
-/
import Derived.Test.YtedmnbmfbgenjaaOps5
namespace Go.Proofs.Ytedmnbmfbgenjaa
open Go.RowKit

section
open Go.ChangeShapes Go.WideShapes Go.ChangeAt
variable {H : Type} {enc : TypeId × Value → H} {P : Program} {w : World} {base : Nat} {spare : Nat → Bool} {held : Bool}
/-- An int of a struct that is a field of a struct in memory. -/
theorem elem_sub {e : TypeId} {fs : Array Field} {n : Nat} {a : Addr} {C : Nat} {cs : List Value} {x : DataW H × List MemPlace} (he : P.underlying e = some (.struct fs)) (hc : w.cells? base a C = some cs) (h : DataW.trod enc P w base spare held n e cs = some x)
    (j : Nat) (f : Field) (hf : fs[j]? = some f) (o c2 : Nat) (ho : f.offset = o) (hoC : o + c2 ≤ C) (hk : P.cellsOf f.type = c2) {fs2 : Array Field} (he2 : P.underlying f.type = some (.struct fs2)) (j2 : Nat) (f2 : Field) (hf2 : fs2[j2]? = some f2) (o2 : Nat) (ho2 : f2.offset = o2) (ho3 : o2 < c2)
    (k : IntKind) (hu : P.underlying f2.type = some (.int k)) (hk2 : P.cellsOf f2.type = 1) : ∃ z : Int, w.cell? (a.add (o + o2)) = some (.int k z) ∧ (Lit.int k z).wf = true := by
  obtain ⟨_, hlen, hat⟩ := World.cells?_some hc
  obtain ⟨xs, m, _, _, _, hxl, hg⟩ := DataW.trod_struct he h
  have hj : j < fs.size := (Array.getElem?_eq_some_iff.1 hf).1
  have h1 := hg j f hf
  rw [ho, hk, List.getElem?_eq_getElem (by omega)] at h1
  obtain ⟨ys, m2, _, _, _, hyl, hg2⟩ := DataW.trod_struct he2 h1
  have hj2 : j2 < fs2.size := (Array.getElem?_eq_some_iff.1 hf2).1
  have h2 := hg2 j2 f2 hf2
  rw [ho2, hk2, List.getElem?_eq_getElem (by omega)] at h2
  have hol : o + o2 < cs.length := by omega
  have h3 : (((cs.drop o).take c2).drop o2).take 1 = [cs[o + o2]] := by
    rw [List.drop_take, List.drop_drop, List.take_take, Nat.min_eq_left (by omega), List.drop_eq_getElem_cons hol]; rfl
  rw [h3] at h2
  obtain ⟨z, h4, _, h5⟩ := DataW.trod_int hu h2
  exact ⟨z, by rw [hat _ (by omega), List.getElem?_eq_getElem hol, List.singleton_inj.1 h4], h5⟩
end

/-- An operation of a script. -/
structure O6 where
  kind : Int
  fst : Int
  cnt : Int
  off : Int
  num : Int
  data : List UInt8
  fs : List (Int × Int)
  ks : List (Int × Int)
instance : Inhabited O6 := ⟨⟨0, 0, 0, 0, 0, [], [], []⟩⟩

/-- The cells of an operation at an address. -/
def IsO6 (w : World) (b o : Nat) (x : O6) : Prop :=
  (i64b x.kind ∧ i64b x.fst ∧ i64b x.cnt ∧ i64b x.off ∧ i64b x.num) ∧ (w.cell? ⟨b, o, none⟩ = some (.int .i64 x.kind) ∧ w.cell? ⟨b, o + 1, none⟩ = some (.int .i64 x.fst) ∧ w.cell? ⟨b, o + 2, none⟩ = some (.int .i64 x.cnt) ∧ w.cell? ⟨b, o + 3, none⟩ = some (.int .i64 x.off) ∧ w.cell? ⟨b, o + 4, none⟩ = some (.int .i64 x.num)) ∧ (∃ p m d, w.cell? ⟨b, o + 5, none⟩ = some (.slice p m d) ∧ SlB w p m d x.data) ∧
    (∃ p m d, w.cell? ⟨b, o + 6, none⟩ = some (.slice p m d) ∧ SlP w p m d x.fs) ∧ (∃ p m d, w.cell? ⟨b, o + 7, none⟩ = some (.slice p m d) ∧ SlP w p m d x.ks)
theorem IsO6.ext {w w' : World} {b o : Nat} {x : O6} (h : IsO6 w b o x) (hb : b < w.heap.size) (e : Below w.heap.size w w') : IsO6 w' b o x := by
  obtain ⟨h1, ⟨c0, c1, c2, c3, c4⟩, ⟨p, m, d, h5, h6⟩, ⟨p1, m1, d1, h7, h8⟩, ⟨p2, m2, d2, h9, h10⟩⟩ := h
  exact ⟨h1, ⟨(e.cell (p := ⟨b, o, none⟩) hb).trans c0, (e.cell (p := ⟨b, o + 1, none⟩) hb).trans c1, (e.cell (p := ⟨b, o + 2, none⟩) hb).trans c2, (e.cell (p := ⟨b, o + 3, none⟩) hb).trans c3, (e.cell (p := ⟨b, o + 4, none⟩) hb).trans c4⟩, ⟨p, m, d, (e.cell (p := ⟨b, o + 5, none⟩) hb).trans h5, h6.ext e⟩, ⟨p1, m1, d1, (e.cell (p := ⟨b, o + 6, none⟩) hb).trans h7, h8.ext e⟩,
    ⟨p2, m2, d2, (e.cell (p := ⟨b, o + 7, none⟩) hb).trans h9, h10.ext e⟩⟩

/-- The slice reads as the operations. -/
def SlO6 (w : World) (a : Option Addr) (n c : Nat) (l : List O6) : Prop :=
  l.length = n ∧ n ≤ c ∧ c ≤ maxLen ∧ (a = none → l = [] ∧ c = 0) ∧
    ∀ x, a = some x → ∀ i (h : i < l.length), x.spot = none ∧ x.block < w.heap.size ∧ IsO6 w x.block (x.off + i * 8) l[i]
theorem SlO6.len {w : World} {a : Option Addr} {n c : Nat} {l : List O6} (h : SlO6 w a n c l) : l.length = n := h.1
theorem SlO6.le {w : World} {a : Option Addr} {n c : Nat} {l : List O6} (h : SlO6 w a n c l) : n ≤ 9223372036854775807 := by
  have := h.2.1; have := h.2.2.1; unfold maxLen at *; omega
theorem SlO6.nil (w : World) : SlO6 w none 0 0 [] := ⟨rfl, Nat.le_refl _, by unfold maxLen; omega, fun _ => ⟨rfl, rfl⟩, fun x hx => by cases hx⟩
theorem SlO6.at {w : World} {a : Option Addr} {n c : Nat} {l : List O6} (h : SlO6 w a n c l) {k : Nat} (hk : k < n) : ∃ b o x, a = some ⟨b, o, none⟩ ∧ b < w.heap.size ∧ l[k]? = some x ∧ IsO6 w b (o + k * 8) x := by
  obtain ⟨hl, hn, hc, h0, h1⟩ := h
  cases a with
  | none => have := (h0 rfl).1; subst this; simp at hl; omega
  | some x =>
    obtain ⟨b, o, sp⟩ := x
    have hk' : k < l.length := by omega
    obtain ⟨hs, hb, hq⟩ := h1 _ rfl k hk'
    simp only at hs; subst hs
    exact ⟨b, o, l[k], rfl, hb, List.getElem?_eq_getElem hk', hq⟩
theorem SlO6.ext {w w' : World} {a : Option Addr} {n c : Nat} {l : List O6} (h : SlO6 w a n c l) (e : Below w.heap.size w w') : SlO6 w' a n c l := by
  obtain ⟨hl, hn, hc, h0, h1⟩ := h
  refine ⟨hl, hn, hc, h0, fun x hx i hi => ?_⟩
  obtain ⟨hs, hb, hq⟩ := h1 x hx i hi
  exact ⟨hs, Nat.lt_of_lt_of_le hb e.size, hq.ext hb e⟩

section
open Go.ChangeShapes Go.WideShapes Go.ChangeAt
variable {H : Type} {enc : TypeId × Value → H} {w : World} {base : Nat} {held : Bool}
set_option maxRecDepth 100000 in
theorem open_ops6 {fuel : Nat} {v : Value} {x : DataW H × List MemPlace} (h : DataW.trod enc Try.prog w base (fun _ => true) held fuel 79 [v] = some x) : ∃ a n c l, v = .slice a n c ∧ SlO6 w a n c l := by
  rcases Go.Deep.open_slice Try.underlying79 h with ⟨hcs, _⟩ | ⟨a, len, cap, m, n, D, Pl, hcs, hb, hl, hm, hmm, hx, hi⟩
  · exact ⟨none, 0, 0, [], List.singleton_inj.1 hcs, SlO6.nil w⟩
  · have hlm : len ≤ m := by rw [hmm]; split <;> omega
    have hC : Try.prog.cellsOf 82 = 8 := by kernel_rfl
    have he := Try.underlying82
    have hel : ∀ i, i < len → ∃ q : O6, ∀ b o, a = ⟨b, o, none⟩ → IsO6 w b (o + i * 8) q := by
      intro i hil
      obtain ⟨cs', hc, ht'⟩ := hi i (by omega)
      rw [hC] at hc
      obtain ⟨z0, c0, w0⟩ := elem_int he hc ht' 0 _ rfl 0 rfl (by omega) .i64 Try.underlying3 (by kernel_rfl)
      obtain ⟨z1, c1, w1⟩ := elem_sub he hc ht' 1 _ rfl 1 2 rfl (by omega) (by kernel_rfl) Try.underlying41 0 _ rfl 0 rfl (by omega) .i64 Try.underlying3 (by kernel_rfl)
      obtain ⟨z2, c2, w2⟩ := elem_sub he hc ht' 1 _ rfl 1 2 rfl (by omega) (by kernel_rfl) Try.underlying41 1 _ rfl 1 rfl (by omega) .i64 Try.underlying3 (by kernel_rfl)
      obtain ⟨z3, c3, w3⟩ := elem_int he hc ht' 2 _ rfl 3 rfl (by omega) .i64 Try.underlying3 (by kernel_rfl)
      obtain ⟨z4, c4, w4⟩ := elem_int he hc ht' 3 _ rfl 4 rfl (by omega) .i64 Try.underlying3 (by kernel_rfl)
      obtain ⟨v5, m5, y5, c5, t5⟩ := elem_field he hc ht' 4 _ rfl 5 rfl (by omega) (by kernel_rfl)
      obtain ⟨v6, m6, y6, c6, t6⟩ := elem_field he hc ht' 5 _ rfl 6 rfl (by omega) (by kernel_rfl)
      obtain ⟨v7, m7, y7, c7, t7⟩ := elem_field he hc ht' 6 _ rfl 7 rfl (by omega) (by kernel_rfl)
      obtain ⟨p5, n5, d5, l5, rfl, s5⟩ := open_bytes Try.underlying26 Try.underlying5 (by kernel_rfl) t5
      obtain ⟨p6, n6, d6, l6, rfl, s6⟩ := open_faults t6
      obtain ⟨p7, n7, d7, l7, rfl, s7⟩ := open_keeps t7
      refine ⟨⟨z0, z1, z2, z3, z4, l5, l6, l7⟩, fun b o hab => ?_⟩
      subst hab
      have hadd : ∀ (p : Nat) j, (⟨b, p, none⟩ : Addr).add j = ⟨b, p + j, none⟩ := by intro p j; unfold Addr.add; split <;> simp_all
      simp only [hadd] at c0 c1 c2 c3 c4 c5 c6 c7
      exact ⟨⟨i64b_of w0, i64b_of w1, i64b_of w2, i64b_of w3, i64b_of w4⟩, ⟨c0, c1, c2, c3, c4⟩, ⟨_, _, _, c5, s5⟩, ⟨_, _, _, c6, s6⟩, ⟨_, _, _, c7, s7⟩⟩
    obtain ⟨p, hp⟩ := Go.Deep.choose_lt (α := O6) (p := fun i q => ∀ b o, a = ⟨b, o, none⟩ → IsO6 w b (o + i * 8) q) hel
    have hspot : 0 < len → a.spot = none := by
      intro hil
      obtain ⟨cs', hc, ht'⟩ := hi 0 (by omega)
      rw [hC] at hc
      obtain ⟨z0, c0, _⟩ := elem_int he hc ht' 0 _ rfl 0 rfl (by omega) .i64 Try.underlying3 (by kernel_rfl)
      have h2 := World.cell?_spot c0
      revert h2
      obtain ⟨b, o, sp⟩ := a
      unfold Addr.add; split <;> simp_all
    refine ⟨some a, len, cap, (List.range len).map p, List.singleton_inj.1 hcs, by simp, hl, hm, (fun h => by cases h), fun y hy i hil => ?_⟩
    cases hy
    simp at hil
    have hsp := hspot (by omega)
    obtain ⟨b, o, sp⟩ := a
    simp only at hsp; subst hsp
    have hq := hp i hil b o rfl
    refine ⟨rfl, World.block_lt_of_cell? w ⟨b, o + i * 8, none⟩ hq.2.1.1, ?_⟩
    simpa using hq
end

end Go.Proofs.Ytedmnbmfbgenjaa
