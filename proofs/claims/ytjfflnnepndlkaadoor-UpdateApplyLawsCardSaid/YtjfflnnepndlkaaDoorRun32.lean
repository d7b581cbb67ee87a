/-
  Texts in one: PinsArg, PinSub, UptArg.
-/
import Derived.Test.YtjfflnnepndlkaaDoorRun25
import Derived.Test.YtjfflnnepndlkaaDoorRun31
import Derived.Deep.Slices
import Derived.Test.YtjfflnnepndlkaaDoorRun26
/-
  How an argument of type []api.Pin is opened.
-/
namespace Go.Proofs.YtjfflnnepndlkaaDoor
open Go.RowKit

instance : Inhabited Pin := ⟨Pin.none⟩

section
open Go.ChangeShapes Go.WideShapes Go.ChangeAt
variable {H : Type} {enc : TypeId × Value → H} {P : Program} {w : World} {base : Nat} {spare : Nat → Bool} {held : Bool}
theorem elemP_field {e : TypeId} {fs : Array Field} {n : Nat} {a : Addr} {C : Nat} {cs : List Value} {x : DataW H × List MemPlace} (he : P.underlying e = some (.struct fs)) (hc : w.cells? base a C = some cs) (h : DataW.trod enc P w base spare held n e cs = some x)
    (j : Nat) (f : Field) (hf : fs[j]? = some f) (o : Nat) (ho : f.offset = o) (hoC : o < C) (hk : P.cellsOf f.type = 1) : ∃ (v : Value) (m : Nat) (y : DataW H × List MemPlace), w.cell? (a.add o) = some v ∧ DataW.trod enc P w base spare held m f.type [v] = some y := by
  obtain ⟨_, hlen, hat⟩ := World.cells?_some hc
  obtain ⟨xs, m, _, _, _, hxl, hg⟩ := DataW.trod_struct he h
  have hj : j < fs.size := (Array.getElem?_eq_some_iff.1 hf).1
  have h1 := hg j f hf
  rw [ho, hk, List.getElem?_eq_getElem (by omega)] at h1
  have hol : o < cs.length := by omega
  have h2 : (cs.drop o).take 1 = [cs[o]] := by rw [List.drop_eq_getElem_cons hol]; rfl
  rw [h2] at h1
  exact ⟨cs[o], m, _, by rw [hat o hoC, List.getElem?_eq_getElem hol], h1⟩

theorem elemP_int {e : TypeId} {fs : Array Field} {n : Nat} {a : Addr} {C : Nat} {cs : List Value} {x : DataW H × List MemPlace} (he : P.underlying e = some (.struct fs)) (hc : w.cells? base a C = some cs) (h : DataW.trod enc P w base spare held n e cs = some x)
    (j : Nat) (f : Field) (hf : fs[j]? = some f) (o : Nat) (ho : f.offset = o) (hoC : o < C) (k : IntKind) (hu : P.underlying f.type = some (.int k)) (hk : P.cellsOf f.type = 1) : ∃ z : Int, w.cell? (a.add o) = some (.int k z) ∧ (Lit.int k z).wf = true := by
  obtain ⟨v, m, y, hv, ht⟩ := elemP_field he hc h j f hf o ho hoC hk
  obtain ⟨z, h1, _, h3⟩ := DataW.trod_int hu ht
  exact ⟨z, by rw [hv, List.singleton_inj.1 h1], h3⟩

end

section
open Go.ChangeShapes Go.WideShapes Go.ChangeAt
variable {H : Type} {enc : TypeId × Value → H} {w : World} {base : Nat} {held : Bool}
set_option maxRecDepth 100000 in
theorem open_pins {fuel : Nat} {v : Value} {x : DataW H × List MemPlace} (h : DataW.trod enc Tryd.prog w base (fun _ => true) held fuel 22 [v] = some x) : ∃ a n c l, v = .slice a n c ∧ SlN w a n c l := by
  rcases Go.Deep.open_slice Tryd.underlying22 h with ⟨hcs, _⟩ | ⟨a, len, cap, m, n, D, Pl, hcs, hb, hl, hm, hmm, hx, hi⟩
  · exact ⟨none, 0, 0, [], List.singleton_inj.1 hcs, SlN.nil w⟩
  · have hlm : len ≤ m := by rw [hmm]; split <;> omega
    have hC : Tryd.prog.cellsOf 26 = 3 := by kernel_rfl
    have he := Tryd.underlying26
    have hel : ∀ i, i < len → ∃ q : Pin, ∀ b o, a = ⟨b, o, none⟩ → PinAt w b (o + i * 3) q := by
      intro i hil
      obtain ⟨cs', hc, ht'⟩ := hi i (by omega)
      rw [hC] at hc
      obtain ⟨v0, m0, y0, c0, t0⟩ := elemP_field he hc ht' 0 _ rfl 0 rfl (by omega) (by kernel_rfl)
      obtain ⟨v1, m1, y1, c1, t1⟩ := elemP_field he hc ht' 1 _ rfl 1 rfl (by omega) (by kernel_rfl)
      obtain ⟨z2, c2, w2⟩ := elemP_int he hc ht' 2 _ rfl 2 rfl (by omega) .i64 Tryd.underlying3 (by kernel_rfl)
      obtain ⟨s0, e0, -, -⟩ := DataW.trod_string Tryd.underlying9 t0
      obtain ⟨s1, e1, -⟩ := DataW.trod_bool Tryd.underlying4 t1
      obtain rfl : v0 = .string s0 := List.singleton_inj.1 e0
      obtain rfl : v1 = .bool s1 := List.singleton_inj.1 e1
      refine ⟨⟨s0.data.toList, s1, z2⟩, fun b o hab => ?_⟩
      subst hab
      have hadd : ∀ (p : Nat) j, (⟨b, p, none⟩ : Addr).add j = ⟨b, p + j, none⟩ := by intro p j; unfold Addr.add; split <;> simp_all
      simp only [hadd] at c0 c1 c2
      exact ⟨by simpa [str] using c0, c1, c2⟩
    obtain ⟨p, hp⟩ := Go.Deep.choose_lt (α := Pin) (p := fun i q => ∀ b o, a = ⟨b, o, none⟩ → PinAt w b (o + i * 3) q) hel
    have hspot : 0 < len → a.spot = none := by
      intro hil
      obtain ⟨cs', hc, ht'⟩ := hi 0 (by omega)
      rw [hC] at hc
      obtain ⟨v0, m0, y0, c0, t0⟩ := elemP_field he hc ht' 0 _ rfl 0 rfl (by omega) (by kernel_rfl)
      have h2 := World.cell?_spot c0
      revert h2
      obtain ⟨b, o, sp⟩ := a
      unfold Addr.add; split <;> simp_all
    refine ⟨some a, len, cap, (List.range len).map p, List.singleton_inj.1 hcs, by simp, hl, hm, (fun h => by cases h), fun y hy i hil => ?_⟩
    cases hy
    simp at hil
    have hsp := hspot (by omega)
    obtain ⟨b, o, sp⟩ := a
    simp only at hsp; subst hsp
    have hq := hp i hil b o rfl
    refine ⟨rfl, World.block_lt_of_cell? w ⟨b, o + i * 3, none⟩ hq.1, ?_⟩
    simpa using hq
end

end Go.Proofs.YtjfflnnepndlkaaDoor

/-
  Fields of one cell, and a pin, inside a structure whose cells are known.
-/
namespace Go.Proofs.YtjfflnnepndlkaaDoor
open Go.RowKit

section
open Go.ChangeShapes Go.WideShapes Go.ChangeAt
variable {H : Type} {enc : TypeId × Value → H} {P : Program} {w : World} {base : Nat} {spare : Nat → Bool} {held : Bool}
/-- A field that is itself a structure. -/
theorem elemP_sub {e : TypeId} {fs : Array Field} {n : Nat} {a : Addr} {C : Nat} {cs : List Value} {x : DataW H × List MemPlace} (he : P.underlying e = some (.struct fs)) (hc : w.cells? base a C = some cs) (h : DataW.trod enc P w base spare held n e cs = some x)
    (j : Nat) (f : Field) (hf : fs[j]? = some f) (o K : Nat) (ho : f.offset = o) (hk : P.cellsOf f.type = K) (hoC : o + K ≤ C) :
    ∃ (qs : List Value) (m : Nat) (y : DataW H × List MemPlace), qs.length = K ∧ (∀ k v, qs[k]? = some v → w.cell? (a.add (o + k)) = some v) ∧ DataW.trod enc P w base spare held m f.type qs = some y := by
  obtain ⟨_, hlen, hat⟩ := World.cells?_some hc
  obtain ⟨xs, m, _, _, _, hxl, hg⟩ := DataW.trod_struct he h
  have hj : j < fs.size := (Array.getElem?_eq_some_iff.1 hf).1
  have h1 := hg j f hf
  rw [ho, hk, List.getElem?_eq_getElem (by omega)] at h1
  refine ⟨(cs.drop o).take K, m, _, by rw [List.length_take, List.length_drop]; omega, fun k v hv => ?_, h1⟩
  have hkK : k < K := by have := (List.getElem?_eq_some_iff.1 hv).1; rw [List.length_take] at this; omega
  rw [List.getElem?_take_of_lt hkK, List.getElem?_drop] at hv
  rw [hat (o + k) (by omega), hv]
/-- A field of one cell of a structure whose cells are known. -/
theorem subP_field {e : TypeId} {fs : Array Field} {n : Nat} {qs : List Value} {x : DataW H × List MemPlace} (he : P.underlying e = some (.struct fs)) (h : DataW.trod enc P w base spare held n e qs = some x)
    (j : Nat) (f : Field) (hf : fs[j]? = some f) (o : Nat) (ho : f.offset = o) (hol : o < qs.length) (hk : P.cellsOf f.type = 1) : ∃ (v : Value) (m : Nat) (y : DataW H × List MemPlace), qs[o]? = some v ∧ DataW.trod enc P w base spare held m f.type [v] = some y := by
  obtain ⟨xs, m, _, _, _, hxl, hg⟩ := DataW.trod_struct he h
  have hj : j < fs.size := (Array.getElem?_eq_some_iff.1 hf).1
  have h1 := hg j f hf
  rw [ho, hk, List.getElem?_eq_getElem (by omega)] at h1
  have h2 : (qs.drop o).take 1 = [qs[o]] := by rw [List.drop_eq_getElem_cons hol]; rfl
  rw [h2] at h1
  exact ⟨qs[o], m, _, List.getElem?_eq_getElem hol, h1⟩
end

section
open Go.ChangeShapes Go.WideShapes Go.ChangeAt
variable {H : Type} {enc : TypeId × Value → H} {w : World} {base : Nat} {held : Bool}
/-- The cells of a pin. -/
theorem open_pin_cells {fuel : Nat} {qs : List Value} {x : DataW H × List MemPlace} (hl : qs.length = 3) (h : DataW.trod enc Tryd.prog w base (fun _ => true) held fuel 26 qs = some x) : ∃ q : Pin, qs[0]? = some (.string (str q.h)) ∧ qs[1]? = some (.bool q.s) ∧ qs[2]? = some (.int .i64 q.x) := by
  have he := Tryd.underlying26
  obtain ⟨v0, m0, y0, c0, t0⟩ := subP_field he h 0 _ rfl 0 rfl (by omega) (by kernel_rfl)
  obtain ⟨v1, m1, y1, c1, t1⟩ := subP_field he h 1 _ rfl 1 rfl (by omega) (by kernel_rfl)
  obtain ⟨v2, m2, y2, c2, t2⟩ := subP_field he h 2 _ rfl 2 rfl (by omega) (by kernel_rfl)
  obtain ⟨s0, e0, -, -⟩ := DataW.trod_string Tryd.underlying9 t0
  obtain ⟨s1, e1, -⟩ := DataW.trod_bool Tryd.underlying4 t1
  obtain ⟨z2, e2, -, -⟩ := DataW.trod_int Tryd.underlying3 t2
  obtain rfl : v0 = .string s0 := List.singleton_inj.1 e0
  obtain rfl : v1 = .bool s1 := List.singleton_inj.1 e1
  obtain rfl : v2 = .int .i64 z2 := List.singleton_inj.1 e2
  exact ⟨⟨s0.data.toList, s1, z2⟩, by simpa [str] using c0, c1, c2⟩
end

end Go.Proofs.YtjfflnnepndlkaaDoor

/-
  How arguments of type api.Update and api.State are opened.
-/
namespace Go.Proofs.YtjfflnnepndlkaaDoor
open Go.RowKit

section
open Go.ChangeShapes Go.WideShapes Go.ChangeAt
variable {H : Type} {enc : TypeId × Value → H} {w : World} {base : Nat} {held : Bool}

set_option maxRecDepth 100000 in
theorem open_upd {r : Reach} {b0 : Nat} {v : Value} {d : DataW H} {p : List MemPlace} (hv : Value.okWide Tryd.prog w r b0 28 v) (h : DataW.Trod enc Tryd.prog w base (fun _ => true) held 28 v d p) :
    ∃ u : UpdV, v = uv u := by
  obtain ⟨cs, rfl, hsz⟩ := okWide_struct Tryd.underlying28 hv
  obtain ⟨fuel, hf⟩ := h
  obtain ⟨xs, n, _, hx, hcl, hlen, hg⟩ := DataW.trod_struct Tryd.underlying28 hf
  have h2 : cs.size = 4 := hsz.trans (by kernel_rfl)
  obtain ⟨l⟩ := cs
  match l, h2 with
  | [c0, c1, c2, c3], _ =>
    obtain ⟨m0, e0, -⟩ := fieldPI hg hlen 0 _ rfl .i64 (by kernel_rfl) 0 rfl (by kernel_rfl)
    have hj : 1 < xs.length := by rw [hlen]; decide
    have h1 := hg 1 _ rfl
    rw [List.getElem?_eq_getElem hj] at h1
    obtain ⟨q, q0, q1, q2⟩ := open_pin_cells (by kernel_rfl) h1
    have f0 : c0 = .int .i64 m0 := Option.some.inj e0
    have f1 : c1 = .string (str q.h) := Option.some.inj q0
    have f2 : c2 = .bool q.s := Option.some.inj q1
    have f3 : c3 = .int .i64 q.x := Option.some.inj q2
    subst f0; subst f1; subst f2; subst f3
    exact ⟨⟨m0, q⟩, rfl⟩

set_option maxRecDepth 100000 in
theorem open_state {r : Reach} {b0 : Nat} {v : Value} {d : DataW H} {p : List MemPlace} (hv : Value.okWide Tryd.prog w r b0 24 v) (h : DataW.Trod enc Tryd.prog w base (fun _ => true) held 24 v d p) :
    ∃ (x : Int) (a : Option Addr) (n c : Nat) (l : List Pin), v = .agg #[.int .i64 x, .slice a n c] ∧ SlN w a n c l := by
  obtain ⟨cs, rfl, hsz⟩ := okWide_struct Tryd.underlying24 hv
  obtain ⟨fuel, hf⟩ := h
  obtain ⟨xs, n, _, hx, hcl, hlen, hg⟩ := DataW.trod_struct Tryd.underlying24 hf
  have h2 : cs.size = 2 := hsz.trans (by kernel_rfl)
  obtain ⟨l⟩ := cs
  match l, h2 with
  | [c0, c1], _ =>
    obtain ⟨m0, e0, -⟩ := fieldPI hg hlen 0 _ rfl .i64 (by kernel_rfl) 0 rfl (by kernel_rfl)
    have hj : 1 < xs.length := by rw [hlen]; decide
    have h1 := hg 1 _ rfl
    rw [List.getElem?_eq_getElem hj] at h1
    obtain ⟨a, k, c, l, hc, hl⟩ := open_pins (v := c1) h1
    have f0 : c0 = .int .i64 m0 := Option.some.inj e0
    subst f0; subst hc
    exact ⟨m0, a, k, c, l, rfl, hl⟩

end

end Go.Proofs.YtjfflnnepndlkaaDoor
