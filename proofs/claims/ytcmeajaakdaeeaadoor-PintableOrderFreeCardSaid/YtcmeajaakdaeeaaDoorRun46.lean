/-
  How an argument of type []api.Pin is opened.
-/
import Derived.Test.YtcmeajaakdaeeaaDoorRun33
import Derived.Test.YtcmeajaakdaeeaaDoorRun45
import Derived.Deep.Slices
namespace Go.Proofs.YtcmeajaakdaeeaaDoor
open Go.RowKit

instance : Inhabited Pin := ⟨Pin.none⟩

section
open Go.ChangeShapes Go.WideShapes Go.ChangeAt
variable {H : Type} {enc : TypeId × Value → H} {P : Program} {w : World} {base : Nat} {spare : Nat → Bool} {held : Bool}
theorem elemP_field {e : TypeId} {fs : Array Field} {n : Nat} {a : Addr} {C : Nat} {cs : List Value} {x : DataW H × List MemPlace} (he : P.underlying e = some (.struct fs)) (hc : w.cells? base a C = some cs) (h : DataW.trod enc P w base spare held n e cs = some x)
    (j : Nat) (f : Field) (hf : fs[j]? = some f) (o : Nat) (ho : f.offset = o) (hoC : o < C) (hk : P.cellsOf f.type = 1) : ∃ (v : Value) (m : Nat) (y : DataW H × List MemPlace), w.cell? (a.add o) = some v ∧ DataW.trod enc P w base spare held m f.type [v] = some y := by
  obtain ⟨_, hlen, hat⟩ := World.cells?_some hc
  obtain ⟨xs, m, _, _, _, hxl, hg⟩ := DataW.trod_struct he h
  have hj : j < fs.size := (Array.getElem?_eq_some_iff.1 hf).1
  have h1 := hg j f hf
  rw [ho, hk, List.getElem?_eq_getElem (by omega)] at h1
  have hol : o < cs.length := by omega
  have h2 : (cs.drop o).take 1 = [cs[o]] := by rw [List.drop_eq_getElem_cons hol]; rfl
  rw [h2] at h1
  exact ⟨cs[o], m, _, by rw [hat o hoC, List.getElem?_eq_getElem hol], h1⟩

theorem elemP_int {e : TypeId} {fs : Array Field} {n : Nat} {a : Addr} {C : Nat} {cs : List Value} {x : DataW H × List MemPlace} (he : P.underlying e = some (.struct fs)) (hc : w.cells? base a C = some cs) (h : DataW.trod enc P w base spare held n e cs = some x)
    (j : Nat) (f : Field) (hf : fs[j]? = some f) (o : Nat) (ho : f.offset = o) (hoC : o < C) (k : IntKind) (hu : P.underlying f.type = some (.int k)) (hk : P.cellsOf f.type = 1) : ∃ z : Int, w.cell? (a.add o) = some (.int k z) ∧ (Lit.int k z).wf = true := by
  obtain ⟨v, m, y, hv, ht⟩ := elemP_field he hc h j f hf o ho hoC hk
  obtain ⟨z, h1, _, h3⟩ := DataW.trod_int hu ht
  exact ⟨z, by rw [hv, List.singleton_inj.1 h1], h3⟩

end

section
open Go.ChangeShapes Go.WideShapes Go.ChangeAt
variable {H : Type} {enc : TypeId × Value → H} {w : World} {base : Nat} {held : Bool}
set_option maxRecDepth 100000 in
theorem open_pins {fuel : Nat} {v : Value} {x : DataW H × List MemPlace} (h : DataW.trod enc Tryd.prog w base (fun _ => true) held fuel 40 [v] = some x) : ∃ a n c l, v = .slice a n c ∧ SlN w a n c l := by
  rcases Go.Deep.open_slice Tryd.underlying40 h with ⟨hcs, _⟩ | ⟨a, len, cap, m, n, D, Pl, hcs, hb, hl, hm, hmm, hx, hi⟩
  · exact ⟨none, 0, 0, [], List.singleton_inj.1 hcs, SlN.nil w⟩
  · have hlm : len ≤ m := by rw [hmm]; split <;> omega
    have hC : Tryd.prog.cellsOf 23 = 3 := by kernel_rfl
    have he := Tryd.underlying23
    have hel : ∀ i, i < len → ∃ q : Pin, ∀ b o, a = ⟨b, o, none⟩ → PinAt w b (o + i * 3) q := by
      intro i hil
      obtain ⟨cs', hc, ht'⟩ := hi i (by omega)
      rw [hC] at hc
      obtain ⟨v0, m0, y0, c0, t0⟩ := elemP_field he hc ht' 0 _ rfl 0 rfl (by omega) (by kernel_rfl)
      obtain ⟨v1, m1, y1, c1, t1⟩ := elemP_field he hc ht' 1 _ rfl 1 rfl (by omega) (by kernel_rfl)
      obtain ⟨z2, c2, w2⟩ := elemP_int he hc ht' 2 _ rfl 2 rfl (by omega) .i64 Tryd.underlying3 (by kernel_rfl)
      obtain ⟨s0, e0, -, -⟩ := DataW.trod_string Tryd.underlying9 t0
      obtain ⟨s1, e1, -⟩ := DataW.trod_bool Tryd.underlying4 t1
      obtain rfl : v0 = .string s0 := List.singleton_inj.1 e0
      obtain rfl : v1 = .bool s1 := List.singleton_inj.1 e1
      refine ⟨⟨s0.data.toList, s1, z2⟩, fun b o hab => ?_⟩
      subst hab
      have hadd : ∀ (p : Nat) j, (⟨b, p, none⟩ : Addr).add j = ⟨b, p + j, none⟩ := by intro p j; unfold Addr.add; split <;> simp_all
      simp only [hadd] at c0 c1 c2
      exact ⟨by simpa [str] using c0, c1, c2⟩
    obtain ⟨p, hp⟩ := Go.Deep.choose_lt (α := Pin) (p := fun i q => ∀ b o, a = ⟨b, o, none⟩ → PinAt w b (o + i * 3) q) hel
    have hspot : 0 < len → a.spot = none := by
      intro hil
      obtain ⟨cs', hc, ht'⟩ := hi 0 (by omega)
      rw [hC] at hc
      obtain ⟨v0, m0, y0, c0, t0⟩ := elemP_field he hc ht' 0 _ rfl 0 rfl (by omega) (by kernel_rfl)
      have h2 := World.cell?_spot c0
      revert h2
      obtain ⟨b, o, sp⟩ := a
      unfold Addr.add; split <;> simp_all
    refine ⟨some a, len, cap, (List.range len).map p, List.singleton_inj.1 hcs, by simp, hl, hm, (fun h => by cases h), fun y hy i hil => ?_⟩
    cases hy
    simp at hil
    have hsp := hspot (by omega)
    obtain ⟨b, o, sp⟩ := a
    simp only at hsp; subst hsp
    have hq := hp i hil b o rfl
    refine ⟨rfl, World.block_lt_of_cell? w ⟨b, o + i * 3, none⟩ hq.1, ?_⟩
    simpa using hq
end

end Go.Proofs.YtcmeajaakdaeeaaDoor
