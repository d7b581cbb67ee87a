/-
  How slices of pairs of ints and slices of bytes, lying in whatever place, are opened.
-/
import Derived.Test.YtabeelcidlhniaaGreatUpd
import Derived.Deep.Slices
import Derived.ProofKit
import Derived.OpenShut
import Derived.ShutString
import Derived.ChangeOld
namespace Go.Proofs.YtabeelcidlhniaaGreat
open Go.ChangeShapes Go.WideShapes Go.ChangeAt Go.RowKit

section
variable {H : Type} {enc : TypeId × Value → H} {P : Program} {w : World} {base : Nat} {spare : Nat → Bool} {held : Bool}

/-- One field of one cell of a struct that lies in memory. -/
theorem elem_field {e : TypeId} {fs : Array Field} {n : Nat} {a : Addr} {C : Nat} {cs : List Value} {x : DataW H × List MemPlace} (he : P.underlying e = some (.struct fs)) (hc : w.cells? base a C = some cs) (h : DataW.trod enc P w base spare held n e cs = some x)
    (j : Nat) (f : Field) (hf : fs[j]? = some f) (o : Nat) (ho : f.offset = o) (hoC : o < C) (hk : P.cellsOf f.type = 1) : ∃ (v : Value) (m : Nat) (y : DataW H × List MemPlace), w.cell? (a.add o) = some v ∧ DataW.trod enc P w base spare held m f.type [v] = some y := by
  obtain ⟨_, hlen, hat⟩ := World.cells?_some hc
  obtain ⟨xs, m, _, _, _, hxl, hg⟩ := DataW.trod_struct he h
  have hj : j < fs.size := (Array.getElem?_eq_some_iff.1 hf).1
  have h1 := hg j f hf
  rw [ho, hk, List.getElem?_eq_getElem (by omega)] at h1
  have hol : o < cs.length := by omega
  have h2 : (cs.drop o).take 1 = [cs[o]] := by rw [List.drop_eq_getElem_cons hol]; rfl
  rw [h2] at h1
  exact ⟨cs[o], m, _, by rw [hat o hoC, List.getElem?_eq_getElem hol], h1⟩

theorem elem_int {e : TypeId} {fs : Array Field} {n : Nat} {a : Addr} {C : Nat} {cs : List Value} {x : DataW H × List MemPlace} (he : P.underlying e = some (.struct fs)) (hc : w.cells? base a C = some cs) (h : DataW.trod enc P w base spare held n e cs = some x)
    (j : Nat) (f : Field) (hf : fs[j]? = some f) (o : Nat) (ho : f.offset = o) (hoC : o < C) (k : IntKind) (hu : P.underlying f.type = some (.int k)) (hk : P.cellsOf f.type = 1) : ∃ z : Int, w.cell? (a.add o) = some (.int k z) ∧ (Lit.int k z).wf = true := by
  obtain ⟨v, m, y, hv, ht⟩ := elem_field he hc h j f hf o ho hoC hk
  obtain ⟨z, h1, _, h3⟩ := DataW.trod_int hu ht
  exact ⟨z, by rw [hv, List.singleton_inj.1 h1], h3⟩

/-- A slice of pairs of ints. -/
theorem open_pairs {t e : TypeId} {f0 f1 : Field} {fuel : Nat} {v : Value} {x : DataW H × List MemPlace} (ht : P.underlying t = some (.slice e)) (he : P.underlying e = some (.struct #[f0, f1])) (hC : P.cellsOf e = 2)
    (u0 : P.underlying f0.type = some (.int .i64)) (u1 : P.underlying f1.type = some (.int .i64)) (k0 : P.cellsOf f0.type = 1) (k1 : P.cellsOf f1.type = 1) (o0 : f0.offset = 0) (o1 : f1.offset = 1)
    (h : DataW.trod enc P w base spare held fuel t [v] = some x) : ∃ a n c l, v = .slice a n c ∧ SlP w a n c l := by
  rcases Go.Deep.open_slice ht h with ⟨hcs, _⟩ | ⟨a, len, cap, m, n, D, Pl, hcs, hb, hl, hm, hmm, hx, hi⟩
  · exact ⟨none, 0, 0, [], List.singleton_inj.1 hcs, SlP.nil w⟩
  · have hlm : len ≤ m := by rw [hmm]; split <;> omega
    have hel : ∀ i, i < len → ∃ p : Int × Int, w.cell? (a.add (i * 2)) = some (.int .i64 p.1) ∧ w.cell? (a.add (i * 2 + 1)) = some (.int .i64 p.2) := by
      intro i hil
      obtain ⟨cs', hc, ht'⟩ := hi i (by omega)
      rw [hC] at hc
      obtain ⟨z0, c0, _⟩ := elem_int he hc ht' 0 f0 rfl 0 o0 (by omega) .i64 u0 k0
      obtain ⟨z1, c1, _⟩ := elem_int he hc ht' 1 f1 rfl 1 o1 (by omega) .i64 u1 k1
      rw [Go.Deep.add_add] at c0 c1
      exact ⟨(z0, z1), c0, c1⟩
    obtain ⟨p, hp⟩ := Go.Deep.choose_lt (α := Int × Int) (p := fun i p => w.cell? (a.add (i * 2)) = some (.int .i64 p.1) ∧ w.cell? (a.add (i * 2 + 1)) = some (.int .i64 p.2)) hel
    refine ⟨some a, len, cap, (List.range len).map p, List.singleton_inj.1 hcs, by simp, hl, hm, (fun h => by cases h), fun y hy i hil => ?_⟩
    cases hy
    simp at hil
    obtain ⟨c0, c1⟩ := hp i hil
    obtain ⟨b, o, sp⟩ := a
    have hsp : sp = none := by
      have h1 := (hp 0 (by omega)).1
      have h2 := World.cell?_spot h1
      simpa [Addr.add] using h2
    subst hsp
    have hadd : ∀ j, (⟨b, o, none⟩ : Addr).add j = ⟨b, o + j, none⟩ := by intro j; unfold Addr.add; split <;> simp_all
    rw [hadd] at c0 c1
    refine ⟨rfl, World.block_lt_of_cell? w ⟨b, o + i * 2, none⟩ c0, ?_, ?_⟩
    · rw [c0]; simp
    · rw [show o + i * 2 + 1 = o + (i * 2 + 1) by omega, c1]; simp

/-- A slice of bytes. -/
theorem open_bytes {t e : TypeId} {fuel : Nat} {v : Value} {x : DataW H × List MemPlace} (ht : P.underlying t = some (.slice e)) (he : P.underlying e = some (.int .u8)) (hC : P.cellsOf e = 1)
    (h : DataW.trod enc P w base (fun _ => true) held fuel t [v] = some x) : ∃ a n c l, v = .slice a n c ∧ SlB w a n c l := by
  rcases open_ints ht he hC h with ⟨hcs, _⟩ | ⟨a, len, cap, zs, hcs, _, hl, hm, hz, _, hcell, hwz⟩
  · exact ⟨none, 0, 0, [], List.singleton_inj.1 hcs, rfl, Nat.le_refl _, by unfold maxLen; omega, fun _ => ⟨rfl, rfl⟩, fun x hx => by cases hx⟩
  · exact ⟨some a, len, cap, _, List.singleton_inj.1 hcs, SlB.of_row hl hm (by simpa using hz) hcell hwz⟩
end

/-- Faults, keeps: what stands in an argument. -/
theorem open_faults {H : Type} {enc : TypeId × Value → H} {w : World} {base : Nat} {spare : Nat → Bool} {held : Bool} {fuel : Nat} {v : Value} {x : DataW H × List MemPlace}
    (h : DataW.trod enc Tryz.prog w base spare held fuel 38 [v] = some x) : ∃ a n c l, v = .slice a n c ∧ SlP w a n c l :=
  open_pairs Tryz.underlying38 Tryz.underlying77 (by kernel_rfl) Tryz.underlying3 Tryz.underlying3 (by kernel_rfl) (by kernel_rfl) rfl rfl h
theorem open_keeps {H : Type} {enc : TypeId × Value → H} {w : World} {base : Nat} {spare : Nat → Bool} {held : Bool} {fuel : Nat} {v : Value} {x : DataW H × List MemPlace}
    (h : DataW.trod enc Tryz.prog w base spare held fuel 39 [v] = some x) : ∃ a n c l, v = .slice a n c ∧ SlP w a n c l :=
  open_pairs Tryz.underlying39 Tryz.underlying84 (by kernel_rfl) Tryz.underlying3 Tryz.underlying3 (by kernel_rfl) (by kernel_rfl) rfl rfl h

end Go.Proofs.YtabeelcidlhniaaGreat
