/-
  How a superblock that came in as an argument is opened.
-/
import Derived.Test.YtolagcnndepjbaaSuperAwake
import Derived.ProofKit
import Derived.OpenShut
import Derived.ShutString
import Derived.ChangeOld
namespace Go.Proofs.Ytolagcnndepjbaa
open Go.ChangeShapes Go.WideShapes Go.ChangeAt Go.RowKit

section
variable {H : Type} {enc : TypeId × Value → H} {P : Program} {w : World} {base : Nat} {spare : Nat → Bool} {held : Bool}
theorem field_int {fs : Array Field} {xs : List (DataW H × List MemPlace)} {cs : List Value} {n : Nat} (hg : ∀ (i : Nat) (f : Field), fs[i]? = some f → DataW.trod enc P w base spare held n f.type ((cs.drop f.offset).take (P.cellsOf f.type)) = xs[i]?)
    (hl : xs.length = fs.size) (i : Nat) (f : Field) (hf : fs[i]? = some f) (k : IntKind) (hu : P.underlying f.type = some (.int k)) (o : Nat) (ho : f.offset = o) (hk : P.cellsOf f.type = 1) : ∃ m, cs[o]? = some (.int k m) ∧ (Lit.int k m).wf = true := by
  have hi : i < fs.size := (Array.getElem?_eq_some_iff.1 hf).1
  have h := hg i f hf
  rw [List.getElem?_eq_getElem (by omega)] at h
  obtain ⟨m, h1, _, h3⟩ := DataW.trod_int hu h
  rw [ho, hk] at h1
  refine ⟨m, ?_, h3⟩
  have := congrArg (fun l : List Value => l[0]?) h1
  simpa using this

theorem open_super {r : Reach} {b0 : Nat} {v : Value} {d : DataW H} {p : List MemPlace} (hv : Value.okWide Try.prog w r b0 25 v) (h : DataW.Trod enc Try.prog w base spare held 25 v d p) :
    ∃ s : Super.S, v = sv s ∧ s.fits ∧ (-9223372036854775808 ≤ s.act ∧ s.act ≤ 9223372036854775807) ∧ (-9223372036854775808 ≤ s.len ∧ s.len ≤ 9223372036854775807) := by
  obtain ⟨cs, rfl, hsz⟩ := okWide_struct Try.underlying25 hv
  obtain ⟨fuel, hf⟩ := h
  obtain ⟨xs, n, _, hx, hcl, hlen, hg⟩ := DataW.trod_struct Try.underlying25 hf
  have h5 : cs.size = 5 := hsz.trans (by kernel_rfl)
  obtain ⟨l⟩ := cs
  match l, h5 with
  | [c0, c1, c2, c3, c4], _ =>
    obtain ⟨m0, e0, w0⟩ := field_int hg hlen 0 _ rfl .u64 (by kernel_rfl) 0 rfl (by kernel_rfl)
    obtain ⟨m1, e1, w1⟩ := field_int hg hlen 1 _ rfl .i64 (by kernel_rfl) 1 rfl (by kernel_rfl)
    obtain ⟨m2, e2, w2⟩ := field_int hg hlen 2 _ rfl .u32 (by kernel_rfl) 2 rfl (by kernel_rfl)
    obtain ⟨m3, e3, w3⟩ := field_int hg hlen 3 _ rfl .i64 (by kernel_rfl) 3 rfl (by kernel_rfl)
    obtain ⟨m4, e4, w4⟩ := field_int hg hlen 4 _ rfl .u32 (by kernel_rfl) 4 rfl (by kernel_rfl)
    have f0 : c0 = .int .u64 m0 := Option.some.inj e0
    have f1 : c1 = .int .i64 m1 := Option.some.inj e1
    have f2 : c2 = .int .u32 m2 := Option.some.inj e2
    have f3 : c3 = .int .i64 m3 := Option.some.inj e3
    have f4 : c4 = .int .u32 m4 := Option.some.inj e4
    subst f0; subst f1; subst f2; subst f3; subst f4
    simp [Lit.wf, IntKind.min, IntKind.max, IntKind.signed, IntKind.bits] at w0 w1 w2 w3 w4
    obtain ⟨m0, rfl⟩ := Int.eq_ofNat_of_zero_le (show 0 ≤ m0 by omega)
    obtain ⟨m2, rfl⟩ := Int.eq_ofNat_of_zero_le (show 0 ≤ m2 by omega)
    obtain ⟨m4, rfl⟩ := Int.eq_ofNat_of_zero_le (show 0 ≤ m4 by omega)
    exact ⟨⟨m0, m1, m2, m3, m4⟩, rfl, ⟨by simp only; omega, by simp only; omega, by simp only; omega⟩, ⟨by simp only; omega, by simp only; omega⟩, ⟨by simp only; omega, by simp only; omega⟩⟩
end

end Go.Proofs.Ytolagcnndepjbaa
