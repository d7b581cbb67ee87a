/-
  How an argument of type [3]int is opened.
-/
import Derived.Test.YtedmnbmfbgenjaaExtL2
import Derived.ProofKit
import Derived.OpenShut
import Derived.ShutString
import Derived.ChangeOld
namespace Go.Proofs.Ytedmnbmfbgenjaa
open Go.RowKit

section
open Go.ChangeShapes Go.WideShapes Go.ChangeAt
variable {H : Type} {enc : TypeId × Value → H} {w : World} {base : Nat} {spare : Nat → Bool} {held : Bool}
set_option maxRecDepth 100000 in
theorem open_tri {r : Reach} {b0 : Nat} {v : Value} {d : DataW H} {p : List MemPlace} (hv : Value.okWide Try.prog w r b0 72 v) (h : DataW.Trod enc Try.prog w base spare held 72 v d p) :
    ∃ d0 d1 d2 : Int, v = .agg #[.int .i64 d0, .int .i64 d1, .int .i64 d2] ∧ (Lit.int .i64 d0).wf = true ∧ (Lit.int .i64 d1).wf = true ∧ (Lit.int .i64 d2).wf = true := by
  simp only [Value.okWide, Try.underlying72] at hv
  obtain ⟨cs, rfl, hsz, _⟩ := hv
  obtain ⟨fuel, hf⟩ := h
  obtain ⟨xs, n, _, _, _, hxl, hg⟩ := DataW.trod_array Try.underlying72 hf
  have h2 : cs.size = 3 := hsz.trans (by kernel_rfl)
  have hc : Try.prog.cellsOf 3 = 1 := by kernel_rfl
  obtain ⟨l⟩ := cs
  match l, h2 with
  | [c0, c1, c2], _ =>
    have g0 := hg 0 (by omega)
    have g1 := hg 1 (by omega)
    have g2 := hg 2 (by omega)
    rw [hc] at g0 g1 g2
    rw [List.getElem?_eq_getElem (by omega)] at g0 g1 g2
    obtain ⟨m0, e0, _, w0⟩ := DataW.trod_int Try.underlying3 g0
    obtain ⟨m1, e1, _, w1⟩ := DataW.trod_int Try.underlying3 g1
    obtain ⟨m2, e2, _, w2⟩ := DataW.trod_int Try.underlying3 g2
    have f0 : c0 = .int .i64 m0 := by simpa [Value.cells] using e0
    have f1 : c1 = .int .i64 m1 := by simpa [Value.cells] using e1
    have f2 : c2 = .int .i64 m2 := by simpa [Value.cells] using e2
    subst f0; subst f1; subst f2
    exact ⟨m0, m1, m2, rfl, w0, w1, w2⟩
end

end Go.Proofs.Ytedmnbmfbgenjaa
