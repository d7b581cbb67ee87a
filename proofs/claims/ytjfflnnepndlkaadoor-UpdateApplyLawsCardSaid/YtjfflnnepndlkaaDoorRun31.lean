/-
  How an argument of type api.Pin is opened.
-/
import Derived.Test.YtjfflnnepndlkaaDoorRun25
import Derived.ProofKit
import Derived.OpenShut
import Derived.ShutString
import Derived.ChangeOld
namespace Go.Proofs.YtjfflnnepndlkaaDoor
open Go.RowKit

section
open Go.ChangeShapes Go.WideShapes Go.ChangeAt
variable {H : Type} {enc : TypeId × Value → H} {P : Program} {w : World} {base : Nat} {spare : Nat → Bool} {held : Bool}
theorem fieldPI {fs : Array Field} {xs : List (DataW H × List MemPlace)} {cs : List Value} {n : Nat} (hg : ∀ (i : Nat) (f : Field), fs[i]? = some f → DataW.trod enc P w base spare held n f.type ((cs.drop f.offset).take (P.cellsOf f.type)) = xs[i]?)
    (hl : xs.length = fs.size) (i : Nat) (f : Field) (hf : fs[i]? = some f) (k : IntKind) (hu : P.underlying f.type = some (.int k)) (o : Nat) (ho : f.offset = o) (hk : P.cellsOf f.type = 1) : ∃ m, cs[o]? = some (.int k m) ∧ (Lit.int k m).wf = true := by
  have hi : i < fs.size := (Array.getElem?_eq_some_iff.1 hf).1
  have h := hg i f hf
  rw [List.getElem?_eq_getElem (by omega)] at h
  obtain ⟨m, h1, _, h3⟩ := DataW.trod_int hu h
  rw [ho, hk] at h1
  refine ⟨m, ?_, h3⟩
  have := congrArg (fun l : List Value => l[0]?) h1
  simpa using this
theorem fieldPS {fs : Array Field} {xs : List (DataW H × List MemPlace)} {cs : List Value} {n : Nat} (hg : ∀ (i : Nat) (f : Field), fs[i]? = some f → DataW.trod enc P w base spare held n f.type ((cs.drop f.offset).take (P.cellsOf f.type)) = xs[i]?)
    (hl : xs.length = fs.size) (i : Nat) (f : Field) (hf : fs[i]? = some f) (hu : P.underlying f.type = some .string) (o : Nat) (ho : f.offset = o) (hk : P.cellsOf f.type = 1) : ∃ s : ByteArray, cs[o]? = some (.string s) := by
  have hi : i < fs.size := (Array.getElem?_eq_some_iff.1 hf).1
  have h := hg i f hf
  rw [List.getElem?_eq_getElem (by omega)] at h
  obtain ⟨m, h1, _, _⟩ := DataW.trod_string hu h
  rw [ho, hk] at h1
  refine ⟨m, ?_⟩
  have := congrArg (fun l : List Value => l[0]?) h1
  simpa using this
theorem fieldPB {fs : Array Field} {xs : List (DataW H × List MemPlace)} {cs : List Value} {n : Nat} (hg : ∀ (i : Nat) (f : Field), fs[i]? = some f → DataW.trod enc P w base spare held n f.type ((cs.drop f.offset).take (P.cellsOf f.type)) = xs[i]?)
    (hl : xs.length = fs.size) (i : Nat) (f : Field) (hf : fs[i]? = some f) (hu : P.underlying f.type = some .bool) (o : Nat) (ho : f.offset = o) (hk : P.cellsOf f.type = 1) : ∃ s : Bool, cs[o]? = some (.bool s) := by
  have hi : i < fs.size := (Array.getElem?_eq_some_iff.1 hf).1
  have h := hg i f hf
  rw [List.getElem?_eq_getElem (by omega)] at h
  obtain ⟨m, h1, _⟩ := DataW.trod_bool hu h
  rw [ho, hk] at h1
  refine ⟨m, ?_⟩
  have := congrArg (fun l : List Value => l[0]?) h1
  simpa using this

set_option maxRecDepth 100000 in
theorem open_pin {r : Reach} {b0 : Nat} {v : Value} {d : DataW H} {p : List MemPlace} (hv : Value.okWide Tryd.prog w r b0 26 v) (h : DataW.Trod enc Tryd.prog w base spare held 26 v d p) :
    ∃ q : Pin, v = pv q ∧ (Lit.int .i64 q.x).wf = true := by
  obtain ⟨cs, rfl, hsz⟩ := okWide_struct Tryd.underlying26 hv
  obtain ⟨fuel, hf⟩ := h
  obtain ⟨xs, n, _, hx, hcl, hlen, hg⟩ := DataW.trod_struct Tryd.underlying26 hf
  have h2 : cs.size = 3 := hsz.trans (by kernel_rfl)
  obtain ⟨l⟩ := cs
  match l, h2 with
  | [c0, c1, c2], _ =>
    obtain ⟨m0, e0⟩ := fieldPS hg hlen 0 _ rfl (by kernel_rfl) 0 rfl (by kernel_rfl)
    obtain ⟨m1, e1⟩ := fieldPB hg hlen 1 _ rfl (by kernel_rfl) 1 rfl (by kernel_rfl)
    obtain ⟨m2, e2, w2⟩ := fieldPI hg hlen 2 _ rfl .i64 (by kernel_rfl) 2 rfl (by kernel_rfl)
    have f0 : c0 = .string m0 := Option.some.inj e0
    have f1 : c1 = .bool m1 := Option.some.inj e1
    have f2 : c2 = .int .i64 m2 := Option.some.inj e2
    subst f0; subst f1; subst f2
    exact ⟨⟨m0.data.toList, m1, m2⟩, by simp [pv, str], w2⟩
end

end Go.Proofs.YtjfflnnepndlkaaDoor
