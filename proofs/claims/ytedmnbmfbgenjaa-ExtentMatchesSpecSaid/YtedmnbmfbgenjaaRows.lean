/-
  No cell of these rows narrows 'for every input' (looked for: loops, veiled, ifaces, maps, wideKeys, modest, calm, conditions, laid).
  DERIVED. THE GIVEN ROWS OF THIS SEAT. 10 by the template 'for every input the law returns true; each argument reads behind the call as it read before'; 0 by the template 'total and deterministic' (their statements: YtedmnbmfbgenjaaTotals.lean).
  GIVEN WITH THE SEED: the statements are not yours to turn. If you find one false, say at which input.
  Laid BY PROGRAM, IN A SANDBOX (cutbox-rows.mjs): the forced cells as the released guide's own fill.sh prints them over the translation 50f6b9d0ad13baf2… (all of the seat's roots in one cut). By AI agents, Wed Nov 11 2026. No macro, syntax, notation, axiom, sorry.
-/
import Derived.Test.YtedmnbmfbgenjaaChecked
import GoSem.Claim
import GoSem.ClaimJoined
import GoSem.ClaimMapViews
import Derived.JoinedTies
import Derived.KernelRfl
namespace Go.Proofs.Ytedmnbmfbgenjaa
/- THE CELL 'sum', in the pinned program and in every row, IS THE sha256 OF THE DUMP (.gsa) THAT YtedmnbmfbgenjaaProg.lean LOADS. Nothing in Lean hashes anything: it is a label: what it is worth is what the hold of that sum in a sandbox is worth. -/
noncomputable def Try.pinned : Pinned := { name := "ytedmnbmfbgenjaa", sum := "50f6b9d0ad13baf23a565fa3dd399613e0244d248013b7303856690892a0fd32", checked := Try.checked }
namespace Rows
def none {H : Type} : Left H := { results := [], args := [] }

/-- 'hstsstorelaw05.SectorCopies': WHATEVER THE INPUT: true; the input reads as it did. -/
def sectorCopiesSpec : ChangeSpec := { name := "sectorCopies", fn := fun _ => fun
  | [d1, d2, d3] => { results := [.lit (.bool true)], args := [d1, d2, d3] }
  | _ => none }
def sectorCopiesRow : OpenClaim := { program := "ytedmnbmfbgenjaa", sum := "50f6b9d0ad13baf23a565fa3dd399613e0244d248013b7303856690892a0fd32", func := "hstsstore/hstsstorelaw05.SectorCopies", spec := "sectorCopies", unfollowed := true, recurses := true, apart := false }
def SectorCopiesSaid : Prop := sectorCopiesRow.holds Try.pinned (OpenSpec.ofChange sectorCopiesSpec)

/-- ITS FALSE NEIGHBOUR: 'it returns false'. Refute it at one input. -/
def sectorCopiesWrong : ChangeSpec := { name := "sectorCopies", fn := fun _ => fun
  | [d1, d2, d3] => { results := [.lit (.bool false)], args := [d1, d2, d3] }
  | _ => none }
def SectorCopiesWrongFalsely : Prop := sectorCopiesRow.holds Try.pinned (OpenSpec.ofChange sectorCopiesWrong)

/-- 'hstsstorelaw08.WalSpace': WHATEVER THE INPUT: true; the input reads as it did. -/
def walSpaceSpec : ChangeSpec := { name := "walSpace", fn := fun _ => fun
  | [d1, d2] => { results := [.lit (.bool true)], args := [d1, d2] }
  | _ => none }
def walSpaceRow : OpenClaim := { program := "ytedmnbmfbgenjaa", sum := "50f6b9d0ad13baf23a565fa3dd399613e0244d248013b7303856690892a0fd32", func := "hstsstore/hstsstorelaw08.WalSpace", spec := "walSpace", unfollowed := true, recurses := true, apart := false }
def WalSpaceSaid : Prop := walSpaceRow.holds Try.pinned (OpenSpec.ofChange walSpaceSpec)

/-- ITS FALSE NEIGHBOUR: 'it returns false'. Refute it at one input. -/
def walSpaceWrong : ChangeSpec := { name := "walSpace", fn := fun _ => fun
  | [d1, d2] => { results := [.lit (.bool false)], args := [d1, d2] }
  | _ => none }
def WalSpaceWrongFalsely : Prop := walSpaceRow.holds Try.pinned (OpenSpec.ofChange walSpaceWrong)

/-- 'hstsstorelaw08.WalNone': WHATEVER THE INPUT: true; the input reads as it did. -/
def walNoneSpec : ChangeSpec := { name := "walNone", fn := fun _ => fun
  | [d] => { results := [.lit (.bool true)], args := [d] }
  | _ => none }
def walNoneRow : OpenClaim := { program := "ytedmnbmfbgenjaa", sum := "50f6b9d0ad13baf23a565fa3dd399613e0244d248013b7303856690892a0fd32", func := "hstsstore/hstsstorelaw08.WalNone", spec := "walNone", unfollowed := true, recurses := true, apart := false }
def WalNoneSaid : Prop := walNoneRow.holds Try.pinned (OpenSpec.ofChange walNoneSpec)

/-- ITS FALSE NEIGHBOUR: 'it returns false'. Refute it at one input. -/
def walNoneWrong : ChangeSpec := { name := "walNone", fn := fun _ => fun
  | [d] => { results := [.lit (.bool false)], args := [d] }
  | _ => none }
def WalNoneWrongFalsely : Prop := walNoneRow.holds Try.pinned (OpenSpec.ofChange walNoneWrong)

/-- 'hstsstorelaw05.SectorMatchesSpec': WHATEVER THE INPUT: true; the input reads as it did. -/
def sectorMatchesSpecSpec : ChangeSpec := { name := "sectorMatchesSpec", fn := fun _ => fun
  | [d1, d2] => { results := [.lit (.bool true)], args := [d1, d2] }
  | _ => none }
def sectorMatchesSpecRow : OpenClaim := { program := "ytedmnbmfbgenjaa", sum := "50f6b9d0ad13baf23a565fa3dd399613e0244d248013b7303856690892a0fd32", func := "hstsstore/hstsstorelaw05.SectorMatchesSpec", spec := "sectorMatchesSpec", unfollowed := true, recurses := true, apart := false }
def SectorMatchesSpecSaid : Prop := sectorMatchesSpecRow.holds Try.pinned (OpenSpec.ofChange sectorMatchesSpecSpec)

/-- ITS FALSE NEIGHBOUR: 'it returns false'. Refute it at one input. -/
def sectorMatchesSpecWrong : ChangeSpec := { name := "sectorMatchesSpec", fn := fun _ => fun
  | [d1, d2] => { results := [.lit (.bool false)], args := [d1, d2] }
  | _ => none }
def SectorMatchesSpecWrongFalsely : Prop := sectorMatchesSpecRow.holds Try.pinned (OpenSpec.ofChange sectorMatchesSpecWrong)

/-- 'hstsstorelaw05.SectorTearing': WHATEVER THE INPUT: true; the input reads as it did. -/
def sectorTearingSpec : ChangeSpec := { name := "sectorTearing", fn := fun _ => fun
  | [d1, d2, d3] => { results := [.lit (.bool true)], args := [d1, d2, d3] }
  | _ => none }
def sectorTearingRow : OpenClaim := { program := "ytedmnbmfbgenjaa", sum := "50f6b9d0ad13baf23a565fa3dd399613e0244d248013b7303856690892a0fd32", func := "hstsstore/hstsstorelaw05.SectorTearing", spec := "sectorTearing", unfollowed := true, recurses := true, apart := false }
def SectorTearingSaid : Prop := sectorTearingRow.holds Try.pinned (OpenSpec.ofChange sectorTearingSpec)

/-- ITS FALSE NEIGHBOUR: 'it returns false'. Refute it at one input. -/
def sectorTearingWrong : ChangeSpec := { name := "sectorTearing", fn := fun _ => fun
  | [d1, d2, d3] => { results := [.lit (.bool false)], args := [d1, d2, d3] }
  | _ => none }
def SectorTearingWrongFalsely : Prop := sectorTearingRow.holds Try.pinned (OpenSpec.ofChange sectorTearingWrong)

/-- 'hstsstorelaw05.SectorNone': WHATEVER THE INPUT: true; the input reads as it did. -/
def sectorNoneSpec : ChangeSpec := { name := "sectorNone", fn := fun _ => fun
  | [d1, d2, d3] => { results := [.lit (.bool true)], args := [d1, d2, d3] }
  | _ => none }
def sectorNoneRow : OpenClaim := { program := "ytedmnbmfbgenjaa", sum := "50f6b9d0ad13baf23a565fa3dd399613e0244d248013b7303856690892a0fd32", func := "hstsstore/hstsstorelaw05.SectorNone", spec := "sectorNone", unfollowed := true, recurses := true, apart := false }
def SectorNoneSaid : Prop := sectorNoneRow.holds Try.pinned (OpenSpec.ofChange sectorNoneSpec)

/-- ITS FALSE NEIGHBOUR: 'it returns false'. Refute it at one input. -/
def sectorNoneWrong : ChangeSpec := { name := "sectorNone", fn := fun _ => fun
  | [d1, d2, d3] => { results := [.lit (.bool false)], args := [d1, d2, d3] }
  | _ => none }
def SectorNoneWrongFalsely : Prop := sectorNoneRow.holds Try.pinned (OpenSpec.ofChange sectorNoneWrong)

/-- 'hstsstorelaw05.SectorLoadMatchesSpec': WHATEVER THE INPUT: true; the input reads as it did. -/
def sectorLoadMatchesSpecSpec : ChangeSpec := { name := "sectorLoadMatchesSpec", fn := fun _ => fun
  | [d1, d2] => { results := [.lit (.bool true)], args := [d1, d2] }
  | _ => none }
def sectorLoadMatchesSpecRow : OpenClaim := { program := "ytedmnbmfbgenjaa", sum := "50f6b9d0ad13baf23a565fa3dd399613e0244d248013b7303856690892a0fd32", func := "hstsstore/hstsstorelaw05.SectorLoadMatchesSpec", spec := "sectorLoadMatchesSpec", unfollowed := true, recurses := true, apart := false }
def SectorLoadMatchesSpecSaid : Prop := sectorLoadMatchesSpecRow.holds Try.pinned (OpenSpec.ofChange sectorLoadMatchesSpecSpec)

/-- ITS FALSE NEIGHBOUR: 'it returns false'. Refute it at one input. -/
def sectorLoadMatchesSpecWrong : ChangeSpec := { name := "sectorLoadMatchesSpec", fn := fun _ => fun
  | [d1, d2] => { results := [.lit (.bool false)], args := [d1, d2] }
  | _ => none }
def SectorLoadMatchesSpecWrongFalsely : Prop := sectorLoadMatchesSpecRow.holds Try.pinned (OpenSpec.ofChange sectorLoadMatchesSpecWrong)

/-- 'hstsstorelaw06.ExtentReadBack': WHATEVER THE INPUT: true; the input reads as it did. -/
def extentReadBackSpec : ChangeSpec := { name := "extentReadBack", fn := fun _ => fun
  | [d1, d2, d3] => { results := [.lit (.bool true)], args := [d1, d2, d3] }
  | _ => none }
def extentReadBackRow : OpenClaim := { program := "ytedmnbmfbgenjaa", sum := "50f6b9d0ad13baf23a565fa3dd399613e0244d248013b7303856690892a0fd32", func := "hstsstore/hstsstorelaw06.ExtentReadBack", spec := "extentReadBack", unfollowed := true, recurses := true, apart := false }
def ExtentReadBackSaid : Prop := extentReadBackRow.holds Try.pinned (OpenSpec.ofChange extentReadBackSpec)

/-- ITS FALSE NEIGHBOUR: 'it returns false'. Refute it at one input. -/
def extentReadBackWrong : ChangeSpec := { name := "extentReadBack", fn := fun _ => fun
  | [d1, d2, d3] => { results := [.lit (.bool false)], args := [d1, d2, d3] }
  | _ => none }
def ExtentReadBackWrongFalsely : Prop := extentReadBackRow.holds Try.pinned (OpenSpec.ofChange extentReadBackWrong)

/-- 'hstsstorelaw06.ExtentOperations': WHATEVER THE INPUT: true; the input reads as it did. -/
def extentOperationsSpec : ChangeSpec := { name := "extentOperations", fn := fun _ => fun
  | [d1, d2, d3] => { results := [.lit (.bool true)], args := [d1, d2, d3] }
  | _ => none }
def extentOperationsRow : OpenClaim := { program := "ytedmnbmfbgenjaa", sum := "50f6b9d0ad13baf23a565fa3dd399613e0244d248013b7303856690892a0fd32", func := "hstsstore/hstsstorelaw06.ExtentOperations", spec := "extentOperations", unfollowed := true, recurses := true, apart := false }
def ExtentOperationsSaid : Prop := extentOperationsRow.holds Try.pinned (OpenSpec.ofChange extentOperationsSpec)

/-- ITS FALSE NEIGHBOUR: 'it returns false'. Refute it at one input. -/
def extentOperationsWrong : ChangeSpec := { name := "extentOperations", fn := fun _ => fun
  | [d1, d2, d3] => { results := [.lit (.bool false)], args := [d1, d2, d3] }
  | _ => none }
def ExtentOperationsWrongFalsely : Prop := extentOperationsRow.holds Try.pinned (OpenSpec.ofChange extentOperationsWrong)

/-- 'hstsstorelaw06.ExtentMatchesSpec': WHATEVER THE INPUT: true; the input reads as it did. -/
def extentMatchesSpecSpec : ChangeSpec := { name := "extentMatchesSpec", fn := fun _ => fun
  | [d1, d2] => { results := [.lit (.bool true)], args := [d1, d2] }
  | _ => none }
def extentMatchesSpecRow : OpenClaim := { program := "ytedmnbmfbgenjaa", sum := "50f6b9d0ad13baf23a565fa3dd399613e0244d248013b7303856690892a0fd32", func := "hstsstore/hstsstorelaw06.ExtentMatchesSpec", spec := "extentMatchesSpec", unfollowed := true, recurses := true, apart := false }
def ExtentMatchesSpecSaid : Prop := extentMatchesSpecRow.holds Try.pinned (OpenSpec.ofChange extentMatchesSpecSpec)

/-- ITS FALSE NEIGHBOUR: 'it returns false'. Refute it at one input. -/
def extentMatchesSpecWrong : ChangeSpec := { name := "extentMatchesSpec", fn := fun _ => fun
  | [d1, d2] => { results := [.lit (.bool false)], args := [d1, d2] }
  | _ => none }
def ExtentMatchesSpecWrongFalsely : Prop := extentMatchesSpecRow.holds Try.pinned (OpenSpec.ofChange extentMatchesSpecWrong)

/- THE SECOND FORM. 'bulk': how many values and letters a reading holds, each counted each time it is reached (what is shared counts as often as it is met; a slice's spare places count too). A statement '..UptoSaid' is the law's where the arguments, and the package variables that the reading takes, are together of bulk at most 1048576: NARROWER than '..Said'. Prove '..Said' where nothing that the law and all that it calls make is longer than what came in: it says more and counts as full. Else prove '..UptoSaid'. A law counts once. -/
mutual
def uptoBulk {H : Type} : DataW H → Nat
  | .lit (.string bytes) => bytes.length + 1
  | .lit _ => 1
  | .nil => 1
  | .ptr d => uptoBulk d + 1
  | .slice elems spare => uptoBulkAll elems + uptoBulkAll spare + 1
  | .agg parts => uptoBulkAll parts + 1
  | .iface _ d => uptoBulk d + 1
  | .map entries => uptoBulkEntries entries + 1
  | .held _ => 1
def uptoBulkAll {H : Type} : List (DataW H) → Nat
  | [] => 0
  | d :: r => uptoBulk d + uptoBulkAll r
def uptoBulkEntries {H : Type} : List (Lit × DataW H) → Nat
  | [] => 0
  | x :: r => uptoBulkEntry x + uptoBulkEntries r
def uptoBulkEntry {H : Type} : Lit × DataW H → Nat
  | (.string bytes, d) => bytes.length + uptoBulk d + 1
  | (_, d) => uptoBulk d + 1
 end
def uptoSmall : (H : Type) → List (DataW H) → Bool := fun _ ds => decide (uptoBulkAll ds ≤ 1048576)
def OpenSpec.upto (s : _root_.Go.ChangeSpec) : _root_.Go.OpenSpec := { _root_.Go.OpenSpec.ofChange s with cond := some uptoSmall }

/-- 'hstsstorelaw05.SectorCopies', WHERE WHAT IT READS IS OF BULK AT MOST 1048576: true; the input reads as it did. -/
def sectorCopiesUptoRow : OpenClaim := { program := "ytedmnbmfbgenjaa", sum := "50f6b9d0ad13baf23a565fa3dd399613e0244d248013b7303856690892a0fd32", func := "hstsstore/hstsstorelaw05.SectorCopies", spec := "sectorCopies", unfollowed := true, recurses := true, apart := false, narrowed := true }
def SectorCopiesUptoSaid : Prop := sectorCopiesUptoRow.holds Try.pinned (OpenSpec.upto sectorCopiesSpec)

/-- 'hstsstorelaw08.WalSpace', WHERE WHAT IT READS IS OF BULK AT MOST 1048576: true; the input reads as it did. -/
def walSpaceUptoRow : OpenClaim := { program := "ytedmnbmfbgenjaa", sum := "50f6b9d0ad13baf23a565fa3dd399613e0244d248013b7303856690892a0fd32", func := "hstsstore/hstsstorelaw08.WalSpace", spec := "walSpace", unfollowed := true, recurses := true, apart := false, narrowed := true }
def WalSpaceUptoSaid : Prop := walSpaceUptoRow.holds Try.pinned (OpenSpec.upto walSpaceSpec)

/-- 'hstsstorelaw08.WalNone', WHERE WHAT IT READS IS OF BULK AT MOST 1048576: true; the input reads as it did. -/
def walNoneUptoRow : OpenClaim := { program := "ytedmnbmfbgenjaa", sum := "50f6b9d0ad13baf23a565fa3dd399613e0244d248013b7303856690892a0fd32", func := "hstsstore/hstsstorelaw08.WalNone", spec := "walNone", unfollowed := true, recurses := true, apart := false, narrowed := true }
def WalNoneUptoSaid : Prop := walNoneUptoRow.holds Try.pinned (OpenSpec.upto walNoneSpec)

/-- 'hstsstorelaw05.SectorMatchesSpec', WHERE WHAT IT READS IS OF BULK AT MOST 1048576: true; the input reads as it did. -/
def sectorMatchesSpecUptoRow : OpenClaim := { program := "ytedmnbmfbgenjaa", sum := "50f6b9d0ad13baf23a565fa3dd399613e0244d248013b7303856690892a0fd32", func := "hstsstore/hstsstorelaw05.SectorMatchesSpec", spec := "sectorMatchesSpec", unfollowed := true, recurses := true, apart := false, narrowed := true }
def SectorMatchesSpecUptoSaid : Prop := sectorMatchesSpecUptoRow.holds Try.pinned (OpenSpec.upto sectorMatchesSpecSpec)

/-- 'hstsstorelaw05.SectorTearing', WHERE WHAT IT READS IS OF BULK AT MOST 1048576: true; the input reads as it did. -/
def sectorTearingUptoRow : OpenClaim := { program := "ytedmnbmfbgenjaa", sum := "50f6b9d0ad13baf23a565fa3dd399613e0244d248013b7303856690892a0fd32", func := "hstsstore/hstsstorelaw05.SectorTearing", spec := "sectorTearing", unfollowed := true, recurses := true, apart := false, narrowed := true }
def SectorTearingUptoSaid : Prop := sectorTearingUptoRow.holds Try.pinned (OpenSpec.upto sectorTearingSpec)

/-- 'hstsstorelaw05.SectorNone', WHERE WHAT IT READS IS OF BULK AT MOST 1048576: true; the input reads as it did. -/
def sectorNoneUptoRow : OpenClaim := { program := "ytedmnbmfbgenjaa", sum := "50f6b9d0ad13baf23a565fa3dd399613e0244d248013b7303856690892a0fd32", func := "hstsstore/hstsstorelaw05.SectorNone", spec := "sectorNone", unfollowed := true, recurses := true, apart := false, narrowed := true }
def SectorNoneUptoSaid : Prop := sectorNoneUptoRow.holds Try.pinned (OpenSpec.upto sectorNoneSpec)

/-- 'hstsstorelaw05.SectorLoadMatchesSpec', WHERE WHAT IT READS IS OF BULK AT MOST 1048576: true; the input reads as it did. -/
def sectorLoadMatchesSpecUptoRow : OpenClaim := { program := "ytedmnbmfbgenjaa", sum := "50f6b9d0ad13baf23a565fa3dd399613e0244d248013b7303856690892a0fd32", func := "hstsstore/hstsstorelaw05.SectorLoadMatchesSpec", spec := "sectorLoadMatchesSpec", unfollowed := true, recurses := true, apart := false, narrowed := true }
def SectorLoadMatchesSpecUptoSaid : Prop := sectorLoadMatchesSpecUptoRow.holds Try.pinned (OpenSpec.upto sectorLoadMatchesSpecSpec)

/-- 'hstsstorelaw06.ExtentReadBack', WHERE WHAT IT READS IS OF BULK AT MOST 1048576: true; the input reads as it did. -/
def extentReadBackUptoRow : OpenClaim := { program := "ytedmnbmfbgenjaa", sum := "50f6b9d0ad13baf23a565fa3dd399613e0244d248013b7303856690892a0fd32", func := "hstsstore/hstsstorelaw06.ExtentReadBack", spec := "extentReadBack", unfollowed := true, recurses := true, apart := false, narrowed := true }
def ExtentReadBackUptoSaid : Prop := extentReadBackUptoRow.holds Try.pinned (OpenSpec.upto extentReadBackSpec)

/-- 'hstsstorelaw06.ExtentOperations', WHERE WHAT IT READS IS OF BULK AT MOST 1048576: true; the input reads as it did. -/
def extentOperationsUptoRow : OpenClaim := { program := "ytedmnbmfbgenjaa", sum := "50f6b9d0ad13baf23a565fa3dd399613e0244d248013b7303856690892a0fd32", func := "hstsstore/hstsstorelaw06.ExtentOperations", spec := "extentOperations", unfollowed := true, recurses := true, apart := false, narrowed := true }
def ExtentOperationsUptoSaid : Prop := extentOperationsUptoRow.holds Try.pinned (OpenSpec.upto extentOperationsSpec)

/-- 'hstsstorelaw06.ExtentMatchesSpec', WHERE WHAT IT READS IS OF BULK AT MOST 1048576: true; the input reads as it did. -/
def extentMatchesSpecUptoRow : OpenClaim := { program := "ytedmnbmfbgenjaa", sum := "50f6b9d0ad13baf23a565fa3dd399613e0244d248013b7303856690892a0fd32", func := "hstsstore/hstsstorelaw06.ExtentMatchesSpec", spec := "extentMatchesSpec", unfollowed := true, recurses := true, apart := false, narrowed := true }
def ExtentMatchesSpecUptoSaid : Prop := extentMatchesSpecUptoRow.holds Try.pinned (OpenSpec.upto extentMatchesSpecSpec)

end Rows
end Go.Proofs.Ytedmnbmfbgenjaa
