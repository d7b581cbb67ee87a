/-
  NARROWER THAN 'FOR EVERY INPUT', by the rows' own cells (each row's printed sentence says how): RegionPlanMatchesSpec: laid · RegionCompactMakesRoom: laid · RegionNone: laid · RegionRecovery: laid · RegionMatchesSpec: laid.
  DERIVED. THE GIVEN ROWS OF THIS SEAT. 5 by the template 'for every input the law returns true; each argument reads behind the call as it read before'; 0 by the template 'total and deterministic' (their statements: YtmanejniepghlaaGreatDoorTotals.lean).
  GIVEN WITH THE SEED: the statements are not yours to turn. If you find one false, say at which input.
  Laid BY PROGRAM, IN A SANDBOX (cutbox-rows.mjs): the forced cells as the released guide's own fill.sh prints them over the translation ab1bec1ef216a3d2… (all of the seat's roots in one cut). By AI agents, Wed Nov 11 2026. No macro, syntax, notation, axiom, sorry.
-/
import Derived.Test.YtmanejniepghlaaGreatDoorChecked
import GoSem.PinnedTables
import GoSem.Claim
import GoSem.ClaimJoined
import GoSem.ClaimMapViews
import Derived.JoinedTies
import Derived.KernelRfl
namespace Go.Proofs.YtmanejniepghlaaGreatDoor
/- THE CELL 'sum', in the pinned program and in every row, IS THE sha256 OF THE DUMP (.gsa) THAT YtmanejniepghlaaGreatDoorProg.lean LOADS. Nothing in Lean hashes anything: it is a label: what it is worth is what the hold of that sum in a sandbox is worth. -/
noncomputable def Tryz.pinned : Pinned := { name := "ytmanejniepghlaagreatdoor", sum := "ab1bec1ef216a3d2e8170107661437ebf4ab76d220604305114685145ef47738", checked := Tryz.checked }
namespace Rows
def none {H : Type} : Left H := { results := [], args := [] }

/- WHAT THE LISTED PACKAGE-LEVEL VARIABLES READ AS WHEN THE CALL BEGINS. Each datum BY PROGRAM (the guide's laid-datum.mjs) off the statement by which the dump's own 'gosem.cut.vars' lays the variable. In a bare row this is a premise. The card (YtmanejniepghlaaGreatDoorCards.lean) ties it to the program's text. -/
def laid_unicode_utf8_acceptRanges {H : Type} : DataW H := .agg [.agg [.lit (.int .u8 128), .lit (.int .u8 191)], .agg [.lit (.int .u8 160), .lit (.int .u8 191)], .agg [.lit (.int .u8 128), .lit (.int .u8 159)], .agg [.lit (.int .u8 144), .lit (.int .u8 191)], .agg [.lit (.int .u8 128), .lit (.int .u8 143)], .agg [.lit (.int .u8 0), .lit (.int .u8 0)], .agg [.lit (.int .u8 0), .lit (.int .u8 0)], .agg [.lit (.int .u8 0), .lit (.int .u8 0)], .agg [.lit (.int .u8 0), .lit (.int .u8 0)], .agg [.lit (.int .u8 0), .lit (.int .u8 0)], .agg [.lit (.int .u8 0), .lit (.int .u8 0)], .agg [.lit (.int .u8 0), .lit (.int .u8 0)], .agg [.lit (.int .u8 0), .lit (.int .u8 0)], .agg [.lit (.int .u8 0), .lit (.int .u8 0)], .agg [.lit (.int .u8 0), .lit (.int .u8 0)], .agg [.lit (.int .u8 0), .lit (.int .u8 0)]]
/-- One of Go's own tables, pinned by name: the form's constant. -/
def laid_unicode_utf8_first : DataW Unit := Go.Pinned.utf8First

/-- 'hstsstorelaw33.RegionPlanMatchesSpec': WHATEVER THE INPUT: true; the input reads as it did. -/
def regionPlanMatchesSpecSpec : ChangeSpec := { name := "regionPlanMatchesSpec", fn := fun _ => fun
  | [d] => { results := [.lit (.bool true)], args := [d] }
  | _ => none }
def regionPlanMatchesSpecRow : OpenClaim := { program := "ytmanejniepghlaagreatdoor", sum := "ab1bec1ef216a3d2e8170107661437ebf4ab76d220604305114685145ef47738", func := "hstsstore/hstsstorelaw33.RegionPlanMatchesSpec", spec := "regionPlanMatchesSpec", inPlace := ["internal/bytealg.CountString", "internal/bytealg.IndexByteString", "internal/bytealg.IndexString", "slices.overlaps[int]", "slices.overlaps[hstsstore/api.Pin]"], unfollowed := true, recurses := true, named := ["unicode/utf8.first", "unicode/utf8.acceptRanges", "internal/bytealg.MaxLen"], apart := false, laid := [("unicode/utf8.acceptRanges", laid_unicode_utf8_acceptRanges), ("unicode/utf8.first", laid_unicode_utf8_first)] }
def RegionPlanMatchesSpecSaid : Prop := regionPlanMatchesSpecRow.holds Tryz.pinned (OpenSpec.ofChange regionPlanMatchesSpecSpec)

/-- ITS FALSE NEIGHBOUR: 'it returns false'. Refute it at one input. -/
def regionPlanMatchesSpecWrong : ChangeSpec := { name := "regionPlanMatchesSpec", fn := fun _ => fun
  | [d] => { results := [.lit (.bool false)], args := [d] }
  | _ => none }
def RegionPlanMatchesSpecWrongFalsely : Prop := regionPlanMatchesSpecRow.holds Tryz.pinned (OpenSpec.ofChange regionPlanMatchesSpecWrong)

/-- 'hstsstorelaw33.RegionCompactMakesRoom': WHATEVER THE INPUT: true; the input reads as it did. -/
def regionCompactMakesRoomSpec : ChangeSpec := { name := "regionCompactMakesRoom", fn := fun _ => fun
  | [d1, d2, d3] => { results := [.lit (.bool true)], args := [d1, d2, d3] }
  | _ => none }
def regionCompactMakesRoomRow : OpenClaim := { program := "ytmanejniepghlaagreatdoor", sum := "ab1bec1ef216a3d2e8170107661437ebf4ab76d220604305114685145ef47738", func := "hstsstore/hstsstorelaw33.RegionCompactMakesRoom", spec := "regionCompactMakesRoom", inPlace := ["internal/bytealg.CountString", "internal/bytealg.IndexByteString", "internal/bytealg.IndexString", "slices.overlaps[int]", "slices.overlaps[hstsstore/api.Pin]"], unfollowed := true, recurses := true, named := ["unicode/utf8.first", "unicode/utf8.acceptRanges", "internal/bytealg.MaxLen"], apart := false, laid := [("unicode/utf8.acceptRanges", laid_unicode_utf8_acceptRanges), ("unicode/utf8.first", laid_unicode_utf8_first)] }
def RegionCompactMakesRoomSaid : Prop := regionCompactMakesRoomRow.holds Tryz.pinned (OpenSpec.ofChange regionCompactMakesRoomSpec)

/-- ITS FALSE NEIGHBOUR: 'it returns false'. Refute it at one input. -/
def regionCompactMakesRoomWrong : ChangeSpec := { name := "regionCompactMakesRoom", fn := fun _ => fun
  | [d1, d2, d3] => { results := [.lit (.bool false)], args := [d1, d2, d3] }
  | _ => none }
def RegionCompactMakesRoomWrongFalsely : Prop := regionCompactMakesRoomRow.holds Tryz.pinned (OpenSpec.ofChange regionCompactMakesRoomWrong)

/-- 'hstsstorelaw33.RegionNone': WHATEVER THE INPUT: true; the input reads as it did. -/
def regionNoneSpec : ChangeSpec := { name := "regionNone", fn := fun _ => fun
  | [d1, d2] => { results := [.lit (.bool true)], args := [d1, d2] }
  | _ => none }
def regionNoneRow : OpenClaim := { program := "ytmanejniepghlaagreatdoor", sum := "ab1bec1ef216a3d2e8170107661437ebf4ab76d220604305114685145ef47738", func := "hstsstore/hstsstorelaw33.RegionNone", spec := "regionNone", inPlace := ["internal/bytealg.CountString", "internal/bytealg.IndexByteString", "internal/bytealg.IndexString", "slices.overlaps[int]", "slices.overlaps[hstsstore/api.Pin]"], unfollowed := true, recurses := true, named := ["unicode/utf8.first", "unicode/utf8.acceptRanges", "internal/bytealg.MaxLen"], apart := false, laid := [("unicode/utf8.acceptRanges", laid_unicode_utf8_acceptRanges), ("unicode/utf8.first", laid_unicode_utf8_first)] }
def RegionNoneSaid : Prop := regionNoneRow.holds Tryz.pinned (OpenSpec.ofChange regionNoneSpec)

/-- ITS FALSE NEIGHBOUR: 'it returns false'. Refute it at one input. -/
def regionNoneWrong : ChangeSpec := { name := "regionNone", fn := fun _ => fun
  | [d1, d2] => { results := [.lit (.bool false)], args := [d1, d2] }
  | _ => none }
def RegionNoneWrongFalsely : Prop := regionNoneRow.holds Tryz.pinned (OpenSpec.ofChange regionNoneWrong)

/-- 'hstsstorelaw33.RegionRecovery': WHATEVER THE INPUT: true; the input reads as it did. -/
def regionRecoverySpec : ChangeSpec := { name := "regionRecovery", fn := fun _ => fun
  | [d1, d2] => { results := [.lit (.bool true)], args := [d1, d2] }
  | _ => none }
def regionRecoveryRow : OpenClaim := { program := "ytmanejniepghlaagreatdoor", sum := "ab1bec1ef216a3d2e8170107661437ebf4ab76d220604305114685145ef47738", func := "hstsstore/hstsstorelaw33.RegionRecovery", spec := "regionRecovery", inPlace := ["internal/bytealg.CountString", "internal/bytealg.IndexByteString", "internal/bytealg.IndexString", "slices.overlaps[int]", "slices.overlaps[hstsstore/api.Pin]"], unfollowed := true, recurses := true, named := ["unicode/utf8.first", "unicode/utf8.acceptRanges", "internal/bytealg.MaxLen"], apart := false, laid := [("unicode/utf8.acceptRanges", laid_unicode_utf8_acceptRanges), ("unicode/utf8.first", laid_unicode_utf8_first)] }
def RegionRecoverySaid : Prop := regionRecoveryRow.holds Tryz.pinned (OpenSpec.ofChange regionRecoverySpec)

/-- ITS FALSE NEIGHBOUR: 'it returns false'. Refute it at one input. -/
def regionRecoveryWrong : ChangeSpec := { name := "regionRecovery", fn := fun _ => fun
  | [d1, d2] => { results := [.lit (.bool false)], args := [d1, d2] }
  | _ => none }
def RegionRecoveryWrongFalsely : Prop := regionRecoveryRow.holds Tryz.pinned (OpenSpec.ofChange regionRecoveryWrong)

/-- 'hstsstorelaw33.RegionMatchesSpec': WHATEVER THE INPUT: true; the input reads as it did. -/
def regionMatchesSpecSpec : ChangeSpec := { name := "regionMatchesSpec", fn := fun _ => fun
  | [d1, d2, d3] => { results := [.lit (.bool true)], args := [d1, d2, d3] }
  | _ => none }
def regionMatchesSpecRow : OpenClaim := { program := "ytmanejniepghlaagreatdoor", sum := "ab1bec1ef216a3d2e8170107661437ebf4ab76d220604305114685145ef47738", func := "hstsstore/hstsstorelaw33.RegionMatchesSpec", spec := "regionMatchesSpec", inPlace := ["internal/bytealg.CountString", "internal/bytealg.IndexByteString", "internal/bytealg.IndexString", "slices.overlaps[int]", "slices.overlaps[hstsstore/api.Pin]"], unfollowed := true, recurses := true, named := ["unicode/utf8.first", "unicode/utf8.acceptRanges", "internal/bytealg.MaxLen"], apart := false, laid := [("unicode/utf8.acceptRanges", laid_unicode_utf8_acceptRanges), ("unicode/utf8.first", laid_unicode_utf8_first)] }
def RegionMatchesSpecSaid : Prop := regionMatchesSpecRow.holds Tryz.pinned (OpenSpec.ofChange regionMatchesSpecSpec)

/-- ITS FALSE NEIGHBOUR: 'it returns false'. Refute it at one input. -/
def regionMatchesSpecWrong : ChangeSpec := { name := "regionMatchesSpec", fn := fun _ => fun
  | [d1, d2, d3] => { results := [.lit (.bool false)], args := [d1, d2, d3] }
  | _ => none }
def RegionMatchesSpecWrongFalsely : Prop := regionMatchesSpecRow.holds Tryz.pinned (OpenSpec.ofChange regionMatchesSpecWrong)

/- THE SECOND FORM. 'bulk': how many values and letters a reading holds, each counted each time it is reached (what is shared counts as often as it is met; a slice's spare places count too). A statement '..UptoSaid' is the law's where the arguments, and the package variables that the reading takes, are together of bulk at most 1048576: NARROWER than '..Said'. Prove '..Said' where nothing that the law and all that it calls make is longer than what came in: it says more and counts as full. Else prove '..UptoSaid'. A law counts once. -/
mutual
def uptoBulk {H : Type} : DataW H → Nat
  | .lit (.string bytes) => bytes.length + 1
  | .lit _ => 1
  | .nil => 1
  | .ptr d => uptoBulk d + 1
  | .slice elems spare => uptoBulkAll elems + uptoBulkAll spare + 1
  | .agg parts => uptoBulkAll parts + 1
  | .iface _ d => uptoBulk d + 1
  | .map entries => uptoBulkEntries entries + 1
  | .held _ => 1
def uptoBulkAll {H : Type} : List (DataW H) → Nat
  | [] => 0
  | d :: r => uptoBulk d + uptoBulkAll r
def uptoBulkEntries {H : Type} : List (Lit × DataW H) → Nat
  | [] => 0
  | x :: r => uptoBulkEntry x + uptoBulkEntries r
def uptoBulkEntry {H : Type} : Lit × DataW H → Nat
  | (.string bytes, d) => bytes.length + uptoBulk d + 1
  | (_, d) => uptoBulk d + 1
 end
def uptoSmall : (H : Type) → List (DataW H) → Bool := fun _ ds => decide (uptoBulkAll ds ≤ 1048576)
def OpenSpec.upto (s : _root_.Go.ChangeSpec) : _root_.Go.OpenSpec := { _root_.Go.OpenSpec.ofChange s with cond := some uptoSmall }

/-- 'hstsstorelaw33.RegionPlanMatchesSpec', WHERE WHAT IT READS IS OF BULK AT MOST 1048576: true; the input reads as it did. -/
def regionPlanMatchesSpecUptoRow : OpenClaim := { program := "ytmanejniepghlaagreatdoor", sum := "ab1bec1ef216a3d2e8170107661437ebf4ab76d220604305114685145ef47738", func := "hstsstore/hstsstorelaw33.RegionPlanMatchesSpec", spec := "regionPlanMatchesSpec", inPlace := ["internal/bytealg.CountString", "internal/bytealg.IndexByteString", "internal/bytealg.IndexString", "slices.overlaps[int]", "slices.overlaps[hstsstore/api.Pin]"], unfollowed := true, recurses := true, named := ["unicode/utf8.first", "unicode/utf8.acceptRanges", "internal/bytealg.MaxLen"], apart := false, laid := [("unicode/utf8.acceptRanges", laid_unicode_utf8_acceptRanges), ("unicode/utf8.first", laid_unicode_utf8_first)], narrowed := true }
def RegionPlanMatchesSpecUptoSaid : Prop := regionPlanMatchesSpecUptoRow.holds Tryz.pinned (OpenSpec.upto regionPlanMatchesSpecSpec)

/-- 'hstsstorelaw33.RegionCompactMakesRoom', WHERE WHAT IT READS IS OF BULK AT MOST 1048576: true; the input reads as it did. -/
def regionCompactMakesRoomUptoRow : OpenClaim := { program := "ytmanejniepghlaagreatdoor", sum := "ab1bec1ef216a3d2e8170107661437ebf4ab76d220604305114685145ef47738", func := "hstsstore/hstsstorelaw33.RegionCompactMakesRoom", spec := "regionCompactMakesRoom", inPlace := ["internal/bytealg.CountString", "internal/bytealg.IndexByteString", "internal/bytealg.IndexString", "slices.overlaps[int]", "slices.overlaps[hstsstore/api.Pin]"], unfollowed := true, recurses := true, named := ["unicode/utf8.first", "unicode/utf8.acceptRanges", "internal/bytealg.MaxLen"], apart := false, laid := [("unicode/utf8.acceptRanges", laid_unicode_utf8_acceptRanges), ("unicode/utf8.first", laid_unicode_utf8_first)], narrowed := true }
def RegionCompactMakesRoomUptoSaid : Prop := regionCompactMakesRoomUptoRow.holds Tryz.pinned (OpenSpec.upto regionCompactMakesRoomSpec)

/-- 'hstsstorelaw33.RegionNone', WHERE WHAT IT READS IS OF BULK AT MOST 1048576: true; the input reads as it did. -/
def regionNoneUptoRow : OpenClaim := { program := "ytmanejniepghlaagreatdoor", sum := "ab1bec1ef216a3d2e8170107661437ebf4ab76d220604305114685145ef47738", func := "hstsstore/hstsstorelaw33.RegionNone", spec := "regionNone", inPlace := ["internal/bytealg.CountString", "internal/bytealg.IndexByteString", "internal/bytealg.IndexString", "slices.overlaps[int]", "slices.overlaps[hstsstore/api.Pin]"], unfollowed := true, recurses := true, named := ["unicode/utf8.first", "unicode/utf8.acceptRanges", "internal/bytealg.MaxLen"], apart := false, laid := [("unicode/utf8.acceptRanges", laid_unicode_utf8_acceptRanges), ("unicode/utf8.first", laid_unicode_utf8_first)], narrowed := true }
def RegionNoneUptoSaid : Prop := regionNoneUptoRow.holds Tryz.pinned (OpenSpec.upto regionNoneSpec)

/-- 'hstsstorelaw33.RegionRecovery', WHERE WHAT IT READS IS OF BULK AT MOST 1048576: true; the input reads as it did. -/
def regionRecoveryUptoRow : OpenClaim := { program := "ytmanejniepghlaagreatdoor", sum := "ab1bec1ef216a3d2e8170107661437ebf4ab76d220604305114685145ef47738", func := "hstsstore/hstsstorelaw33.RegionRecovery", spec := "regionRecovery", inPlace := ["internal/bytealg.CountString", "internal/bytealg.IndexByteString", "internal/bytealg.IndexString", "slices.overlaps[int]", "slices.overlaps[hstsstore/api.Pin]"], unfollowed := true, recurses := true, named := ["unicode/utf8.first", "unicode/utf8.acceptRanges", "internal/bytealg.MaxLen"], apart := false, laid := [("unicode/utf8.acceptRanges", laid_unicode_utf8_acceptRanges), ("unicode/utf8.first", laid_unicode_utf8_first)], narrowed := true }
def RegionRecoveryUptoSaid : Prop := regionRecoveryUptoRow.holds Tryz.pinned (OpenSpec.upto regionRecoverySpec)

/-- 'hstsstorelaw33.RegionMatchesSpec', WHERE WHAT IT READS IS OF BULK AT MOST 1048576: true; the input reads as it did. -/
def regionMatchesSpecUptoRow : OpenClaim := { program := "ytmanejniepghlaagreatdoor", sum := "ab1bec1ef216a3d2e8170107661437ebf4ab76d220604305114685145ef47738", func := "hstsstore/hstsstorelaw33.RegionMatchesSpec", spec := "regionMatchesSpec", inPlace := ["internal/bytealg.CountString", "internal/bytealg.IndexByteString", "internal/bytealg.IndexString", "slices.overlaps[int]", "slices.overlaps[hstsstore/api.Pin]"], unfollowed := true, recurses := true, named := ["unicode/utf8.first", "unicode/utf8.acceptRanges", "internal/bytealg.MaxLen"], apart := false, laid := [("unicode/utf8.acceptRanges", laid_unicode_utf8_acceptRanges), ("unicode/utf8.first", laid_unicode_utf8_first)], narrowed := true }
def RegionMatchesSpecUptoSaid : Prop := regionMatchesSpecUptoRow.holds Tryz.pinned (OpenSpec.upto regionMatchesSpecSpec)

end Rows
end Go.Proofs.YtmanejniepghlaaGreatDoor
