/-
  NARROWER THAN 'FOR EVERY INPUT', by the rows' own cells (each row's printed sentence says how): UpdateApplyLaws: laid · SnapshotEncodeMatchesSpec: laid · SnapshotDecodeMatchesSpec: laid · SnapshotRoundTrip: laid · SnapshotBound: laid · UpdateRoundTrip: laid.
  DERIVED. THE GIVEN ROWS OF THIS SEAT. 6 by the template 'for every input the law returns true; each argument reads behind the call as it read before'; 0 by the template 'total and deterministic' (their statements: YtjfflnnepndlkaaDoorTotals.lean).
  GIVEN WITH THE SEED: the statements are not yours to turn. If you find one false, say at which input.
  Laid BY PROGRAM, IN A SANDBOX (cutbox-rows.mjs): the forced cells as the released guide's own fill.sh prints them over the translation 900bd82aff82f310… (all of the seat's roots in one cut). By AI agents, Wed Nov 11 2026. No macro, syntax, notation, axiom, sorry.
-/
import Derived.Test.YtjfflnnepndlkaaDoorChecked
import GoSem.PinnedTables
import GoSem.Claim
import GoSem.ClaimJoined
import GoSem.ClaimMapViews
import Derived.JoinedTies
import Derived.KernelRfl
namespace Go.Proofs.YtjfflnnepndlkaaDoor
/- THE CELL 'sum', in the pinned program and in every row, IS THE sha256 OF THE DUMP (.gsa) THAT YtjfflnnepndlkaaDoorProg.lean LOADS. Nothing in Lean hashes anything: it is a label: what it is worth is what the hold of that sum in a sandbox is worth. -/
noncomputable def Tryd.pinned : Pinned := { name := "ytjfflnnepndlkaadoor", sum := "900bd82aff82f3107302ce9e694f478fb75f0e89e17e3832560e86d2dfebd3d2", checked := Tryd.checked }
namespace Rows
def none {H : Type} : Left H := { results := [], args := [] }

/- WHAT THE LISTED PACKAGE-LEVEL VARIABLES READ AS WHEN THE CALL BEGINS. Each datum BY PROGRAM (the guide's laid-datum.mjs) off the statement by which the dump's own 'gosem.cut.vars' lays the variable. In a bare row this is a premise. The card (YtjfflnnepndlkaaDoorCards.lean) ties it to the program's text. -/
def laid_unicode_utf8_acceptRanges {H : Type} : DataW H := .agg [.agg [.lit (.int .u8 128), .lit (.int .u8 191)], .agg [.lit (.int .u8 160), .lit (.int .u8 191)], .agg [.lit (.int .u8 128), .lit (.int .u8 159)], .agg [.lit (.int .u8 144), .lit (.int .u8 191)], .agg [.lit (.int .u8 128), .lit (.int .u8 143)], .agg [.lit (.int .u8 0), .lit (.int .u8 0)], .agg [.lit (.int .u8 0), .lit (.int .u8 0)], .agg [.lit (.int .u8 0), .lit (.int .u8 0)], .agg [.lit (.int .u8 0), .lit (.int .u8 0)], .agg [.lit (.int .u8 0), .lit (.int .u8 0)], .agg [.lit (.int .u8 0), .lit (.int .u8 0)], .agg [.lit (.int .u8 0), .lit (.int .u8 0)], .agg [.lit (.int .u8 0), .lit (.int .u8 0)], .agg [.lit (.int .u8 0), .lit (.int .u8 0)], .agg [.lit (.int .u8 0), .lit (.int .u8 0)], .agg [.lit (.int .u8 0), .lit (.int .u8 0)]]
/-- One of Go's own tables, pinned by name: the form's constant. -/
def laid_unicode_utf8_first : DataW Unit := Go.Pinned.utf8First

/-- 'hstsstorelaw31.UpdateApplyLaws': WHATEVER THE INPUT: true; the input reads as it did. -/
def updateApplyLawsSpec : ChangeSpec := { name := "updateApplyLaws", fn := fun _ => fun
  | [d1, d2, d3] => { results := [.lit (.bool true)], args := [d1, d2, d3] }
  | _ => none }
def updateApplyLawsRow : OpenClaim := { program := "ytjfflnnepndlkaadoor", sum := "900bd82aff82f3107302ce9e694f478fb75f0e89e17e3832560e86d2dfebd3d2", func := "hstsstore/hstsstorelaw31.UpdateApplyLaws", spec := "updateApplyLaws", inPlace := ["internal/bytealg.CountString", "internal/bytealg.IndexByteString", "internal/bytealg.IndexString", "slices.overlaps[int]", "slices.overlaps[hstsstore/api.Pin]"], unfollowed := true, recurses := true, named := ["unicode/utf8.first", "unicode/utf8.acceptRanges", "internal/bytealg.MaxLen"], apart := false, laid := [("unicode/utf8.acceptRanges", laid_unicode_utf8_acceptRanges), ("unicode/utf8.first", laid_unicode_utf8_first)] }
def UpdateApplyLawsSaid : Prop := updateApplyLawsRow.holds Tryd.pinned (OpenSpec.ofChange updateApplyLawsSpec)

/-- ITS FALSE NEIGHBOUR: 'it returns false'. Refute it at one input. -/
def updateApplyLawsWrong : ChangeSpec := { name := "updateApplyLaws", fn := fun _ => fun
  | [d1, d2, d3] => { results := [.lit (.bool false)], args := [d1, d2, d3] }
  | _ => none }
def UpdateApplyLawsWrongFalsely : Prop := updateApplyLawsRow.holds Tryd.pinned (OpenSpec.ofChange updateApplyLawsWrong)

/-- 'hstsstorelaw32.SnapshotEncodeMatchesSpec': WHATEVER THE INPUT: true; the input reads as it did. -/
def snapshotEncodeMatchesSpecSpec : ChangeSpec := { name := "snapshotEncodeMatchesSpec", fn := fun _ => fun
  | [d] => { results := [.lit (.bool true)], args := [d] }
  | _ => none }
def snapshotEncodeMatchesSpecRow : OpenClaim := { program := "ytjfflnnepndlkaadoor", sum := "900bd82aff82f3107302ce9e694f478fb75f0e89e17e3832560e86d2dfebd3d2", func := "hstsstore/hstsstorelaw32.SnapshotEncodeMatchesSpec", spec := "snapshotEncodeMatchesSpec", inPlace := ["internal/bytealg.CountString", "internal/bytealg.IndexByteString", "internal/bytealg.IndexString", "slices.overlaps[int]"], unfollowed := true, recurses := true, named := ["unicode/utf8.first", "unicode/utf8.acceptRanges", "internal/bytealg.MaxLen"], apart := false, laid := [("unicode/utf8.acceptRanges", laid_unicode_utf8_acceptRanges), ("unicode/utf8.first", laid_unicode_utf8_first)] }
def SnapshotEncodeMatchesSpecSaid : Prop := snapshotEncodeMatchesSpecRow.holds Tryd.pinned (OpenSpec.ofChange snapshotEncodeMatchesSpecSpec)

/-- ITS FALSE NEIGHBOUR: 'it returns false'. Refute it at one input. -/
def snapshotEncodeMatchesSpecWrong : ChangeSpec := { name := "snapshotEncodeMatchesSpec", fn := fun _ => fun
  | [d] => { results := [.lit (.bool false)], args := [d] }
  | _ => none }
def SnapshotEncodeMatchesSpecWrongFalsely : Prop := snapshotEncodeMatchesSpecRow.holds Tryd.pinned (OpenSpec.ofChange snapshotEncodeMatchesSpecWrong)

/-- 'hstsstorelaw32.SnapshotDecodeMatchesSpec': WHATEVER THE INPUT: true; the input reads as it did. -/
def snapshotDecodeMatchesSpecSpec : ChangeSpec := { name := "snapshotDecodeMatchesSpec", fn := fun _ => fun
  | [d] => { results := [.lit (.bool true)], args := [d] }
  | _ => none }
def snapshotDecodeMatchesSpecRow : OpenClaim := { program := "ytjfflnnepndlkaadoor", sum := "900bd82aff82f3107302ce9e694f478fb75f0e89e17e3832560e86d2dfebd3d2", func := "hstsstore/hstsstorelaw32.SnapshotDecodeMatchesSpec", spec := "snapshotDecodeMatchesSpec", inPlace := ["internal/bytealg.CountString", "internal/bytealg.IndexByteString", "internal/bytealg.IndexString", "slices.overlaps[int]"], unfollowed := true, recurses := true, named := ["unicode/utf8.first", "unicode/utf8.acceptRanges", "internal/bytealg.MaxLen"], apart := false, laid := [("unicode/utf8.acceptRanges", laid_unicode_utf8_acceptRanges), ("unicode/utf8.first", laid_unicode_utf8_first)] }
def SnapshotDecodeMatchesSpecSaid : Prop := snapshotDecodeMatchesSpecRow.holds Tryd.pinned (OpenSpec.ofChange snapshotDecodeMatchesSpecSpec)

/-- ITS FALSE NEIGHBOUR: 'it returns false'. Refute it at one input. -/
def snapshotDecodeMatchesSpecWrong : ChangeSpec := { name := "snapshotDecodeMatchesSpec", fn := fun _ => fun
  | [d] => { results := [.lit (.bool false)], args := [d] }
  | _ => none }
def SnapshotDecodeMatchesSpecWrongFalsely : Prop := snapshotDecodeMatchesSpecRow.holds Tryd.pinned (OpenSpec.ofChange snapshotDecodeMatchesSpecWrong)

/-- 'hstsstorelaw32.SnapshotRoundTrip': WHATEVER THE INPUT: true; the input reads as it did. -/
def snapshotRoundTripSpec : ChangeSpec := { name := "snapshotRoundTrip", fn := fun _ => fun
  | [d1, d2] => { results := [.lit (.bool true)], args := [d1, d2] }
  | _ => none }
def snapshotRoundTripRow : OpenClaim := { program := "ytjfflnnepndlkaadoor", sum := "900bd82aff82f3107302ce9e694f478fb75f0e89e17e3832560e86d2dfebd3d2", func := "hstsstore/hstsstorelaw32.SnapshotRoundTrip", spec := "snapshotRoundTrip", inPlace := ["internal/bytealg.CountString", "internal/bytealg.IndexByteString", "internal/bytealg.IndexString", "slices.overlaps[int]"], unfollowed := true, recurses := true, named := ["unicode/utf8.first", "unicode/utf8.acceptRanges", "internal/bytealg.MaxLen"], apart := false, laid := [("unicode/utf8.acceptRanges", laid_unicode_utf8_acceptRanges), ("unicode/utf8.first", laid_unicode_utf8_first)] }
def SnapshotRoundTripSaid : Prop := snapshotRoundTripRow.holds Tryd.pinned (OpenSpec.ofChange snapshotRoundTripSpec)

/-- ITS FALSE NEIGHBOUR: 'it returns false'. Refute it at one input. -/
def snapshotRoundTripWrong : ChangeSpec := { name := "snapshotRoundTrip", fn := fun _ => fun
  | [d1, d2] => { results := [.lit (.bool false)], args := [d1, d2] }
  | _ => none }
def SnapshotRoundTripWrongFalsely : Prop := snapshotRoundTripRow.holds Tryd.pinned (OpenSpec.ofChange snapshotRoundTripWrong)

/-- 'hstsstorelaw32.SnapshotBound': WHATEVER THE INPUT: true; the input reads as it did. -/
def snapshotBoundSpec : ChangeSpec := { name := "snapshotBound", fn := fun _ => fun
  | [d1, d2] => { results := [.lit (.bool true)], args := [d1, d2] }
  | _ => none }
def snapshotBoundRow : OpenClaim := { program := "ytjfflnnepndlkaadoor", sum := "900bd82aff82f3107302ce9e694f478fb75f0e89e17e3832560e86d2dfebd3d2", func := "hstsstore/hstsstorelaw32.SnapshotBound", spec := "snapshotBound", inPlace := ["internal/bytealg.CountString", "internal/bytealg.IndexByteString", "internal/bytealg.IndexString", "slices.overlaps[int]"], unfollowed := true, recurses := true, named := ["unicode/utf8.first", "unicode/utf8.acceptRanges", "internal/bytealg.MaxLen"], apart := false, laid := [("unicode/utf8.acceptRanges", laid_unicode_utf8_acceptRanges), ("unicode/utf8.first", laid_unicode_utf8_first)] }
def SnapshotBoundSaid : Prop := snapshotBoundRow.holds Tryd.pinned (OpenSpec.ofChange snapshotBoundSpec)

/-- ITS FALSE NEIGHBOUR: 'it returns false'. Refute it at one input. -/
def snapshotBoundWrong : ChangeSpec := { name := "snapshotBound", fn := fun _ => fun
  | [d1, d2] => { results := [.lit (.bool false)], args := [d1, d2] }
  | _ => none }
def SnapshotBoundWrongFalsely : Prop := snapshotBoundRow.holds Tryd.pinned (OpenSpec.ofChange snapshotBoundWrong)

/-- 'hstsstorelaw31.UpdateRoundTrip': WHATEVER THE INPUT: true; the input reads as it did. -/
def updateRoundTripSpec : ChangeSpec := { name := "updateRoundTrip", fn := fun _ => fun
  | [d1, d2] => { results := [.lit (.bool true)], args := [d1, d2] }
  | _ => none }
def updateRoundTripRow : OpenClaim := { program := "ytjfflnnepndlkaadoor", sum := "900bd82aff82f3107302ce9e694f478fb75f0e89e17e3832560e86d2dfebd3d2", func := "hstsstore/hstsstorelaw31.UpdateRoundTrip", spec := "updateRoundTrip", inPlace := ["internal/bytealg.CountString", "internal/bytealg.IndexByteString", "internal/bytealg.IndexString", "slices.overlaps[int]", "slices.overlaps[hstsstore/api.Pin]"], unfollowed := true, recurses := true, named := ["unicode/utf8.first", "unicode/utf8.acceptRanges", "internal/bytealg.MaxLen"], apart := false, laid := [("unicode/utf8.acceptRanges", laid_unicode_utf8_acceptRanges), ("unicode/utf8.first", laid_unicode_utf8_first)] }
def UpdateRoundTripSaid : Prop := updateRoundTripRow.holds Tryd.pinned (OpenSpec.ofChange updateRoundTripSpec)

/-- ITS FALSE NEIGHBOUR: 'it returns false'. Refute it at one input. -/
def updateRoundTripWrong : ChangeSpec := { name := "updateRoundTrip", fn := fun _ => fun
  | [d1, d2] => { results := [.lit (.bool false)], args := [d1, d2] }
  | _ => none }
def UpdateRoundTripWrongFalsely : Prop := updateRoundTripRow.holds Tryd.pinned (OpenSpec.ofChange updateRoundTripWrong)

/- THE SECOND FORM. 'bulk': how many values and letters a reading holds, each counted each time it is reached (what is shared counts as often as it is met; a slice's spare places count too). A statement '..UptoSaid' is the law's where the arguments, and the package variables that the reading takes, are together of bulk at most 1048576: NARROWER than '..Said'. Prove '..Said' where nothing that the law and all that it calls make is longer than what came in: it says more and counts as full. Else prove '..UptoSaid'. A law counts once. -/
mutual
def uptoBulk {H : Type} : DataW H → Nat
  | .lit (.string bytes) => bytes.length + 1
  | .lit _ => 1
  | .nil => 1
  | .ptr d => uptoBulk d + 1
  | .slice elems spare => uptoBulkAll elems + uptoBulkAll spare + 1
  | .agg parts => uptoBulkAll parts + 1
  | .iface _ d => uptoBulk d + 1
  | .map entries => uptoBulkEntries entries + 1
  | .held _ => 1
def uptoBulkAll {H : Type} : List (DataW H) → Nat
  | [] => 0
  | d :: r => uptoBulk d + uptoBulkAll r
def uptoBulkEntries {H : Type} : List (Lit × DataW H) → Nat
  | [] => 0
  | x :: r => uptoBulkEntry x + uptoBulkEntries r
def uptoBulkEntry {H : Type} : Lit × DataW H → Nat
  | (.string bytes, d) => bytes.length + uptoBulk d + 1
  | (_, d) => uptoBulk d + 1
 end
def uptoSmall : (H : Type) → List (DataW H) → Bool := fun _ ds => decide (uptoBulkAll ds ≤ 1048576)
def OpenSpec.upto (s : _root_.Go.ChangeSpec) : _root_.Go.OpenSpec := { _root_.Go.OpenSpec.ofChange s with cond := some uptoSmall }

/-- 'hstsstorelaw31.UpdateApplyLaws', WHERE WHAT IT READS IS OF BULK AT MOST 1048576: true; the input reads as it did. -/
def updateApplyLawsUptoRow : OpenClaim := { program := "ytjfflnnepndlkaadoor", sum := "900bd82aff82f3107302ce9e694f478fb75f0e89e17e3832560e86d2dfebd3d2", func := "hstsstore/hstsstorelaw31.UpdateApplyLaws", spec := "updateApplyLaws", inPlace := ["internal/bytealg.CountString", "internal/bytealg.IndexByteString", "internal/bytealg.IndexString", "slices.overlaps[int]", "slices.overlaps[hstsstore/api.Pin]"], unfollowed := true, recurses := true, named := ["unicode/utf8.first", "unicode/utf8.acceptRanges", "internal/bytealg.MaxLen"], apart := false, laid := [("unicode/utf8.acceptRanges", laid_unicode_utf8_acceptRanges), ("unicode/utf8.first", laid_unicode_utf8_first)], narrowed := true }
def UpdateApplyLawsUptoSaid : Prop := updateApplyLawsUptoRow.holds Tryd.pinned (OpenSpec.upto updateApplyLawsSpec)

/-- 'hstsstorelaw32.SnapshotEncodeMatchesSpec', WHERE WHAT IT READS IS OF BULK AT MOST 1048576: true; the input reads as it did. -/
def snapshotEncodeMatchesSpecUptoRow : OpenClaim := { program := "ytjfflnnepndlkaadoor", sum := "900bd82aff82f3107302ce9e694f478fb75f0e89e17e3832560e86d2dfebd3d2", func := "hstsstore/hstsstorelaw32.SnapshotEncodeMatchesSpec", spec := "snapshotEncodeMatchesSpec", inPlace := ["internal/bytealg.CountString", "internal/bytealg.IndexByteString", "internal/bytealg.IndexString", "slices.overlaps[int]"], unfollowed := true, recurses := true, named := ["unicode/utf8.first", "unicode/utf8.acceptRanges", "internal/bytealg.MaxLen"], apart := false, laid := [("unicode/utf8.acceptRanges", laid_unicode_utf8_acceptRanges), ("unicode/utf8.first", laid_unicode_utf8_first)], narrowed := true }
def SnapshotEncodeMatchesSpecUptoSaid : Prop := snapshotEncodeMatchesSpecUptoRow.holds Tryd.pinned (OpenSpec.upto snapshotEncodeMatchesSpecSpec)

/-- 'hstsstorelaw32.SnapshotDecodeMatchesSpec', WHERE WHAT IT READS IS OF BULK AT MOST 1048576: true; the input reads as it did. -/
def snapshotDecodeMatchesSpecUptoRow : OpenClaim := { program := "ytjfflnnepndlkaadoor", sum := "900bd82aff82f3107302ce9e694f478fb75f0e89e17e3832560e86d2dfebd3d2", func := "hstsstore/hstsstorelaw32.SnapshotDecodeMatchesSpec", spec := "snapshotDecodeMatchesSpec", inPlace := ["internal/bytealg.CountString", "internal/bytealg.IndexByteString", "internal/bytealg.IndexString", "slices.overlaps[int]"], unfollowed := true, recurses := true, named := ["unicode/utf8.first", "unicode/utf8.acceptRanges", "internal/bytealg.MaxLen"], apart := false, laid := [("unicode/utf8.acceptRanges", laid_unicode_utf8_acceptRanges), ("unicode/utf8.first", laid_unicode_utf8_first)], narrowed := true }
def SnapshotDecodeMatchesSpecUptoSaid : Prop := snapshotDecodeMatchesSpecUptoRow.holds Tryd.pinned (OpenSpec.upto snapshotDecodeMatchesSpecSpec)

/-- 'hstsstorelaw32.SnapshotRoundTrip', WHERE WHAT IT READS IS OF BULK AT MOST 1048576: true; the input reads as it did. -/
def snapshotRoundTripUptoRow : OpenClaim := { program := "ytjfflnnepndlkaadoor", sum := "900bd82aff82f3107302ce9e694f478fb75f0e89e17e3832560e86d2dfebd3d2", func := "hstsstore/hstsstorelaw32.SnapshotRoundTrip", spec := "snapshotRoundTrip", inPlace := ["internal/bytealg.CountString", "internal/bytealg.IndexByteString", "internal/bytealg.IndexString", "slices.overlaps[int]"], unfollowed := true, recurses := true, named := ["unicode/utf8.first", "unicode/utf8.acceptRanges", "internal/bytealg.MaxLen"], apart := false, laid := [("unicode/utf8.acceptRanges", laid_unicode_utf8_acceptRanges), ("unicode/utf8.first", laid_unicode_utf8_first)], narrowed := true }
def SnapshotRoundTripUptoSaid : Prop := snapshotRoundTripUptoRow.holds Tryd.pinned (OpenSpec.upto snapshotRoundTripSpec)

/-- 'hstsstorelaw32.SnapshotBound', WHERE WHAT IT READS IS OF BULK AT MOST 1048576: true; the input reads as it did. -/
def snapshotBoundUptoRow : OpenClaim := { program := "ytjfflnnepndlkaadoor", sum := "900bd82aff82f3107302ce9e694f478fb75f0e89e17e3832560e86d2dfebd3d2", func := "hstsstore/hstsstorelaw32.SnapshotBound", spec := "snapshotBound", inPlace := ["internal/bytealg.CountString", "internal/bytealg.IndexByteString", "internal/bytealg.IndexString", "slices.overlaps[int]"], unfollowed := true, recurses := true, named := ["unicode/utf8.first", "unicode/utf8.acceptRanges", "internal/bytealg.MaxLen"], apart := false, laid := [("unicode/utf8.acceptRanges", laid_unicode_utf8_acceptRanges), ("unicode/utf8.first", laid_unicode_utf8_first)], narrowed := true }
def SnapshotBoundUptoSaid : Prop := snapshotBoundUptoRow.holds Tryd.pinned (OpenSpec.upto snapshotBoundSpec)

/-- 'hstsstorelaw31.UpdateRoundTrip', WHERE WHAT IT READS IS OF BULK AT MOST 1048576: true; the input reads as it did. -/
def updateRoundTripUptoRow : OpenClaim := { program := "ytjfflnnepndlkaadoor", sum := "900bd82aff82f3107302ce9e694f478fb75f0e89e17e3832560e86d2dfebd3d2", func := "hstsstore/hstsstorelaw31.UpdateRoundTrip", spec := "updateRoundTrip", inPlace := ["internal/bytealg.CountString", "internal/bytealg.IndexByteString", "internal/bytealg.IndexString", "slices.overlaps[int]", "slices.overlaps[hstsstore/api.Pin]"], unfollowed := true, recurses := true, named := ["unicode/utf8.first", "unicode/utf8.acceptRanges", "internal/bytealg.MaxLen"], apart := false, laid := [("unicode/utf8.acceptRanges", laid_unicode_utf8_acceptRanges), ("unicode/utf8.first", laid_unicode_utf8_first)], narrowed := true }
def UpdateRoundTripUptoSaid : Prop := updateRoundTripUptoRow.holds Tryd.pinned (OpenSpec.upto updateRoundTripSpec)

end Rows
end Go.Proofs.YtjfflnnepndlkaaDoor
