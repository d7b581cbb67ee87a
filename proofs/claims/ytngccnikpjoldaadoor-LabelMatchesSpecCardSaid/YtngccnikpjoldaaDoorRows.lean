/-
  NARROWER THAN 'FOR EVERY INPUT', by the rows' own cells (each row's printed sentence says how): LabelMatchesSpec: laid · LabelRoundTrip: laid · LabelToASCIIStable: laid · LabelUnicodeInjective: laid.
  DERIVED. THE GIVEN ROWS OF THIS SEAT. 4 by the template 'for every input the law returns true; each argument reads behind the call as it read before'; 0 by the template 'total and deterministic' (their statements: YtngccnikpjoldaaDoorTotals.lean).
  GIVEN WITH THE SEED: the statements are not yours to turn. If you find one false, say at which input.
  Laid BY PROGRAM, IN A SANDBOX (cutbox-rows.mjs): the forced cells as the released guide's own fill.sh prints them over the translation a98e6b8f8d72ac82… (all of the seat's roots in one cut). By AI agents, Wed Nov 11 2026. No macro, syntax, notation, axiom, sorry.
-/
import Derived.Test.YtngccnikpjoldaaDoorChecked
import GoSem.PinnedTables
import GoSem.Claim
import GoSem.ClaimJoined
import GoSem.ClaimMapViews
import Derived.JoinedTies
import Derived.KernelRfl
namespace Go.Proofs.YtngccnikpjoldaaDoor
/- THE CELL 'sum', in the pinned program and in every row, IS THE sha256 OF THE DUMP (.gsa) THAT YtngccnikpjoldaaDoorProg.lean LOADS. Nothing in Lean hashes anything: it is a label: what it is worth is what the hold of that sum in a sandbox is worth. -/
noncomputable def Tryd.pinned : Pinned := { name := "ytngccnikpjoldaadoor", sum := "a98e6b8f8d72ac82e2d93c8ebf44600af3a777d6f6d43ee9c01cbf1f3bc62306", checked := Tryd.checked }
namespace Rows
def none {H : Type} : Left H := { results := [], args := [] }

/- WHAT THE LISTED PACKAGE-LEVEL VARIABLES READ AS WHEN THE CALL BEGINS. Each datum BY PROGRAM (the guide's laid-datum.mjs) off the statement by which the dump's own 'gosem.cut.vars' lays the variable. In a bare row this is a premise. The card (YtngccnikpjoldaaDoorCards.lean) ties it to the program's text. -/
def laid_unicode_utf8_acceptRanges {H : Type} : DataW H := .agg [.agg [.lit (.int .u8 128), .lit (.int .u8 191)], .agg [.lit (.int .u8 160), .lit (.int .u8 191)], .agg [.lit (.int .u8 128), .lit (.int .u8 159)], .agg [.lit (.int .u8 144), .lit (.int .u8 191)], .agg [.lit (.int .u8 128), .lit (.int .u8 143)], .agg [.lit (.int .u8 0), .lit (.int .u8 0)], .agg [.lit (.int .u8 0), .lit (.int .u8 0)], .agg [.lit (.int .u8 0), .lit (.int .u8 0)], .agg [.lit (.int .u8 0), .lit (.int .u8 0)], .agg [.lit (.int .u8 0), .lit (.int .u8 0)], .agg [.lit (.int .u8 0), .lit (.int .u8 0)], .agg [.lit (.int .u8 0), .lit (.int .u8 0)], .agg [.lit (.int .u8 0), .lit (.int .u8 0)], .agg [.lit (.int .u8 0), .lit (.int .u8 0)], .agg [.lit (.int .u8 0), .lit (.int .u8 0)], .agg [.lit (.int .u8 0), .lit (.int .u8 0)]]
/-- One of Go's own tables, pinned by name: the form's constant. -/
def laid_unicode_utf8_first : DataW Unit := Go.Pinned.utf8First

/-- 'hstsstorelaw13.LabelMatchesSpec': WHATEVER THE INPUT: true; the input reads as it did. -/
def labelMatchesSpecSpec : ChangeSpec := { name := "labelMatchesSpec", fn := fun _ => fun
  | [d] => { results := [.lit (.bool true)], args := [d] }
  | _ => none }
def labelMatchesSpecRow : OpenClaim := { program := "ytngccnikpjoldaadoor", sum := "a98e6b8f8d72ac82e2d93c8ebf44600af3a777d6f6d43ee9c01cbf1f3bc62306", func := "hstsstore/hstsstorelaw13.LabelMatchesSpec", spec := "labelMatchesSpec", inPlace := ["slices.overlaps[int]"], unfollowed := true, recurses := true, named := ["unicode/utf8.first", "unicode/utf8.acceptRanges"], apart := false, laid := [("unicode/utf8.acceptRanges", laid_unicode_utf8_acceptRanges), ("unicode/utf8.first", laid_unicode_utf8_first)] }
def LabelMatchesSpecSaid : Prop := labelMatchesSpecRow.holds Tryd.pinned (OpenSpec.ofChange labelMatchesSpecSpec)

/-- ITS FALSE NEIGHBOUR: 'it returns false'. Refute it at one input. -/
def labelMatchesSpecWrong : ChangeSpec := { name := "labelMatchesSpec", fn := fun _ => fun
  | [d] => { results := [.lit (.bool false)], args := [d] }
  | _ => none }
def LabelMatchesSpecWrongFalsely : Prop := labelMatchesSpecRow.holds Tryd.pinned (OpenSpec.ofChange labelMatchesSpecWrong)

/-- 'hstsstorelaw13.LabelRoundTrip': WHATEVER THE INPUT: true; the input reads as it did. -/
def labelRoundTripSpec : ChangeSpec := { name := "labelRoundTrip", fn := fun _ => fun
  | [d] => { results := [.lit (.bool true)], args := [d] }
  | _ => none }
def labelRoundTripRow : OpenClaim := { program := "ytngccnikpjoldaadoor", sum := "a98e6b8f8d72ac82e2d93c8ebf44600af3a777d6f6d43ee9c01cbf1f3bc62306", func := "hstsstore/hstsstorelaw13.LabelRoundTrip", spec := "labelRoundTrip", inPlace := ["slices.overlaps[int]"], unfollowed := true, recurses := true, named := ["unicode/utf8.first", "unicode/utf8.acceptRanges"], apart := false, laid := [("unicode/utf8.acceptRanges", laid_unicode_utf8_acceptRanges), ("unicode/utf8.first", laid_unicode_utf8_first)] }
def LabelRoundTripSaid : Prop := labelRoundTripRow.holds Tryd.pinned (OpenSpec.ofChange labelRoundTripSpec)

/-- ITS FALSE NEIGHBOUR: 'it returns false'. Refute it at one input. -/
def labelRoundTripWrong : ChangeSpec := { name := "labelRoundTrip", fn := fun _ => fun
  | [d] => { results := [.lit (.bool false)], args := [d] }
  | _ => none }
def LabelRoundTripWrongFalsely : Prop := labelRoundTripRow.holds Tryd.pinned (OpenSpec.ofChange labelRoundTripWrong)

/-- 'hstsstorelaw13.LabelToASCIIStable': WHATEVER THE INPUT: true; the input reads as it did. -/
def labelToASCIIStableSpec : ChangeSpec := { name := "labelToASCIIStable", fn := fun _ => fun
  | [d] => { results := [.lit (.bool true)], args := [d] }
  | _ => none }
def labelToASCIIStableRow : OpenClaim := { program := "ytngccnikpjoldaadoor", sum := "a98e6b8f8d72ac82e2d93c8ebf44600af3a777d6f6d43ee9c01cbf1f3bc62306", func := "hstsstore/hstsstorelaw13.LabelToASCIIStable", spec := "labelToASCIIStable", inPlace := ["slices.overlaps[int]"], unfollowed := true, recurses := true, named := ["unicode/utf8.first", "unicode/utf8.acceptRanges"], apart := false, laid := [("unicode/utf8.acceptRanges", laid_unicode_utf8_acceptRanges), ("unicode/utf8.first", laid_unicode_utf8_first)] }
def LabelToASCIIStableSaid : Prop := labelToASCIIStableRow.holds Tryd.pinned (OpenSpec.ofChange labelToASCIIStableSpec)

/-- ITS FALSE NEIGHBOUR: 'it returns false'. Refute it at one input. -/
def labelToASCIIStableWrong : ChangeSpec := { name := "labelToASCIIStable", fn := fun _ => fun
  | [d] => { results := [.lit (.bool false)], args := [d] }
  | _ => none }
def LabelToASCIIStableWrongFalsely : Prop := labelToASCIIStableRow.holds Tryd.pinned (OpenSpec.ofChange labelToASCIIStableWrong)

/-- 'hstsstorelaw13.LabelUnicodeInjective': WHATEVER THE INPUT: true; the input reads as it did. -/
def labelUnicodeInjectiveSpec : ChangeSpec := { name := "labelUnicodeInjective", fn := fun _ => fun
  | [d1, d2] => { results := [.lit (.bool true)], args := [d1, d2] }
  | _ => none }
def labelUnicodeInjectiveRow : OpenClaim := { program := "ytngccnikpjoldaadoor", sum := "a98e6b8f8d72ac82e2d93c8ebf44600af3a777d6f6d43ee9c01cbf1f3bc62306", func := "hstsstore/hstsstorelaw13.LabelUnicodeInjective", spec := "labelUnicodeInjective", inPlace := ["slices.overlaps[int]"], unfollowed := true, recurses := true, named := ["unicode/utf8.first", "unicode/utf8.acceptRanges"], apart := false, laid := [("unicode/utf8.acceptRanges", laid_unicode_utf8_acceptRanges), ("unicode/utf8.first", laid_unicode_utf8_first)] }
def LabelUnicodeInjectiveSaid : Prop := labelUnicodeInjectiveRow.holds Tryd.pinned (OpenSpec.ofChange labelUnicodeInjectiveSpec)

/-- ITS FALSE NEIGHBOUR: 'it returns false'. Refute it at one input. -/
def labelUnicodeInjectiveWrong : ChangeSpec := { name := "labelUnicodeInjective", fn := fun _ => fun
  | [d1, d2] => { results := [.lit (.bool false)], args := [d1, d2] }
  | _ => none }
def LabelUnicodeInjectiveWrongFalsely : Prop := labelUnicodeInjectiveRow.holds Tryd.pinned (OpenSpec.ofChange labelUnicodeInjectiveWrong)

/- THE SECOND FORM. 'bulk': how many values and letters a reading holds, each counted each time it is reached (what is shared counts as often as it is met; a slice's spare places count too). A statement '..UptoSaid' is the law's where the arguments, and the package variables that the reading takes, are together of bulk at most 1048576: NARROWER than '..Said'. Prove '..Said' where nothing that the law and all that it calls make is longer than what came in: it says more and counts as full. Else prove '..UptoSaid'. A law counts once. -/
mutual
def uptoBulk {H : Type} : DataW H → Nat
  | .lit (.string bytes) => bytes.length + 1
  | .lit _ => 1
  | .nil => 1
  | .ptr d => uptoBulk d + 1
  | .slice elems spare => uptoBulkAll elems + uptoBulkAll spare + 1
  | .agg parts => uptoBulkAll parts + 1
  | .iface _ d => uptoBulk d + 1
  | .map entries => uptoBulkEntries entries + 1
  | .held _ => 1
def uptoBulkAll {H : Type} : List (DataW H) → Nat
  | [] => 0
  | d :: r => uptoBulk d + uptoBulkAll r
def uptoBulkEntries {H : Type} : List (Lit × DataW H) → Nat
  | [] => 0
  | x :: r => uptoBulkEntry x + uptoBulkEntries r
def uptoBulkEntry {H : Type} : Lit × DataW H → Nat
  | (.string bytes, d) => bytes.length + uptoBulk d + 1
  | (_, d) => uptoBulk d + 1
 end
def uptoSmall : (H : Type) → List (DataW H) → Bool := fun _ ds => decide (uptoBulkAll ds ≤ 1048576)
def OpenSpec.upto (s : _root_.Go.ChangeSpec) : _root_.Go.OpenSpec := { _root_.Go.OpenSpec.ofChange s with cond := some uptoSmall }

/-- 'hstsstorelaw13.LabelMatchesSpec', WHERE WHAT IT READS IS OF BULK AT MOST 1048576: true; the input reads as it did. -/
def labelMatchesSpecUptoRow : OpenClaim := { program := "ytngccnikpjoldaadoor", sum := "a98e6b8f8d72ac82e2d93c8ebf44600af3a777d6f6d43ee9c01cbf1f3bc62306", func := "hstsstore/hstsstorelaw13.LabelMatchesSpec", spec := "labelMatchesSpec", inPlace := ["slices.overlaps[int]"], unfollowed := true, recurses := true, named := ["unicode/utf8.first", "unicode/utf8.acceptRanges"], apart := false, laid := [("unicode/utf8.acceptRanges", laid_unicode_utf8_acceptRanges), ("unicode/utf8.first", laid_unicode_utf8_first)], narrowed := true }
def LabelMatchesSpecUptoSaid : Prop := labelMatchesSpecUptoRow.holds Tryd.pinned (OpenSpec.upto labelMatchesSpecSpec)

/-- 'hstsstorelaw13.LabelRoundTrip', WHERE WHAT IT READS IS OF BULK AT MOST 1048576: true; the input reads as it did. -/
def labelRoundTripUptoRow : OpenClaim := { program := "ytngccnikpjoldaadoor", sum := "a98e6b8f8d72ac82e2d93c8ebf44600af3a777d6f6d43ee9c01cbf1f3bc62306", func := "hstsstore/hstsstorelaw13.LabelRoundTrip", spec := "labelRoundTrip", inPlace := ["slices.overlaps[int]"], unfollowed := true, recurses := true, named := ["unicode/utf8.first", "unicode/utf8.acceptRanges"], apart := false, laid := [("unicode/utf8.acceptRanges", laid_unicode_utf8_acceptRanges), ("unicode/utf8.first", laid_unicode_utf8_first)], narrowed := true }
def LabelRoundTripUptoSaid : Prop := labelRoundTripUptoRow.holds Tryd.pinned (OpenSpec.upto labelRoundTripSpec)

/-- 'hstsstorelaw13.LabelToASCIIStable', WHERE WHAT IT READS IS OF BULK AT MOST 1048576: true; the input reads as it did. -/
def labelToASCIIStableUptoRow : OpenClaim := { program := "ytngccnikpjoldaadoor", sum := "a98e6b8f8d72ac82e2d93c8ebf44600af3a777d6f6d43ee9c01cbf1f3bc62306", func := "hstsstore/hstsstorelaw13.LabelToASCIIStable", spec := "labelToASCIIStable", inPlace := ["slices.overlaps[int]"], unfollowed := true, recurses := true, named := ["unicode/utf8.first", "unicode/utf8.acceptRanges"], apart := false, laid := [("unicode/utf8.acceptRanges", laid_unicode_utf8_acceptRanges), ("unicode/utf8.first", laid_unicode_utf8_first)], narrowed := true }
def LabelToASCIIStableUptoSaid : Prop := labelToASCIIStableUptoRow.holds Tryd.pinned (OpenSpec.upto labelToASCIIStableSpec)

/-- 'hstsstorelaw13.LabelUnicodeInjective', WHERE WHAT IT READS IS OF BULK AT MOST 1048576: true; the input reads as it did. -/
def labelUnicodeInjectiveUptoRow : OpenClaim := { program := "ytngccnikpjoldaadoor", sum := "a98e6b8f8d72ac82e2d93c8ebf44600af3a777d6f6d43ee9c01cbf1f3bc62306", func := "hstsstore/hstsstorelaw13.LabelUnicodeInjective", spec := "labelUnicodeInjective", inPlace := ["slices.overlaps[int]"], unfollowed := true, recurses := true, named := ["unicode/utf8.first", "unicode/utf8.acceptRanges"], apart := false, laid := [("unicode/utf8.acceptRanges", laid_unicode_utf8_acceptRanges), ("unicode/utf8.first", laid_unicode_utf8_first)], narrowed := true }
def LabelUnicodeInjectiveUptoSaid : Prop := labelUnicodeInjectiveUptoRow.holds Tryd.pinned (OpenSpec.upto labelUnicodeInjectiveSpec)

end Rows
end Go.Proofs.YtngccnikpjoldaaDoor
