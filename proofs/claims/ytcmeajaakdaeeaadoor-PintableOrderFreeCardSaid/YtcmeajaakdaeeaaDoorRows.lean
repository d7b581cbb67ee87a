/-
  NARROWER THAN 'FOR EVERY INPUT', by the rows' own cells (each row's printed sentence says how): PinCodecMatchesSpec: laid · PinRoundTrip: laid · PinCompareMatchesSpec: laid · PinSubdomainsTogether: laid · PintableOrderFree: laid · PintableSorted: laid · PintableLoadMatchesSpec: laid.
  DERIVED. THE GIVEN ROWS OF THIS SEAT. 7 by the template 'for every input the law returns true; each argument reads behind the call as it read before'; 0 by the template 'total and deterministic' (their statements: YtcmeajaakdaeeaaDoorTotals.lean).
  GIVEN WITH THE SEED: the statements are not yours to turn. If you find one false, say at which input.
  Laid BY PROGRAM, IN A SANDBOX (cutbox-rows.mjs): the forced cells as the released guide's own fill.sh prints them over the translation 26905db437215a14… (all of the seat's roots in one cut). By AI agents, Wed Nov 11 2026. No macro, syntax, notation, axiom, sorry.
-/
import Derived.Test.YtcmeajaakdaeeaaDoorChecked
import GoSem.PinnedTables
import GoSem.Claim
import GoSem.ClaimJoined
import GoSem.ClaimMapViews
import Derived.JoinedTies
import Derived.KernelRfl
namespace Go.Proofs.YtcmeajaakdaeeaaDoor
/- THE CELL 'sum', in the pinned program and in every row, IS THE sha256 OF THE DUMP (.gsa) THAT YtcmeajaakdaeeaaDoorProg.lean LOADS. Nothing in Lean hashes anything: it is a label: what it is worth is what the hold of that sum in a sandbox is worth. -/
noncomputable def Tryd.pinned : Pinned := { name := "ytcmeajaakdaeeaadoor", sum := "26905db437215a14f569211c8d11e010e1073734c3031e57a7ab26050158e822", checked := Tryd.checked }
namespace Rows
def none {H : Type} : Left H := { results := [], args := [] }

/- WHAT THE LISTED PACKAGE-LEVEL VARIABLES READ AS WHEN THE CALL BEGINS. Each datum BY PROGRAM (the guide's laid-datum.mjs) off the statement by which the dump's own 'gosem.cut.vars' lays the variable. In a bare row this is a premise. The card (YtcmeajaakdaeeaaDoorCards.lean) ties it to the program's text. -/
def laid_unicode_utf8_acceptRanges {H : Type} : DataW H := .agg [.agg [.lit (.int .u8 128), .lit (.int .u8 191)], .agg [.lit (.int .u8 160), .lit (.int .u8 191)], .agg [.lit (.int .u8 128), .lit (.int .u8 159)], .agg [.lit (.int .u8 144), .lit (.int .u8 191)], .agg [.lit (.int .u8 128), .lit (.int .u8 143)], .agg [.lit (.int .u8 0), .lit (.int .u8 0)], .agg [.lit (.int .u8 0), .lit (.int .u8 0)], .agg [.lit (.int .u8 0), .lit (.int .u8 0)], .agg [.lit (.int .u8 0), .lit (.int .u8 0)], .agg [.lit (.int .u8 0), .lit (.int .u8 0)], .agg [.lit (.int .u8 0), .lit (.int .u8 0)], .agg [.lit (.int .u8 0), .lit (.int .u8 0)], .agg [.lit (.int .u8 0), .lit (.int .u8 0)], .agg [.lit (.int .u8 0), .lit (.int .u8 0)], .agg [.lit (.int .u8 0), .lit (.int .u8 0)], .agg [.lit (.int .u8 0), .lit (.int .u8 0)]]
/-- One of Go's own tables, pinned by name: the form's constant. -/
def laid_unicode_utf8_first : DataW Unit := Go.Pinned.utf8First

/-- 'hstsstorelaw22.PinCodecMatchesSpec': WHATEVER THE INPUT: true; the input reads as it did. -/
def pinCodecMatchesSpecSpec : ChangeSpec := { name := "pinCodecMatchesSpec", fn := fun _ => fun
  | [d1, d2] => { results := [.lit (.bool true)], args := [d1, d2] }
  | _ => none }
def pinCodecMatchesSpecRow : OpenClaim := { program := "ytcmeajaakdaeeaadoor", sum := "26905db437215a14f569211c8d11e010e1073734c3031e57a7ab26050158e822", func := "hstsstore/hstsstorelaw22.PinCodecMatchesSpec", spec := "pinCodecMatchesSpec", inPlace := ["internal/bytealg.CountString", "internal/bytealg.IndexByteString", "internal/bytealg.IndexString", "slices.overlaps[int]"], unfollowed := true, recurses := true, named := ["unicode/utf8.first", "unicode/utf8.acceptRanges", "internal/bytealg.MaxLen"], apart := false, laid := [("unicode/utf8.acceptRanges", laid_unicode_utf8_acceptRanges), ("unicode/utf8.first", laid_unicode_utf8_first)] }
def PinCodecMatchesSpecSaid : Prop := pinCodecMatchesSpecRow.holds Tryd.pinned (OpenSpec.ofChange pinCodecMatchesSpecSpec)

/-- ITS FALSE NEIGHBOUR: 'it returns false'. Refute it at one input. -/
def pinCodecMatchesSpecWrong : ChangeSpec := { name := "pinCodecMatchesSpec", fn := fun _ => fun
  | [d1, d2] => { results := [.lit (.bool false)], args := [d1, d2] }
  | _ => none }
def PinCodecMatchesSpecWrongFalsely : Prop := pinCodecMatchesSpecRow.holds Tryd.pinned (OpenSpec.ofChange pinCodecMatchesSpecWrong)

/-- 'hstsstorelaw22.PinRoundTrip': WHATEVER THE INPUT: true; the input reads as it did. -/
def pinRoundTripSpec : ChangeSpec := { name := "pinRoundTrip", fn := fun _ => fun
  | [d1, d2] => { results := [.lit (.bool true)], args := [d1, d2] }
  | _ => none }
def pinRoundTripRow : OpenClaim := { program := "ytcmeajaakdaeeaadoor", sum := "26905db437215a14f569211c8d11e010e1073734c3031e57a7ab26050158e822", func := "hstsstore/hstsstorelaw22.PinRoundTrip", spec := "pinRoundTrip", inPlace := ["internal/bytealg.CountString", "internal/bytealg.IndexByteString", "internal/bytealg.IndexString", "slices.overlaps[int]"], unfollowed := true, recurses := true, named := ["unicode/utf8.first", "unicode/utf8.acceptRanges", "internal/bytealg.MaxLen"], apart := false, laid := [("unicode/utf8.acceptRanges", laid_unicode_utf8_acceptRanges), ("unicode/utf8.first", laid_unicode_utf8_first)] }
def PinRoundTripSaid : Prop := pinRoundTripRow.holds Tryd.pinned (OpenSpec.ofChange pinRoundTripSpec)

/-- ITS FALSE NEIGHBOUR: 'it returns false'. Refute it at one input. -/
def pinRoundTripWrong : ChangeSpec := { name := "pinRoundTrip", fn := fun _ => fun
  | [d1, d2] => { results := [.lit (.bool false)], args := [d1, d2] }
  | _ => none }
def PinRoundTripWrongFalsely : Prop := pinRoundTripRow.holds Tryd.pinned (OpenSpec.ofChange pinRoundTripWrong)

/-- 'hstsstorelaw22.PinCompareMatchesSpec': WHATEVER THE INPUT: true; the input reads as it did. -/
def pinCompareMatchesSpecSpec : ChangeSpec := { name := "pinCompareMatchesSpec", fn := fun _ => fun
  | [d1, d2, d3] => { results := [.lit (.bool true)], args := [d1, d2, d3] }
  | _ => none }
def pinCompareMatchesSpecRow : OpenClaim := { program := "ytcmeajaakdaeeaadoor", sum := "26905db437215a14f569211c8d11e010e1073734c3031e57a7ab26050158e822", func := "hstsstore/hstsstorelaw22.PinCompareMatchesSpec", spec := "pinCompareMatchesSpec", inPlace := ["internal/bytealg.CountString", "internal/bytealg.IndexByteString", "internal/bytealg.IndexString", "slices.overlaps[int]"], unfollowed := true, recurses := true, named := ["unicode/utf8.first", "unicode/utf8.acceptRanges", "internal/bytealg.MaxLen"], apart := false, laid := [("unicode/utf8.acceptRanges", laid_unicode_utf8_acceptRanges), ("unicode/utf8.first", laid_unicode_utf8_first)] }
def PinCompareMatchesSpecSaid : Prop := pinCompareMatchesSpecRow.holds Tryd.pinned (OpenSpec.ofChange pinCompareMatchesSpecSpec)

/-- ITS FALSE NEIGHBOUR: 'it returns false'. Refute it at one input. -/
def pinCompareMatchesSpecWrong : ChangeSpec := { name := "pinCompareMatchesSpec", fn := fun _ => fun
  | [d1, d2, d3] => { results := [.lit (.bool false)], args := [d1, d2, d3] }
  | _ => none }
def PinCompareMatchesSpecWrongFalsely : Prop := pinCompareMatchesSpecRow.holds Tryd.pinned (OpenSpec.ofChange pinCompareMatchesSpecWrong)

/-- 'hstsstorelaw22.PinSubdomainsTogether': WHATEVER THE INPUT: true; the input reads as it did. -/
def pinSubdomainsTogetherSpec : ChangeSpec := { name := "pinSubdomainsTogether", fn := fun _ => fun
  | [d1, d2, d3] => { results := [.lit (.bool true)], args := [d1, d2, d3] }
  | _ => none }
def pinSubdomainsTogetherRow : OpenClaim := { program := "ytcmeajaakdaeeaadoor", sum := "26905db437215a14f569211c8d11e010e1073734c3031e57a7ab26050158e822", func := "hstsstore/hstsstorelaw22.PinSubdomainsTogether", spec := "pinSubdomainsTogether", inPlace := ["internal/bytealg.CountString", "internal/bytealg.IndexByteString", "internal/bytealg.IndexString", "slices.overlaps[int]"], unfollowed := true, recurses := true, named := ["unicode/utf8.first", "unicode/utf8.acceptRanges", "internal/bytealg.MaxLen"], apart := false, laid := [("unicode/utf8.acceptRanges", laid_unicode_utf8_acceptRanges), ("unicode/utf8.first", laid_unicode_utf8_first)] }
def PinSubdomainsTogetherSaid : Prop := pinSubdomainsTogetherRow.holds Tryd.pinned (OpenSpec.ofChange pinSubdomainsTogetherSpec)

/-- ITS FALSE NEIGHBOUR: 'it returns false'. Refute it at one input. -/
def pinSubdomainsTogetherWrong : ChangeSpec := { name := "pinSubdomainsTogether", fn := fun _ => fun
  | [d1, d2, d3] => { results := [.lit (.bool false)], args := [d1, d2, d3] }
  | _ => none }
def PinSubdomainsTogetherWrongFalsely : Prop := pinSubdomainsTogetherRow.holds Tryd.pinned (OpenSpec.ofChange pinSubdomainsTogetherWrong)

/-- 'hstsstorelaw23.PintableOrderFree': WHATEVER THE INPUT: true; the input reads as it did. -/
def pintableOrderFreeSpec : ChangeSpec := { name := "pintableOrderFree", fn := fun _ => fun
  | [d1, d2, d3] => { results := [.lit (.bool true)], args := [d1, d2, d3] }
  | _ => none }
def pintableOrderFreeRow : OpenClaim := { program := "ytcmeajaakdaeeaadoor", sum := "26905db437215a14f569211c8d11e010e1073734c3031e57a7ab26050158e822", func := "hstsstore/hstsstorelaw23.PintableOrderFree", spec := "pintableOrderFree", inPlace := ["internal/bytealg.CountString", "internal/bytealg.IndexByteString", "internal/bytealg.IndexString", "slices.overlaps[int]", "slices.overlaps[hstsstore/api.Pin]"], unfollowed := true, recurses := true, named := ["unicode/utf8.first", "unicode/utf8.acceptRanges", "internal/bytealg.MaxLen"], apart := false, laid := [("unicode/utf8.acceptRanges", laid_unicode_utf8_acceptRanges), ("unicode/utf8.first", laid_unicode_utf8_first)] }
def PintableOrderFreeSaid : Prop := pintableOrderFreeRow.holds Tryd.pinned (OpenSpec.ofChange pintableOrderFreeSpec)

/-- ITS FALSE NEIGHBOUR: 'it returns false'. Refute it at one input. -/
def pintableOrderFreeWrong : ChangeSpec := { name := "pintableOrderFree", fn := fun _ => fun
  | [d1, d2, d3] => { results := [.lit (.bool false)], args := [d1, d2, d3] }
  | _ => none }
def PintableOrderFreeWrongFalsely : Prop := pintableOrderFreeRow.holds Tryd.pinned (OpenSpec.ofChange pintableOrderFreeWrong)

/-- 'hstsstorelaw23.PintableSorted': WHATEVER THE INPUT: true; the input reads as it did. -/
def pintableSortedSpec : ChangeSpec := { name := "pintableSorted", fn := fun _ => fun
  | [d1, d2] => { results := [.lit (.bool true)], args := [d1, d2] }
  | _ => none }
def pintableSortedRow : OpenClaim := { program := "ytcmeajaakdaeeaadoor", sum := "26905db437215a14f569211c8d11e010e1073734c3031e57a7ab26050158e822", func := "hstsstore/hstsstorelaw23.PintableSorted", spec := "pintableSorted", inPlace := ["internal/bytealg.CountString", "internal/bytealg.IndexByteString", "internal/bytealg.IndexString", "slices.overlaps[int]", "slices.overlaps[hstsstore/api.Pin]"], unfollowed := true, recurses := true, named := ["unicode/utf8.first", "unicode/utf8.acceptRanges", "internal/bytealg.MaxLen"], apart := false, laid := [("unicode/utf8.acceptRanges", laid_unicode_utf8_acceptRanges), ("unicode/utf8.first", laid_unicode_utf8_first)] }
def PintableSortedSaid : Prop := pintableSortedRow.holds Tryd.pinned (OpenSpec.ofChange pintableSortedSpec)

/-- ITS FALSE NEIGHBOUR: 'it returns false'. Refute it at one input. -/
def pintableSortedWrong : ChangeSpec := { name := "pintableSorted", fn := fun _ => fun
  | [d1, d2] => { results := [.lit (.bool false)], args := [d1, d2] }
  | _ => none }
def PintableSortedWrongFalsely : Prop := pintableSortedRow.holds Tryd.pinned (OpenSpec.ofChange pintableSortedWrong)

/-- 'hstsstorelaw23.PintableLoadMatchesSpec': WHATEVER THE INPUT: true; the input reads as it did. -/
def pintableLoadMatchesSpecSpec : ChangeSpec := { name := "pintableLoadMatchesSpec", fn := fun _ => fun
  | [d1, d2] => { results := [.lit (.bool true)], args := [d1, d2] }
  | _ => none }
def pintableLoadMatchesSpecRow : OpenClaim := { program := "ytcmeajaakdaeeaadoor", sum := "26905db437215a14f569211c8d11e010e1073734c3031e57a7ab26050158e822", func := "hstsstore/hstsstorelaw23.PintableLoadMatchesSpec", spec := "pintableLoadMatchesSpec", inPlace := ["internal/bytealg.CountString", "internal/bytealg.IndexByteString", "internal/bytealg.IndexString", "slices.overlaps[int]", "slices.overlaps[hstsstore/api.Pin]"], unfollowed := true, recurses := true, named := ["unicode/utf8.first", "unicode/utf8.acceptRanges", "internal/bytealg.MaxLen"], apart := false, laid := [("unicode/utf8.acceptRanges", laid_unicode_utf8_acceptRanges), ("unicode/utf8.first", laid_unicode_utf8_first)] }
def PintableLoadMatchesSpecSaid : Prop := pintableLoadMatchesSpecRow.holds Tryd.pinned (OpenSpec.ofChange pintableLoadMatchesSpecSpec)

/-- ITS FALSE NEIGHBOUR: 'it returns false'. Refute it at one input. -/
def pintableLoadMatchesSpecWrong : ChangeSpec := { name := "pintableLoadMatchesSpec", fn := fun _ => fun
  | [d1, d2] => { results := [.lit (.bool false)], args := [d1, d2] }
  | _ => none }
def PintableLoadMatchesSpecWrongFalsely : Prop := pintableLoadMatchesSpecRow.holds Tryd.pinned (OpenSpec.ofChange pintableLoadMatchesSpecWrong)

/- THE SECOND FORM. 'bulk': how many values and letters a reading holds, each counted each time it is reached (what is shared counts as often as it is met; a slice's spare places count too). A statement '..UptoSaid' is the law's where the arguments, and the package variables that the reading takes, are together of bulk at most 1048576: NARROWER than '..Said'. Prove '..Said' where nothing that the law and all that it calls make is longer than what came in: it says more and counts as full. Else prove '..UptoSaid'. A law counts once. -/
mutual
def uptoBulk {H : Type} : DataW H → Nat
  | .lit (.string bytes) => bytes.length + 1
  | .lit _ => 1
  | .nil => 1
  | .ptr d => uptoBulk d + 1
  | .slice elems spare => uptoBulkAll elems + uptoBulkAll spare + 1
  | .agg parts => uptoBulkAll parts + 1
  | .iface _ d => uptoBulk d + 1
  | .map entries => uptoBulkEntries entries + 1
  | .held _ => 1
def uptoBulkAll {H : Type} : List (DataW H) → Nat
  | [] => 0
  | d :: r => uptoBulk d + uptoBulkAll r
def uptoBulkEntries {H : Type} : List (Lit × DataW H) → Nat
  | [] => 0
  | x :: r => uptoBulkEntry x + uptoBulkEntries r
def uptoBulkEntry {H : Type} : Lit × DataW H → Nat
  | (.string bytes, d) => bytes.length + uptoBulk d + 1
  | (_, d) => uptoBulk d + 1
 end
def uptoSmall : (H : Type) → List (DataW H) → Bool := fun _ ds => decide (uptoBulkAll ds ≤ 1048576)
def OpenSpec.upto (s : _root_.Go.ChangeSpec) : _root_.Go.OpenSpec := { _root_.Go.OpenSpec.ofChange s with cond := some uptoSmall }

/-- 'hstsstorelaw22.PinCodecMatchesSpec', WHERE WHAT IT READS IS OF BULK AT MOST 1048576: true; the input reads as it did. -/
def pinCodecMatchesSpecUptoRow : OpenClaim := { program := "ytcmeajaakdaeeaadoor", sum := "26905db437215a14f569211c8d11e010e1073734c3031e57a7ab26050158e822", func := "hstsstore/hstsstorelaw22.PinCodecMatchesSpec", spec := "pinCodecMatchesSpec", inPlace := ["internal/bytealg.CountString", "internal/bytealg.IndexByteString", "internal/bytealg.IndexString", "slices.overlaps[int]"], unfollowed := true, recurses := true, named := ["unicode/utf8.first", "unicode/utf8.acceptRanges", "internal/bytealg.MaxLen"], apart := false, laid := [("unicode/utf8.acceptRanges", laid_unicode_utf8_acceptRanges), ("unicode/utf8.first", laid_unicode_utf8_first)], narrowed := true }
def PinCodecMatchesSpecUptoSaid : Prop := pinCodecMatchesSpecUptoRow.holds Tryd.pinned (OpenSpec.upto pinCodecMatchesSpecSpec)

/-- 'hstsstorelaw22.PinRoundTrip', WHERE WHAT IT READS IS OF BULK AT MOST 1048576: true; the input reads as it did. -/
def pinRoundTripUptoRow : OpenClaim := { program := "ytcmeajaakdaeeaadoor", sum := "26905db437215a14f569211c8d11e010e1073734c3031e57a7ab26050158e822", func := "hstsstore/hstsstorelaw22.PinRoundTrip", spec := "pinRoundTrip", inPlace := ["internal/bytealg.CountString", "internal/bytealg.IndexByteString", "internal/bytealg.IndexString", "slices.overlaps[int]"], unfollowed := true, recurses := true, named := ["unicode/utf8.first", "unicode/utf8.acceptRanges", "internal/bytealg.MaxLen"], apart := false, laid := [("unicode/utf8.acceptRanges", laid_unicode_utf8_acceptRanges), ("unicode/utf8.first", laid_unicode_utf8_first)], narrowed := true }
def PinRoundTripUptoSaid : Prop := pinRoundTripUptoRow.holds Tryd.pinned (OpenSpec.upto pinRoundTripSpec)

/-- 'hstsstorelaw22.PinCompareMatchesSpec', WHERE WHAT IT READS IS OF BULK AT MOST 1048576: true; the input reads as it did. -/
def pinCompareMatchesSpecUptoRow : OpenClaim := { program := "ytcmeajaakdaeeaadoor", sum := "26905db437215a14f569211c8d11e010e1073734c3031e57a7ab26050158e822", func := "hstsstore/hstsstorelaw22.PinCompareMatchesSpec", spec := "pinCompareMatchesSpec", inPlace := ["internal/bytealg.CountString", "internal/bytealg.IndexByteString", "internal/bytealg.IndexString", "slices.overlaps[int]"], unfollowed := true, recurses := true, named := ["unicode/utf8.first", "unicode/utf8.acceptRanges", "internal/bytealg.MaxLen"], apart := false, laid := [("unicode/utf8.acceptRanges", laid_unicode_utf8_acceptRanges), ("unicode/utf8.first", laid_unicode_utf8_first)], narrowed := true }
def PinCompareMatchesSpecUptoSaid : Prop := pinCompareMatchesSpecUptoRow.holds Tryd.pinned (OpenSpec.upto pinCompareMatchesSpecSpec)

/-- 'hstsstorelaw22.PinSubdomainsTogether', WHERE WHAT IT READS IS OF BULK AT MOST 1048576: true; the input reads as it did. -/
def pinSubdomainsTogetherUptoRow : OpenClaim := { program := "ytcmeajaakdaeeaadoor", sum := "26905db437215a14f569211c8d11e010e1073734c3031e57a7ab26050158e822", func := "hstsstore/hstsstorelaw22.PinSubdomainsTogether", spec := "pinSubdomainsTogether", inPlace := ["internal/bytealg.CountString", "internal/bytealg.IndexByteString", "internal/bytealg.IndexString", "slices.overlaps[int]"], unfollowed := true, recurses := true, named := ["unicode/utf8.first", "unicode/utf8.acceptRanges", "internal/bytealg.MaxLen"], apart := false, laid := [("unicode/utf8.acceptRanges", laid_unicode_utf8_acceptRanges), ("unicode/utf8.first", laid_unicode_utf8_first)], narrowed := true }
def PinSubdomainsTogetherUptoSaid : Prop := pinSubdomainsTogetherUptoRow.holds Tryd.pinned (OpenSpec.upto pinSubdomainsTogetherSpec)

/-- 'hstsstorelaw23.PintableOrderFree', WHERE WHAT IT READS IS OF BULK AT MOST 1048576: true; the input reads as it did. -/
def pintableOrderFreeUptoRow : OpenClaim := { program := "ytcmeajaakdaeeaadoor", sum := "26905db437215a14f569211c8d11e010e1073734c3031e57a7ab26050158e822", func := "hstsstore/hstsstorelaw23.PintableOrderFree", spec := "pintableOrderFree", inPlace := ["internal/bytealg.CountString", "internal/bytealg.IndexByteString", "internal/bytealg.IndexString", "slices.overlaps[int]", "slices.overlaps[hstsstore/api.Pin]"], unfollowed := true, recurses := true, named := ["unicode/utf8.first", "unicode/utf8.acceptRanges", "internal/bytealg.MaxLen"], apart := false, laid := [("unicode/utf8.acceptRanges", laid_unicode_utf8_acceptRanges), ("unicode/utf8.first", laid_unicode_utf8_first)], narrowed := true }
def PintableOrderFreeUptoSaid : Prop := pintableOrderFreeUptoRow.holds Tryd.pinned (OpenSpec.upto pintableOrderFreeSpec)

/-- 'hstsstorelaw23.PintableSorted', WHERE WHAT IT READS IS OF BULK AT MOST 1048576: true; the input reads as it did. -/
def pintableSortedUptoRow : OpenClaim := { program := "ytcmeajaakdaeeaadoor", sum := "26905db437215a14f569211c8d11e010e1073734c3031e57a7ab26050158e822", func := "hstsstore/hstsstorelaw23.PintableSorted", spec := "pintableSorted", inPlace := ["internal/bytealg.CountString", "internal/bytealg.IndexByteString", "internal/bytealg.IndexString", "slices.overlaps[int]", "slices.overlaps[hstsstore/api.Pin]"], unfollowed := true, recurses := true, named := ["unicode/utf8.first", "unicode/utf8.acceptRanges", "internal/bytealg.MaxLen"], apart := false, laid := [("unicode/utf8.acceptRanges", laid_unicode_utf8_acceptRanges), ("unicode/utf8.first", laid_unicode_utf8_first)], narrowed := true }
def PintableSortedUptoSaid : Prop := pintableSortedUptoRow.holds Tryd.pinned (OpenSpec.upto pintableSortedSpec)

/-- 'hstsstorelaw23.PintableLoadMatchesSpec', WHERE WHAT IT READS IS OF BULK AT MOST 1048576: true; the input reads as it did. -/
def pintableLoadMatchesSpecUptoRow : OpenClaim := { program := "ytcmeajaakdaeeaadoor", sum := "26905db437215a14f569211c8d11e010e1073734c3031e57a7ab26050158e822", func := "hstsstore/hstsstorelaw23.PintableLoadMatchesSpec", spec := "pintableLoadMatchesSpec", inPlace := ["internal/bytealg.CountString", "internal/bytealg.IndexByteString", "internal/bytealg.IndexString", "slices.overlaps[int]", "slices.overlaps[hstsstore/api.Pin]"], unfollowed := true, recurses := true, named := ["unicode/utf8.first", "unicode/utf8.acceptRanges", "internal/bytealg.MaxLen"], apart := false, laid := [("unicode/utf8.acceptRanges", laid_unicode_utf8_acceptRanges), ("unicode/utf8.first", laid_unicode_utf8_first)], narrowed := true }
def PintableLoadMatchesSpecUptoSaid : Prop := pintableLoadMatchesSpecUptoRow.holds Tryd.pinned (OpenSpec.upto pintableLoadMatchesSpecSpec)

end Rows
end Go.Proofs.YtcmeajaakdaeeaaDoor
