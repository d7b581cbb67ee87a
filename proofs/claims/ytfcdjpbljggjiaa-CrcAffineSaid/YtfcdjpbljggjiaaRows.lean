/-
  No cell of these rows narrows 'for every input' (looked for: loops, veiled, ifaces, maps, wideKeys, modest, calm, conditions, laid).
  DERIVED. THE GIVEN ROWS OF THIS SEAT. 6 by the template 'for every input the law returns true; each argument reads behind the call as it read before'; 0 by the template 'total and deterministic' (their statements: YtfcdjpbljggjiaaTotals.lean).
  GIVEN WITH THE SEED: the statements are not yours to turn. If you find one false, say at which input.
  Laid BY PROGRAM, IN A SANDBOX (cutbox-rows.mjs): the forced cells as the released guide's own fill.sh prints them over the translation be9ba11c658f88c7… (all of the seat's roots in one cut). By AI agents, Wed Nov 11 2026. No macro, syntax, notation, axiom, sorry.
-/
import Derived.Test.YtfcdjpbljggjiaaChecked
import GoSem.Claim
import GoSem.ClaimJoined
import GoSem.ClaimMapViews
import Derived.JoinedTies
import Derived.KernelRfl
namespace Go.Proofs.Ytfcdjpbljggjiaa
/- THE CELL 'sum', in the pinned program and in every row, IS THE sha256 OF THE DUMP (.gsa) THAT YtfcdjpbljggjiaaProg.lean LOADS. Nothing in Lean hashes anything: it is a label: what it is worth is what the hold of that sum in a sandbox is worth. -/
noncomputable def Try.pinned : Pinned := { name := "ytfcdjpbljggjiaa", sum := "be9ba11c658f88c7e0c01bfa18c7e7f2ba5cc96f473e8a20786d36d5f7b46541", checked := Try.checked }
namespace Rows
def none {H : Type} : Left H := { results := [], args := [] }

/-- 'hstsstorelaw02.CrcMatchesSpec': WHATEVER THE INPUT: true; the input reads as it did. -/
def crcMatchesSpecSpec : ChangeSpec := { name := "crcMatchesSpec", fn := fun _ => fun
  | [d1, d2] => { results := [.lit (.bool true)], args := [d1, d2] }
  | _ => none }
def crcMatchesSpecRow : OpenClaim := { program := "ytfcdjpbljggjiaa", sum := "be9ba11c658f88c7e0c01bfa18c7e7f2ba5cc96f473e8a20786d36d5f7b46541", func := "hstsstore/hstsstorelaw02.CrcMatchesSpec", spec := "crcMatchesSpec", apart := false }
def CrcMatchesSpecSaid : Prop := crcMatchesSpecRow.holds Try.pinned (OpenSpec.ofChange crcMatchesSpecSpec)

/-- ITS FALSE NEIGHBOUR: 'it returns false'. Refute it at one input. -/
def crcMatchesSpecWrong : ChangeSpec := { name := "crcMatchesSpec", fn := fun _ => fun
  | [d1, d2] => { results := [.lit (.bool false)], args := [d1, d2] }
  | _ => none }
def CrcMatchesSpecWrongFalsely : Prop := crcMatchesSpecRow.holds Try.pinned (OpenSpec.ofChange crcMatchesSpecWrong)

/-- 'hstsstorelaw02.CrcCombineMatchesSpec': WHATEVER THE INPUT: true; the input reads as it did. -/
def crcCombineMatchesSpecSpec : ChangeSpec := { name := "crcCombineMatchesSpec", fn := fun _ => fun
  | [d1, d2, d3] => { results := [.lit (.bool true)], args := [d1, d2, d3] }
  | _ => none }
def crcCombineMatchesSpecRow : OpenClaim := { program := "ytfcdjpbljggjiaa", sum := "be9ba11c658f88c7e0c01bfa18c7e7f2ba5cc96f473e8a20786d36d5f7b46541", func := "hstsstore/hstsstorelaw02.CrcCombineMatchesSpec", spec := "crcCombineMatchesSpec", apart := false }
def CrcCombineMatchesSpecSaid : Prop := crcCombineMatchesSpecRow.holds Try.pinned (OpenSpec.ofChange crcCombineMatchesSpecSpec)

/-- ITS FALSE NEIGHBOUR: 'it returns false'. Refute it at one input. -/
def crcCombineMatchesSpecWrong : ChangeSpec := { name := "crcCombineMatchesSpec", fn := fun _ => fun
  | [d1, d2, d3] => { results := [.lit (.bool false)], args := [d1, d2, d3] }
  | _ => none }
def CrcCombineMatchesSpecWrongFalsely : Prop := crcCombineMatchesSpecRow.holds Try.pinned (OpenSpec.ofChange crcCombineMatchesSpecWrong)

/-- 'hstsstorelaw02.CrcConcatenates': WHATEVER THE INPUT: true; the input reads as it did. -/
def crcConcatenatesSpec : ChangeSpec := { name := "crcConcatenates", fn := fun _ => fun
  | [d1, d2, d3] => { results := [.lit (.bool true)], args := [d1, d2, d3] }
  | _ => none }
def crcConcatenatesRow : OpenClaim := { program := "ytfcdjpbljggjiaa", sum := "be9ba11c658f88c7e0c01bfa18c7e7f2ba5cc96f473e8a20786d36d5f7b46541", func := "hstsstore/hstsstorelaw02.CrcConcatenates", spec := "crcConcatenates", apart := false }
def CrcConcatenatesSaid : Prop := crcConcatenatesRow.holds Try.pinned (OpenSpec.ofChange crcConcatenatesSpec)

/-- ITS FALSE NEIGHBOUR: 'it returns false'. Refute it at one input. -/
def crcConcatenatesWrong : ChangeSpec := { name := "crcConcatenates", fn := fun _ => fun
  | [d1, d2, d3] => { results := [.lit (.bool false)], args := [d1, d2, d3] }
  | _ => none }
def CrcConcatenatesWrongFalsely : Prop := crcConcatenatesRow.holds Try.pinned (OpenSpec.ofChange crcConcatenatesWrong)

/-- 'hstsstorelaw02.CrcDetectsBursts': WHATEVER THE INPUT: true; the input reads as it did. -/
def crcDetectsBurstsSpec : ChangeSpec := { name := "crcDetectsBursts", fn := fun _ => fun
  | [d1, d2, d3] => { results := [.lit (.bool true)], args := [d1, d2, d3] }
  | _ => none }
def crcDetectsBurstsRow : OpenClaim := { program := "ytfcdjpbljggjiaa", sum := "be9ba11c658f88c7e0c01bfa18c7e7f2ba5cc96f473e8a20786d36d5f7b46541", func := "hstsstore/hstsstorelaw02.CrcDetectsBursts", spec := "crcDetectsBursts", apart := false }
def CrcDetectsBurstsSaid : Prop := crcDetectsBurstsRow.holds Try.pinned (OpenSpec.ofChange crcDetectsBurstsSpec)

/-- ITS FALSE NEIGHBOUR: 'it returns false'. Refute it at one input. -/
def crcDetectsBurstsWrong : ChangeSpec := { name := "crcDetectsBursts", fn := fun _ => fun
  | [d1, d2, d3] => { results := [.lit (.bool false)], args := [d1, d2, d3] }
  | _ => none }
def CrcDetectsBurstsWrongFalsely : Prop := crcDetectsBurstsRow.holds Try.pinned (OpenSpec.ofChange crcDetectsBurstsWrong)

/-- 'hstsstorelaw02.CrcDetectsBurstsInCodeWords': WHATEVER THE INPUT: true; the input reads as it did. -/
def crcDetectsBurstsInCodeWordsSpec : ChangeSpec := { name := "crcDetectsBurstsInCodeWords", fn := fun _ => fun
  | [d1, d2, d3] => { results := [.lit (.bool true)], args := [d1, d2, d3] }
  | _ => none }
def crcDetectsBurstsInCodeWordsRow : OpenClaim := { program := "ytfcdjpbljggjiaa", sum := "be9ba11c658f88c7e0c01bfa18c7e7f2ba5cc96f473e8a20786d36d5f7b46541", func := "hstsstore/hstsstorelaw02.CrcDetectsBurstsInCodeWords", spec := "crcDetectsBurstsInCodeWords", apart := false }
def CrcDetectsBurstsInCodeWordsSaid : Prop := crcDetectsBurstsInCodeWordsRow.holds Try.pinned (OpenSpec.ofChange crcDetectsBurstsInCodeWordsSpec)

/-- ITS FALSE NEIGHBOUR: 'it returns false'. Refute it at one input. -/
def crcDetectsBurstsInCodeWordsWrong : ChangeSpec := { name := "crcDetectsBurstsInCodeWords", fn := fun _ => fun
  | [d1, d2, d3] => { results := [.lit (.bool false)], args := [d1, d2, d3] }
  | _ => none }
def CrcDetectsBurstsInCodeWordsWrongFalsely : Prop := crcDetectsBurstsInCodeWordsRow.holds Try.pinned (OpenSpec.ofChange crcDetectsBurstsInCodeWordsWrong)

/-- 'hstsstorelaw02.CrcAffine': WHATEVER THE INPUT: true; the input reads as it did. -/
def crcAffineSpec : ChangeSpec := { name := "crcAffine", fn := fun _ => fun
  | [d1, d2, d3] => { results := [.lit (.bool true)], args := [d1, d2, d3] }
  | _ => none }
def crcAffineRow : OpenClaim := { program := "ytfcdjpbljggjiaa", sum := "be9ba11c658f88c7e0c01bfa18c7e7f2ba5cc96f473e8a20786d36d5f7b46541", func := "hstsstore/hstsstorelaw02.CrcAffine", spec := "crcAffine", apart := false }
def CrcAffineSaid : Prop := crcAffineRow.holds Try.pinned (OpenSpec.ofChange crcAffineSpec)

/-- ITS FALSE NEIGHBOUR: 'it returns false'. Refute it at one input. -/
def crcAffineWrong : ChangeSpec := { name := "crcAffine", fn := fun _ => fun
  | [d1, d2, d3] => { results := [.lit (.bool false)], args := [d1, d2, d3] }
  | _ => none }
def CrcAffineWrongFalsely : Prop := crcAffineRow.holds Try.pinned (OpenSpec.ofChange crcAffineWrong)

/- THE SECOND FORM. 'bulk': how many values and letters a reading holds, each counted each time it is reached (what is shared counts as often as it is met; a slice's spare places count too). A statement '..UptoSaid' is the law's where the arguments, and the package variables that the reading takes, are together of bulk at most 1048576: NARROWER than '..Said'. Prove '..Said' where nothing that the law and all that it calls make is longer than what came in: it says more and counts as full. Else prove '..UptoSaid'. A law counts once. -/
mutual
def uptoBulk {H : Type} : DataW H → Nat
  | .lit (.string bytes) => bytes.length + 1
  | .lit _ => 1
  | .nil => 1
  | .ptr d => uptoBulk d + 1
  | .slice elems spare => uptoBulkAll elems + uptoBulkAll spare + 1
  | .agg parts => uptoBulkAll parts + 1
  | .iface _ d => uptoBulk d + 1
  | .map entries => uptoBulkEntries entries + 1
  | .held _ => 1
def uptoBulkAll {H : Type} : List (DataW H) → Nat
  | [] => 0
  | d :: r => uptoBulk d + uptoBulkAll r
def uptoBulkEntries {H : Type} : List (Lit × DataW H) → Nat
  | [] => 0
  | x :: r => uptoBulkEntry x + uptoBulkEntries r
def uptoBulkEntry {H : Type} : Lit × DataW H → Nat
  | (.string bytes, d) => bytes.length + uptoBulk d + 1
  | (_, d) => uptoBulk d + 1
 end
def uptoSmall : (H : Type) → List (DataW H) → Bool := fun _ ds => decide (uptoBulkAll ds ≤ 1048576)
def OpenSpec.upto (s : _root_.Go.ChangeSpec) : _root_.Go.OpenSpec := { _root_.Go.OpenSpec.ofChange s with cond := some uptoSmall }

/-- 'hstsstorelaw02.CrcMatchesSpec', WHERE WHAT IT READS IS OF BULK AT MOST 1048576: true; the input reads as it did. -/
def crcMatchesSpecUptoRow : OpenClaim := { program := "ytfcdjpbljggjiaa", sum := "be9ba11c658f88c7e0c01bfa18c7e7f2ba5cc96f473e8a20786d36d5f7b46541", func := "hstsstore/hstsstorelaw02.CrcMatchesSpec", spec := "crcMatchesSpec", apart := false, narrowed := true }
def CrcMatchesSpecUptoSaid : Prop := crcMatchesSpecUptoRow.holds Try.pinned (OpenSpec.upto crcMatchesSpecSpec)

/-- 'hstsstorelaw02.CrcCombineMatchesSpec', WHERE WHAT IT READS IS OF BULK AT MOST 1048576: true; the input reads as it did. -/
def crcCombineMatchesSpecUptoRow : OpenClaim := { program := "ytfcdjpbljggjiaa", sum := "be9ba11c658f88c7e0c01bfa18c7e7f2ba5cc96f473e8a20786d36d5f7b46541", func := "hstsstore/hstsstorelaw02.CrcCombineMatchesSpec", spec := "crcCombineMatchesSpec", apart := false, narrowed := true }
def CrcCombineMatchesSpecUptoSaid : Prop := crcCombineMatchesSpecUptoRow.holds Try.pinned (OpenSpec.upto crcCombineMatchesSpecSpec)

/-- 'hstsstorelaw02.CrcConcatenates', WHERE WHAT IT READS IS OF BULK AT MOST 1048576: true; the input reads as it did. -/
def crcConcatenatesUptoRow : OpenClaim := { program := "ytfcdjpbljggjiaa", sum := "be9ba11c658f88c7e0c01bfa18c7e7f2ba5cc96f473e8a20786d36d5f7b46541", func := "hstsstore/hstsstorelaw02.CrcConcatenates", spec := "crcConcatenates", apart := false, narrowed := true }
def CrcConcatenatesUptoSaid : Prop := crcConcatenatesUptoRow.holds Try.pinned (OpenSpec.upto crcConcatenatesSpec)

/-- 'hstsstorelaw02.CrcDetectsBursts', WHERE WHAT IT READS IS OF BULK AT MOST 1048576: true; the input reads as it did. -/
def crcDetectsBurstsUptoRow : OpenClaim := { program := "ytfcdjpbljggjiaa", sum := "be9ba11c658f88c7e0c01bfa18c7e7f2ba5cc96f473e8a20786d36d5f7b46541", func := "hstsstore/hstsstorelaw02.CrcDetectsBursts", spec := "crcDetectsBursts", apart := false, narrowed := true }
def CrcDetectsBurstsUptoSaid : Prop := crcDetectsBurstsUptoRow.holds Try.pinned (OpenSpec.upto crcDetectsBurstsSpec)

/-- 'hstsstorelaw02.CrcDetectsBurstsInCodeWords', WHERE WHAT IT READS IS OF BULK AT MOST 1048576: true; the input reads as it did. -/
def crcDetectsBurstsInCodeWordsUptoRow : OpenClaim := { program := "ytfcdjpbljggjiaa", sum := "be9ba11c658f88c7e0c01bfa18c7e7f2ba5cc96f473e8a20786d36d5f7b46541", func := "hstsstore/hstsstorelaw02.CrcDetectsBurstsInCodeWords", spec := "crcDetectsBurstsInCodeWords", apart := false, narrowed := true }
def CrcDetectsBurstsInCodeWordsUptoSaid : Prop := crcDetectsBurstsInCodeWordsUptoRow.holds Try.pinned (OpenSpec.upto crcDetectsBurstsInCodeWordsSpec)

/-- 'hstsstorelaw02.CrcAffine', WHERE WHAT IT READS IS OF BULK AT MOST 1048576: true; the input reads as it did. -/
def crcAffineUptoRow : OpenClaim := { program := "ytfcdjpbljggjiaa", sum := "be9ba11c658f88c7e0c01bfa18c7e7f2ba5cc96f473e8a20786d36d5f7b46541", func := "hstsstore/hstsstorelaw02.CrcAffine", spec := "crcAffine", apart := false, narrowed := true }
def CrcAffineUptoSaid : Prop := crcAffineUptoRow.holds Try.pinned (OpenSpec.upto crcAffineSpec)

end Rows
end Go.Proofs.Ytfcdjpbljggjiaa
