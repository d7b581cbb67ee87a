/-
  No cell of these rows narrows 'for every input' (looked for: loops, veiled, ifaces, maps, wideKeys, modest, calm, conditions, laid).
  DERIVED. THE GIVEN ROWS OF THIS SEAT. 10 by the template 'for every input the law returns true; each argument reads behind the call as it read before'; 0 by the template 'total and deterministic' (their statements: YtolagcnndepjbaaTotals.lean).
  GIVEN WITH THE SEED: the statements are not yours to turn. If you find one false, say at which input.
  Laid BY PROGRAM, IN A SANDBOX (cutbox-rows.mjs): the forced cells as the released guide's own fill.sh prints them over the translation 9316def20a6b710b… (all of the seat's roots in one cut). By AI agents, Wed Nov 11 2026. No macro, syntax, notation, axiom, sorry.
-/
import Derived.Test.YtolagcnndepjbaaChecked
import GoSem.Claim
import GoSem.ClaimJoined
import GoSem.ClaimMapViews
import Derived.JoinedTies
import Derived.KernelRfl
namespace Go.Proofs.Ytolagcnndepjbaa
/- THE CELL 'sum', in the pinned program and in every row, IS THE sha256 OF THE DUMP (.gsa) THAT YtolagcnndepjbaaProg.lean LOADS. Nothing in Lean hashes anything: it is a label: what it is worth is what the hold of that sum in a sandbox is worth. -/
noncomputable def Try.pinned : Pinned := { name := "ytolagcnndepjbaa", sum := "9316def20a6b710b2f36f1e1f36943a60b761072fd58d8ccbace35dc562fc0e6", checked := Try.checked }
namespace Rows
def none {H : Type} : Left H := { results := [], args := [] }

/-- 'hstsstorelaw09.SuperblockMatchesSpec': WHATEVER THE INPUT: true; the input reads as it did. -/
def superblockMatchesSpecSpec : ChangeSpec := { name := "superblockMatchesSpec", fn := fun _ => fun
  | [d1, d2] => { results := [.lit (.bool true)], args := [d1, d2] }
  | _ => none }
def superblockMatchesSpecRow : OpenClaim := { program := "ytolagcnndepjbaa", sum := "9316def20a6b710b2f36f1e1f36943a60b761072fd58d8ccbace35dc562fc0e6", func := "hstsstore/hstsstorelaw09.SuperblockMatchesSpec", spec := "superblockMatchesSpec", apart := false }
def SuperblockMatchesSpecSaid : Prop := superblockMatchesSpecRow.holds Try.pinned (OpenSpec.ofChange superblockMatchesSpecSpec)

/-- ITS FALSE NEIGHBOUR: 'it returns false'. Refute it at one input. -/
def superblockMatchesSpecWrong : ChangeSpec := { name := "superblockMatchesSpec", fn := fun _ => fun
  | [d1, d2] => { results := [.lit (.bool false)], args := [d1, d2] }
  | _ => none }
def SuperblockMatchesSpecWrongFalsely : Prop := superblockMatchesSpecRow.holds Try.pinned (OpenSpec.ofChange superblockMatchesSpecWrong)

/-- 'hstsstorelaw09.SuperblockCorrected': WHATEVER THE INPUT: true; the input reads as it did. -/
def superblockCorrectedSpec : ChangeSpec := { name := "superblockCorrected", fn := fun _ => fun
  | [d] => { results := [.lit (.bool true)], args := [d] }
  | _ => none }
def superblockCorrectedRow : OpenClaim := { program := "ytolagcnndepjbaa", sum := "9316def20a6b710b2f36f1e1f36943a60b761072fd58d8ccbace35dc562fc0e6", func := "hstsstore/hstsstorelaw09.SuperblockCorrected", spec := "superblockCorrected", apart := false }
def SuperblockCorrectedSaid : Prop := superblockCorrectedRow.holds Try.pinned (OpenSpec.ofChange superblockCorrectedSpec)

/-- ITS FALSE NEIGHBOUR: 'it returns false'. Refute it at one input. -/
def superblockCorrectedWrong : ChangeSpec := { name := "superblockCorrected", fn := fun _ => fun
  | [d] => { results := [.lit (.bool false)], args := [d] }
  | _ => none }
def SuperblockCorrectedWrongFalsely : Prop := superblockCorrectedRow.holds Try.pinned (OpenSpec.ofChange superblockCorrectedWrong)

/-- 'hstsstorelaw09.SuperblockRoundTrip': WHATEVER THE INPUT: true; the input reads as it did. -/
def superblockRoundTripSpec : ChangeSpec := { name := "superblockRoundTrip", fn := fun _ => fun
  | [d] => { results := [.lit (.bool true)], args := [d] }
  | _ => none }
def superblockRoundTripRow : OpenClaim := { program := "ytolagcnndepjbaa", sum := "9316def20a6b710b2f36f1e1f36943a60b761072fd58d8ccbace35dc562fc0e6", func := "hstsstore/hstsstorelaw09.SuperblockRoundTrip", spec := "superblockRoundTrip", apart := false }
def SuperblockRoundTripSaid : Prop := superblockRoundTripRow.holds Try.pinned (OpenSpec.ofChange superblockRoundTripSpec)

/-- ITS FALSE NEIGHBOUR: 'it returns false'. Refute it at one input. -/
def superblockRoundTripWrong : ChangeSpec := { name := "superblockRoundTrip", fn := fun _ => fun
  | [d] => { results := [.lit (.bool false)], args := [d] }
  | _ => none }
def SuperblockRoundTripWrongFalsely : Prop := superblockRoundTripRow.holds Try.pinned (OpenSpec.ofChange superblockRoundTripWrong)

/-- 'hstsstorelaw09.SuperblockChooseMatchesSpec': WHATEVER THE INPUT: true; the input reads as it did. -/
def superblockChooseMatchesSpecSpec : ChangeSpec := { name := "superblockChooseMatchesSpec", fn := fun _ => fun
  | [d1, d2] => { results := [.lit (.bool true)], args := [d1, d2] }
  | _ => none }
def superblockChooseMatchesSpecRow : OpenClaim := { program := "ytolagcnndepjbaa", sum := "9316def20a6b710b2f36f1e1f36943a60b761072fd58d8ccbace35dc562fc0e6", func := "hstsstore/hstsstorelaw09.SuperblockChooseMatchesSpec", spec := "superblockChooseMatchesSpec", apart := false }
def SuperblockChooseMatchesSpecSaid : Prop := superblockChooseMatchesSpecRow.holds Try.pinned (OpenSpec.ofChange superblockChooseMatchesSpecSpec)

/-- ITS FALSE NEIGHBOUR: 'it returns false'. Refute it at one input. -/
def superblockChooseMatchesSpecWrong : ChangeSpec := { name := "superblockChooseMatchesSpec", fn := fun _ => fun
  | [d1, d2] => { results := [.lit (.bool false)], args := [d1, d2] }
  | _ => none }
def SuperblockChooseMatchesSpecWrongFalsely : Prop := superblockChooseMatchesSpecRow.holds Try.pinned (OpenSpec.ofChange superblockChooseMatchesSpecWrong)

/-- 'hstsstorelaw09.SuperblockDamage': WHATEVER THE INPUT: true; the input reads as it did. -/
def superblockDamageSpec : ChangeSpec := { name := "superblockDamage", fn := fun _ => fun
  | [d1, d2, d3] => { results := [.lit (.bool true)], args := [d1, d2, d3] }
  | _ => none }
def superblockDamageRow : OpenClaim := { program := "ytolagcnndepjbaa", sum := "9316def20a6b710b2f36f1e1f36943a60b761072fd58d8ccbace35dc562fc0e6", func := "hstsstore/hstsstorelaw09.SuperblockDamage", spec := "superblockDamage", apart := false }
def SuperblockDamageSaid : Prop := superblockDamageRow.holds Try.pinned (OpenSpec.ofChange superblockDamageSpec)

/-- ITS FALSE NEIGHBOUR: 'it returns false'. Refute it at one input. -/
def superblockDamageWrong : ChangeSpec := { name := "superblockDamage", fn := fun _ => fun
  | [d1, d2, d3] => { results := [.lit (.bool false)], args := [d1, d2, d3] }
  | _ => none }
def SuperblockDamageWrongFalsely : Prop := superblockDamageRow.holds Try.pinned (OpenSpec.ofChange superblockDamageWrong)

/-- 'hstsstorelaw07.FrameEncodeMatchesSpec': WHATEVER THE INPUT: true; the input reads as it did. -/
def frameEncodeMatchesSpecSpec : ChangeSpec := { name := "frameEncodeMatchesSpec", fn := fun _ => fun
  | [d1, d2, d3] => { results := [.lit (.bool true)], args := [d1, d2, d3] }
  | _ => none }
def frameEncodeMatchesSpecRow : OpenClaim := { program := "ytolagcnndepjbaa", sum := "9316def20a6b710b2f36f1e1f36943a60b761072fd58d8ccbace35dc562fc0e6", func := "hstsstore/hstsstorelaw07.FrameEncodeMatchesSpec", spec := "frameEncodeMatchesSpec", unfollowed := true, recurses := true, apart := false }
def FrameEncodeMatchesSpecSaid : Prop := frameEncodeMatchesSpecRow.holds Try.pinned (OpenSpec.ofChange frameEncodeMatchesSpecSpec)

/-- ITS FALSE NEIGHBOUR: 'it returns false'. Refute it at one input. -/
def frameEncodeMatchesSpecWrong : ChangeSpec := { name := "frameEncodeMatchesSpec", fn := fun _ => fun
  | [d1, d2, d3] => { results := [.lit (.bool false)], args := [d1, d2, d3] }
  | _ => none }
def FrameEncodeMatchesSpecWrongFalsely : Prop := frameEncodeMatchesSpecRow.holds Try.pinned (OpenSpec.ofChange frameEncodeMatchesSpecWrong)

/-- 'hstsstorelaw07.FrameDecodeMatchesSpec': WHATEVER THE INPUT: true; the input reads as it did. -/
def frameDecodeMatchesSpecSpec : ChangeSpec := { name := "frameDecodeMatchesSpec", fn := fun _ => fun
  | [d1, d2, d3] => { results := [.lit (.bool true)], args := [d1, d2, d3] }
  | _ => none }
def frameDecodeMatchesSpecRow : OpenClaim := { program := "ytolagcnndepjbaa", sum := "9316def20a6b710b2f36f1e1f36943a60b761072fd58d8ccbace35dc562fc0e6", func := "hstsstore/hstsstorelaw07.FrameDecodeMatchesSpec", spec := "frameDecodeMatchesSpec", unfollowed := true, recurses := true, apart := false }
def FrameDecodeMatchesSpecSaid : Prop := frameDecodeMatchesSpecRow.holds Try.pinned (OpenSpec.ofChange frameDecodeMatchesSpecSpec)

/-- ITS FALSE NEIGHBOUR: 'it returns false'. Refute it at one input. -/
def frameDecodeMatchesSpecWrong : ChangeSpec := { name := "frameDecodeMatchesSpec", fn := fun _ => fun
  | [d1, d2, d3] => { results := [.lit (.bool false)], args := [d1, d2, d3] }
  | _ => none }
def FrameDecodeMatchesSpecWrongFalsely : Prop := frameDecodeMatchesSpecRow.holds Try.pinned (OpenSpec.ofChange frameDecodeMatchesSpecWrong)

/-- 'hstsstorelaw07.FrameScanMatchesSpec': WHATEVER THE INPUT: true; the input reads as it did. -/
def frameScanMatchesSpecSpec : ChangeSpec := { name := "frameScanMatchesSpec", fn := fun _ => fun
  | [d1, d2] => { results := [.lit (.bool true)], args := [d1, d2] }
  | _ => none }
def frameScanMatchesSpecRow : OpenClaim := { program := "ytolagcnndepjbaa", sum := "9316def20a6b710b2f36f1e1f36943a60b761072fd58d8ccbace35dc562fc0e6", func := "hstsstore/hstsstorelaw07.FrameScanMatchesSpec", spec := "frameScanMatchesSpec", unfollowed := true, recurses := true, apart := false }
def FrameScanMatchesSpecSaid : Prop := frameScanMatchesSpecRow.holds Try.pinned (OpenSpec.ofChange frameScanMatchesSpecSpec)

/-- ITS FALSE NEIGHBOUR: 'it returns false'. Refute it at one input. -/
def frameScanMatchesSpecWrong : ChangeSpec := { name := "frameScanMatchesSpec", fn := fun _ => fun
  | [d1, d2] => { results := [.lit (.bool false)], args := [d1, d2] }
  | _ => none }
def FrameScanMatchesSpecWrongFalsely : Prop := frameScanMatchesSpecRow.holds Try.pinned (OpenSpec.ofChange frameScanMatchesSpecWrong)

/-- 'hstsstorelaw07.FrameScanFindsAll': WHATEVER THE INPUT: true; the input reads as it did. -/
def frameScanFindsAllSpec : ChangeSpec := { name := "frameScanFindsAll", fn := fun _ => fun
  | [d1, d2, d3] => { results := [.lit (.bool true)], args := [d1, d2, d3] }
  | _ => none }
def frameScanFindsAllRow : OpenClaim := { program := "ytolagcnndepjbaa", sum := "9316def20a6b710b2f36f1e1f36943a60b761072fd58d8ccbace35dc562fc0e6", func := "hstsstore/hstsstorelaw07.FrameScanFindsAll", spec := "frameScanFindsAll", unfollowed := true, recurses := true, apart := false }
def FrameScanFindsAllSaid : Prop := frameScanFindsAllRow.holds Try.pinned (OpenSpec.ofChange frameScanFindsAllSpec)

/-- ITS FALSE NEIGHBOUR: 'it returns false'. Refute it at one input. -/
def frameScanFindsAllWrong : ChangeSpec := { name := "frameScanFindsAll", fn := fun _ => fun
  | [d1, d2, d3] => { results := [.lit (.bool false)], args := [d1, d2, d3] }
  | _ => none }
def FrameScanFindsAllWrongFalsely : Prop := frameScanFindsAllRow.holds Try.pinned (OpenSpec.ofChange frameScanFindsAllWrong)

/-- 'hstsstorelaw07.FrameDetectsBursts': WHATEVER THE INPUT: true; the input reads as it did. -/
def frameDetectsBurstsSpec : ChangeSpec := { name := "frameDetectsBursts", fn := fun _ => fun
  | [d1, d2, d3] => { results := [.lit (.bool true)], args := [d1, d2, d3] }
  | _ => none }
def frameDetectsBurstsRow : OpenClaim := { program := "ytolagcnndepjbaa", sum := "9316def20a6b710b2f36f1e1f36943a60b761072fd58d8ccbace35dc562fc0e6", func := "hstsstore/hstsstorelaw07.FrameDetectsBursts", spec := "frameDetectsBursts", unfollowed := true, recurses := true, apart := false }
def FrameDetectsBurstsSaid : Prop := frameDetectsBurstsRow.holds Try.pinned (OpenSpec.ofChange frameDetectsBurstsSpec)

/-- ITS FALSE NEIGHBOUR: 'it returns false'. Refute it at one input. -/
def frameDetectsBurstsWrong : ChangeSpec := { name := "frameDetectsBursts", fn := fun _ => fun
  | [d1, d2, d3] => { results := [.lit (.bool false)], args := [d1, d2, d3] }
  | _ => none }
def FrameDetectsBurstsWrongFalsely : Prop := frameDetectsBurstsRow.holds Try.pinned (OpenSpec.ofChange frameDetectsBurstsWrong)

/- THE SECOND FORM. 'bulk': how many values and letters a reading holds, each counted each time it is reached (what is shared counts as often as it is met; a slice's spare places count too). A statement '..UptoSaid' is the law's where the arguments, and the package variables that the reading takes, are together of bulk at most 1048576: NARROWER than '..Said'. Prove '..Said' where nothing that the law and all that it calls make is longer than what came in: it says more and counts as full. Else prove '..UptoSaid'. A law counts once. -/
mutual
def uptoBulk {H : Type} : DataW H → Nat
  | .lit (.string bytes) => bytes.length + 1
  | .lit _ => 1
  | .nil => 1
  | .ptr d => uptoBulk d + 1
  | .slice elems spare => uptoBulkAll elems + uptoBulkAll spare + 1
  | .agg parts => uptoBulkAll parts + 1
  | .iface _ d => uptoBulk d + 1
  | .map entries => uptoBulkEntries entries + 1
  | .held _ => 1
def uptoBulkAll {H : Type} : List (DataW H) → Nat
  | [] => 0
  | d :: r => uptoBulk d + uptoBulkAll r
def uptoBulkEntries {H : Type} : List (Lit × DataW H) → Nat
  | [] => 0
  | x :: r => uptoBulkEntry x + uptoBulkEntries r
def uptoBulkEntry {H : Type} : Lit × DataW H → Nat
  | (.string bytes, d) => bytes.length + uptoBulk d + 1
  | (_, d) => uptoBulk d + 1
 end
def uptoSmall : (H : Type) → List (DataW H) → Bool := fun _ ds => decide (uptoBulkAll ds ≤ 1048576)
def OpenSpec.upto (s : _root_.Go.ChangeSpec) : _root_.Go.OpenSpec := { _root_.Go.OpenSpec.ofChange s with cond := some uptoSmall }

/-- 'hstsstorelaw09.SuperblockMatchesSpec', WHERE WHAT IT READS IS OF BULK AT MOST 1048576: true; the input reads as it did. -/
def superblockMatchesSpecUptoRow : OpenClaim := { program := "ytolagcnndepjbaa", sum := "9316def20a6b710b2f36f1e1f36943a60b761072fd58d8ccbace35dc562fc0e6", func := "hstsstore/hstsstorelaw09.SuperblockMatchesSpec", spec := "superblockMatchesSpec", apart := false, narrowed := true }
def SuperblockMatchesSpecUptoSaid : Prop := superblockMatchesSpecUptoRow.holds Try.pinned (OpenSpec.upto superblockMatchesSpecSpec)

/-- 'hstsstorelaw09.SuperblockCorrected', WHERE WHAT IT READS IS OF BULK AT MOST 1048576: true; the input reads as it did. -/
def superblockCorrectedUptoRow : OpenClaim := { program := "ytolagcnndepjbaa", sum := "9316def20a6b710b2f36f1e1f36943a60b761072fd58d8ccbace35dc562fc0e6", func := "hstsstore/hstsstorelaw09.SuperblockCorrected", spec := "superblockCorrected", apart := false, narrowed := true }
def SuperblockCorrectedUptoSaid : Prop := superblockCorrectedUptoRow.holds Try.pinned (OpenSpec.upto superblockCorrectedSpec)

/-- 'hstsstorelaw09.SuperblockRoundTrip', WHERE WHAT IT READS IS OF BULK AT MOST 1048576: true; the input reads as it did. -/
def superblockRoundTripUptoRow : OpenClaim := { program := "ytolagcnndepjbaa", sum := "9316def20a6b710b2f36f1e1f36943a60b761072fd58d8ccbace35dc562fc0e6", func := "hstsstore/hstsstorelaw09.SuperblockRoundTrip", spec := "superblockRoundTrip", apart := false, narrowed := true }
def SuperblockRoundTripUptoSaid : Prop := superblockRoundTripUptoRow.holds Try.pinned (OpenSpec.upto superblockRoundTripSpec)

/-- 'hstsstorelaw09.SuperblockChooseMatchesSpec', WHERE WHAT IT READS IS OF BULK AT MOST 1048576: true; the input reads as it did. -/
def superblockChooseMatchesSpecUptoRow : OpenClaim := { program := "ytolagcnndepjbaa", sum := "9316def20a6b710b2f36f1e1f36943a60b761072fd58d8ccbace35dc562fc0e6", func := "hstsstore/hstsstorelaw09.SuperblockChooseMatchesSpec", spec := "superblockChooseMatchesSpec", apart := false, narrowed := true }
def SuperblockChooseMatchesSpecUptoSaid : Prop := superblockChooseMatchesSpecUptoRow.holds Try.pinned (OpenSpec.upto superblockChooseMatchesSpecSpec)

/-- 'hstsstorelaw09.SuperblockDamage', WHERE WHAT IT READS IS OF BULK AT MOST 1048576: true; the input reads as it did. -/
def superblockDamageUptoRow : OpenClaim := { program := "ytolagcnndepjbaa", sum := "9316def20a6b710b2f36f1e1f36943a60b761072fd58d8ccbace35dc562fc0e6", func := "hstsstore/hstsstorelaw09.SuperblockDamage", spec := "superblockDamage", apart := false, narrowed := true }
def SuperblockDamageUptoSaid : Prop := superblockDamageUptoRow.holds Try.pinned (OpenSpec.upto superblockDamageSpec)

/-- 'hstsstorelaw07.FrameEncodeMatchesSpec', WHERE WHAT IT READS IS OF BULK AT MOST 1048576: true; the input reads as it did. -/
def frameEncodeMatchesSpecUptoRow : OpenClaim := { program := "ytolagcnndepjbaa", sum := "9316def20a6b710b2f36f1e1f36943a60b761072fd58d8ccbace35dc562fc0e6", func := "hstsstore/hstsstorelaw07.FrameEncodeMatchesSpec", spec := "frameEncodeMatchesSpec", unfollowed := true, recurses := true, apart := false, narrowed := true }
def FrameEncodeMatchesSpecUptoSaid : Prop := frameEncodeMatchesSpecUptoRow.holds Try.pinned (OpenSpec.upto frameEncodeMatchesSpecSpec)

/-- 'hstsstorelaw07.FrameDecodeMatchesSpec', WHERE WHAT IT READS IS OF BULK AT MOST 1048576: true; the input reads as it did. -/
def frameDecodeMatchesSpecUptoRow : OpenClaim := { program := "ytolagcnndepjbaa", sum := "9316def20a6b710b2f36f1e1f36943a60b761072fd58d8ccbace35dc562fc0e6", func := "hstsstore/hstsstorelaw07.FrameDecodeMatchesSpec", spec := "frameDecodeMatchesSpec", unfollowed := true, recurses := true, apart := false, narrowed := true }
def FrameDecodeMatchesSpecUptoSaid : Prop := frameDecodeMatchesSpecUptoRow.holds Try.pinned (OpenSpec.upto frameDecodeMatchesSpecSpec)

/-- 'hstsstorelaw07.FrameScanMatchesSpec', WHERE WHAT IT READS IS OF BULK AT MOST 1048576: true; the input reads as it did. -/
def frameScanMatchesSpecUptoRow : OpenClaim := { program := "ytolagcnndepjbaa", sum := "9316def20a6b710b2f36f1e1f36943a60b761072fd58d8ccbace35dc562fc0e6", func := "hstsstore/hstsstorelaw07.FrameScanMatchesSpec", spec := "frameScanMatchesSpec", unfollowed := true, recurses := true, apart := false, narrowed := true }
def FrameScanMatchesSpecUptoSaid : Prop := frameScanMatchesSpecUptoRow.holds Try.pinned (OpenSpec.upto frameScanMatchesSpecSpec)

/-- 'hstsstorelaw07.FrameScanFindsAll', WHERE WHAT IT READS IS OF BULK AT MOST 1048576: true; the input reads as it did. -/
def frameScanFindsAllUptoRow : OpenClaim := { program := "ytolagcnndepjbaa", sum := "9316def20a6b710b2f36f1e1f36943a60b761072fd58d8ccbace35dc562fc0e6", func := "hstsstore/hstsstorelaw07.FrameScanFindsAll", spec := "frameScanFindsAll", unfollowed := true, recurses := true, apart := false, narrowed := true }
def FrameScanFindsAllUptoSaid : Prop := frameScanFindsAllUptoRow.holds Try.pinned (OpenSpec.upto frameScanFindsAllSpec)

/-- 'hstsstorelaw07.FrameDetectsBursts', WHERE WHAT IT READS IS OF BULK AT MOST 1048576: true; the input reads as it did. -/
def frameDetectsBurstsUptoRow : OpenClaim := { program := "ytolagcnndepjbaa", sum := "9316def20a6b710b2f36f1e1f36943a60b761072fd58d8ccbace35dc562fc0e6", func := "hstsstore/hstsstorelaw07.FrameDetectsBursts", spec := "frameDetectsBursts", unfollowed := true, recurses := true, apart := false, narrowed := true }
def FrameDetectsBurstsUptoSaid : Prop := frameDetectsBurstsUptoRow.holds Try.pinned (OpenSpec.upto frameDetectsBurstsSpec)

end Rows
end Go.Proofs.Ytolagcnndepjbaa
