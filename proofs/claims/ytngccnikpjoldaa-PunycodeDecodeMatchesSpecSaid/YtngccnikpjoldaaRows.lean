/-
  No cell of these rows narrows 'for every input' (looked for: loops, veiled, ifaces, maps, wideKeys, modest, calm, conditions, laid).
  DERIVED. THE GIVEN ROWS OF THIS SEAT. 5 by the template 'for every input the law returns true; each argument reads behind the call as it read before'; 0 by the template 'total and deterministic' (their statements: YtngccnikpjoldaaTotals.lean).
  GIVEN WITH THE SEED: the statements are not yours to turn. If you find one false, say at which input.
  Laid BY PROGRAM, IN A SANDBOX (cutbox-rows.mjs): the forced cells as the released guide's own fill.sh prints them over the translation 7dc4d3bac752b4c1… (all of the seat's roots in one cut). By AI agents, Wed Nov 11 2026. No macro, syntax, notation, axiom, sorry.
-/
import Derived.Test.YtngccnikpjoldaaChecked
import GoSem.Claim
import GoSem.ClaimJoined
import GoSem.ClaimMapViews
import Derived.JoinedTies
import Derived.KernelRfl
namespace Go.Proofs.Ytngccnikpjoldaa
/- THE CELL 'sum', in the pinned program and in every row, IS THE sha256 OF THE DUMP (.gsa) THAT YtngccnikpjoldaaProg.lean LOADS. Nothing in Lean hashes anything: it is a label: what it is worth is what the hold of that sum in a sandbox is worth. -/
noncomputable def Try.pinned : Pinned := { name := "ytngccnikpjoldaa", sum := "7dc4d3bac752b4c1213ad604eacf83403e1ccc10674ecd1c8b8c9c48eb191994", checked := Try.checked }
namespace Rows
def none {H : Type} : Left H := { results := [], args := [] }

/-- 'hstsstorelaw12.PunycodeEncodeMatchesSpec': WHATEVER THE INPUT: true; the input reads as it did. -/
def punycodeEncodeMatchesSpecSpec : ChangeSpec := { name := "punycodeEncodeMatchesSpec", fn := fun _ => fun
  | [d] => { results := [.lit (.bool true)], args := [d] }
  | _ => none }
def punycodeEncodeMatchesSpecRow : OpenClaim := { program := "ytngccnikpjoldaa", sum := "7dc4d3bac752b4c1213ad604eacf83403e1ccc10674ecd1c8b8c9c48eb191994", func := "hstsstore/hstsstorelaw12.PunycodeEncodeMatchesSpec", spec := "punycodeEncodeMatchesSpec", inPlace := ["slices.overlaps[int]"], unfollowed := true, recurses := true, apart := false }
def PunycodeEncodeMatchesSpecSaid : Prop := punycodeEncodeMatchesSpecRow.holds Try.pinned (OpenSpec.ofChange punycodeEncodeMatchesSpecSpec)

/-- ITS FALSE NEIGHBOUR: 'it returns false'. Refute it at one input. -/
def punycodeEncodeMatchesSpecWrong : ChangeSpec := { name := "punycodeEncodeMatchesSpec", fn := fun _ => fun
  | [d] => { results := [.lit (.bool false)], args := [d] }
  | _ => none }
def PunycodeEncodeMatchesSpecWrongFalsely : Prop := punycodeEncodeMatchesSpecRow.holds Try.pinned (OpenSpec.ofChange punycodeEncodeMatchesSpecWrong)

/-- 'hstsstorelaw12.PunycodeDecodeMatchesSpec': WHATEVER THE INPUT: true; the input reads as it did. -/
def punycodeDecodeMatchesSpecSpec : ChangeSpec := { name := "punycodeDecodeMatchesSpec", fn := fun _ => fun
  | [d] => { results := [.lit (.bool true)], args := [d] }
  | _ => none }
def punycodeDecodeMatchesSpecRow : OpenClaim := { program := "ytngccnikpjoldaa", sum := "7dc4d3bac752b4c1213ad604eacf83403e1ccc10674ecd1c8b8c9c48eb191994", func := "hstsstore/hstsstorelaw12.PunycodeDecodeMatchesSpec", spec := "punycodeDecodeMatchesSpec", inPlace := ["slices.overlaps[int]"], unfollowed := true, recurses := true, apart := false }
def PunycodeDecodeMatchesSpecSaid : Prop := punycodeDecodeMatchesSpecRow.holds Try.pinned (OpenSpec.ofChange punycodeDecodeMatchesSpecSpec)

/-- ITS FALSE NEIGHBOUR: 'it returns false'. Refute it at one input. -/
def punycodeDecodeMatchesSpecWrong : ChangeSpec := { name := "punycodeDecodeMatchesSpec", fn := fun _ => fun
  | [d] => { results := [.lit (.bool false)], args := [d] }
  | _ => none }
def PunycodeDecodeMatchesSpecWrongFalsely : Prop := punycodeDecodeMatchesSpecRow.holds Try.pinned (OpenSpec.ofChange punycodeDecodeMatchesSpecWrong)

/-- 'hstsstorelaw12.PunycodeRoundTrip': WHATEVER THE INPUT: true; the input reads as it did. -/
def punycodeRoundTripSpec : ChangeSpec := { name := "punycodeRoundTrip", fn := fun _ => fun
  | [d] => { results := [.lit (.bool true)], args := [d] }
  | _ => none }
def punycodeRoundTripRow : OpenClaim := { program := "ytngccnikpjoldaa", sum := "7dc4d3bac752b4c1213ad604eacf83403e1ccc10674ecd1c8b8c9c48eb191994", func := "hstsstore/hstsstorelaw12.PunycodeRoundTrip", spec := "punycodeRoundTrip", inPlace := ["slices.overlaps[int]"], unfollowed := true, recurses := true, apart := false }
def PunycodeRoundTripSaid : Prop := punycodeRoundTripRow.holds Try.pinned (OpenSpec.ofChange punycodeRoundTripSpec)

/-- ITS FALSE NEIGHBOUR: 'it returns false'. Refute it at one input. -/
def punycodeRoundTripWrong : ChangeSpec := { name := "punycodeRoundTrip", fn := fun _ => fun
  | [d] => { results := [.lit (.bool false)], args := [d] }
  | _ => none }
def PunycodeRoundTripWrongFalsely : Prop := punycodeRoundTripRow.holds Try.pinned (OpenSpec.ofChange punycodeRoundTripWrong)

/-- 'hstsstorelaw12.PunycodeForm': WHATEVER THE INPUT: true; the input reads as it did. -/
def punycodeFormSpec : ChangeSpec := { name := "punycodeForm", fn := fun _ => fun
  | [d] => { results := [.lit (.bool true)], args := [d] }
  | _ => none }
def punycodeFormRow : OpenClaim := { program := "ytngccnikpjoldaa", sum := "7dc4d3bac752b4c1213ad604eacf83403e1ccc10674ecd1c8b8c9c48eb191994", func := "hstsstore/hstsstorelaw12.PunycodeForm", spec := "punycodeForm", inPlace := ["slices.overlaps[int]"], unfollowed := true, recurses := true, apart := false }
def PunycodeFormSaid : Prop := punycodeFormRow.holds Try.pinned (OpenSpec.ofChange punycodeFormSpec)

/-- ITS FALSE NEIGHBOUR: 'it returns false'. Refute it at one input. -/
def punycodeFormWrong : ChangeSpec := { name := "punycodeForm", fn := fun _ => fun
  | [d] => { results := [.lit (.bool false)], args := [d] }
  | _ => none }
def PunycodeFormWrongFalsely : Prop := punycodeFormRow.holds Try.pinned (OpenSpec.ofChange punycodeFormWrong)

/-- 'hstsstorelaw12.PunycodeInjective': WHATEVER THE INPUT: true; the input reads as it did. -/
def punycodeInjectiveSpec : ChangeSpec := { name := "punycodeInjective", fn := fun _ => fun
  | [d] => { results := [.lit (.bool true)], args := [d] }
  | _ => none }
def punycodeInjectiveRow : OpenClaim := { program := "ytngccnikpjoldaa", sum := "7dc4d3bac752b4c1213ad604eacf83403e1ccc10674ecd1c8b8c9c48eb191994", func := "hstsstore/hstsstorelaw12.PunycodeInjective", spec := "punycodeInjective", inPlace := ["slices.overlaps[int]"], unfollowed := true, recurses := true, apart := false }
def PunycodeInjectiveSaid : Prop := punycodeInjectiveRow.holds Try.pinned (OpenSpec.ofChange punycodeInjectiveSpec)

/-- ITS FALSE NEIGHBOUR: 'it returns false'. Refute it at one input. -/
def punycodeInjectiveWrong : ChangeSpec := { name := "punycodeInjective", fn := fun _ => fun
  | [d] => { results := [.lit (.bool false)], args := [d] }
  | _ => none }
def PunycodeInjectiveWrongFalsely : Prop := punycodeInjectiveRow.holds Try.pinned (OpenSpec.ofChange punycodeInjectiveWrong)

/- THE SECOND FORM. 'bulk': how many values and letters a reading holds, each counted each time it is reached (what is shared counts as often as it is met; a slice's spare places count too). A statement '..UptoSaid' is the law's where the arguments, and the package variables that the reading takes, are together of bulk at most 1048576: NARROWER than '..Said'. Prove '..Said' where nothing that the law and all that it calls make is longer than what came in: it says more and counts as full. Else prove '..UptoSaid'. A law counts once. -/
mutual
def uptoBulk {H : Type} : DataW H → Nat
  | .lit (.string bytes) => bytes.length + 1
  | .lit _ => 1
  | .nil => 1
  | .ptr d => uptoBulk d + 1
  | .slice elems spare => uptoBulkAll elems + uptoBulkAll spare + 1
  | .agg parts => uptoBulkAll parts + 1
  | .iface _ d => uptoBulk d + 1
  | .map entries => uptoBulkEntries entries + 1
  | .held _ => 1
def uptoBulkAll {H : Type} : List (DataW H) → Nat
  | [] => 0
  | d :: r => uptoBulk d + uptoBulkAll r
def uptoBulkEntries {H : Type} : List (Lit × DataW H) → Nat
  | [] => 0
  | x :: r => uptoBulkEntry x + uptoBulkEntries r
def uptoBulkEntry {H : Type} : Lit × DataW H → Nat
  | (.string bytes, d) => bytes.length + uptoBulk d + 1
  | (_, d) => uptoBulk d + 1
 end
def uptoSmall : (H : Type) → List (DataW H) → Bool := fun _ ds => decide (uptoBulkAll ds ≤ 1048576)
def OpenSpec.upto (s : _root_.Go.ChangeSpec) : _root_.Go.OpenSpec := { _root_.Go.OpenSpec.ofChange s with cond := some uptoSmall }

/-- 'hstsstorelaw12.PunycodeEncodeMatchesSpec', WHERE WHAT IT READS IS OF BULK AT MOST 1048576: true; the input reads as it did. -/
def punycodeEncodeMatchesSpecUptoRow : OpenClaim := { program := "ytngccnikpjoldaa", sum := "7dc4d3bac752b4c1213ad604eacf83403e1ccc10674ecd1c8b8c9c48eb191994", func := "hstsstore/hstsstorelaw12.PunycodeEncodeMatchesSpec", spec := "punycodeEncodeMatchesSpec", inPlace := ["slices.overlaps[int]"], unfollowed := true, recurses := true, apart := false, narrowed := true }
def PunycodeEncodeMatchesSpecUptoSaid : Prop := punycodeEncodeMatchesSpecUptoRow.holds Try.pinned (OpenSpec.upto punycodeEncodeMatchesSpecSpec)

/-- 'hstsstorelaw12.PunycodeDecodeMatchesSpec', WHERE WHAT IT READS IS OF BULK AT MOST 1048576: true; the input reads as it did. -/
def punycodeDecodeMatchesSpecUptoRow : OpenClaim := { program := "ytngccnikpjoldaa", sum := "7dc4d3bac752b4c1213ad604eacf83403e1ccc10674ecd1c8b8c9c48eb191994", func := "hstsstore/hstsstorelaw12.PunycodeDecodeMatchesSpec", spec := "punycodeDecodeMatchesSpec", inPlace := ["slices.overlaps[int]"], unfollowed := true, recurses := true, apart := false, narrowed := true }
def PunycodeDecodeMatchesSpecUptoSaid : Prop := punycodeDecodeMatchesSpecUptoRow.holds Try.pinned (OpenSpec.upto punycodeDecodeMatchesSpecSpec)

/-- 'hstsstorelaw12.PunycodeRoundTrip', WHERE WHAT IT READS IS OF BULK AT MOST 1048576: true; the input reads as it did. -/
def punycodeRoundTripUptoRow : OpenClaim := { program := "ytngccnikpjoldaa", sum := "7dc4d3bac752b4c1213ad604eacf83403e1ccc10674ecd1c8b8c9c48eb191994", func := "hstsstore/hstsstorelaw12.PunycodeRoundTrip", spec := "punycodeRoundTrip", inPlace := ["slices.overlaps[int]"], unfollowed := true, recurses := true, apart := false, narrowed := true }
def PunycodeRoundTripUptoSaid : Prop := punycodeRoundTripUptoRow.holds Try.pinned (OpenSpec.upto punycodeRoundTripSpec)

/-- 'hstsstorelaw12.PunycodeForm', WHERE WHAT IT READS IS OF BULK AT MOST 1048576: true; the input reads as it did. -/
def punycodeFormUptoRow : OpenClaim := { program := "ytngccnikpjoldaa", sum := "7dc4d3bac752b4c1213ad604eacf83403e1ccc10674ecd1c8b8c9c48eb191994", func := "hstsstore/hstsstorelaw12.PunycodeForm", spec := "punycodeForm", inPlace := ["slices.overlaps[int]"], unfollowed := true, recurses := true, apart := false, narrowed := true }
def PunycodeFormUptoSaid : Prop := punycodeFormUptoRow.holds Try.pinned (OpenSpec.upto punycodeFormSpec)

/-- 'hstsstorelaw12.PunycodeInjective', WHERE WHAT IT READS IS OF BULK AT MOST 1048576: true; the input reads as it did. -/
def punycodeInjectiveUptoRow : OpenClaim := { program := "ytngccnikpjoldaa", sum := "7dc4d3bac752b4c1213ad604eacf83403e1ccc10674ecd1c8b8c9c48eb191994", func := "hstsstore/hstsstorelaw12.PunycodeInjective", spec := "punycodeInjective", inPlace := ["slices.overlaps[int]"], unfollowed := true, recurses := true, apart := false, narrowed := true }
def PunycodeInjectiveUptoSaid : Prop := punycodeInjectiveUptoRow.holds Try.pinned (OpenSpec.upto punycodeInjectiveSpec)

end Rows
end Go.Proofs.Ytngccnikpjoldaa
