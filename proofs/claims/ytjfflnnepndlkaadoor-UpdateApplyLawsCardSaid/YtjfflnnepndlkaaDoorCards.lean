/-
  DERIVED. GIVEN WITH THE SEED: THE CARDS: each row of YtjfflnnepndlkaaDoorRows.lean that lists a variable, with what it lists TIED to the program's text (the seventh form; the later family's looks); each row that meets fmt, with fmt's text TOLD by the authors' own Lean function (tested against real Go, not proved from fmt's source: count such statements apart). THE CARD IS WHAT COUNTS. Prove the row's statement (the work); the ties are given (YtjfflnnepndlkaaDoorTie.lean); close each card by the builder's one call (the guide's Derived/Test/ToyasCard.lean, 'card_holds'). Laid BY PROGRAM, IN A SANDBOX (cutbox-door.mjs). By AI agents, Wed Nov 11 2026. No macro, syntax, notation, axiom, sorry.
-/
import Derived.Test.YtjfflnnepndlkaaDoorRows
import GoSem.ClaimSeven
namespace Go.Proofs.YtjfflnnepndlkaaDoor
namespace Rows

/-- THE TIED CARD OF 'hstsstorelaw31.UpdateApplyLaws'. -/
def updateApplyLawsCard : Claim7 := { stood := { row := updateApplyLawsRow, standIns := [], harness := (true, "33b9ba6ebe39839cbf119b77e7338210e006b362036208ac546e4a458e09c4a0"), looks := false }, kinds := [], alts := [], laidByText := true, laidKinds := [.data, .pinned], laidTests := true, laidLooks := .later }
def UpdateApplyLawsCardSaid : Prop := Claim7.holds Tryd.pinned (.plain (OpenSpec.ofChange updateApplyLawsSpec)) updateApplyLawsCard

/-- THE TIED CARD OF 'hstsstorelaw32.SnapshotEncodeMatchesSpec'. -/
def snapshotEncodeMatchesSpecCard : Claim7 := { stood := { row := snapshotEncodeMatchesSpecRow, standIns := [], harness := (true, "33b9ba6ebe39839cbf119b77e7338210e006b362036208ac546e4a458e09c4a0"), looks := false }, kinds := [], alts := [], laidByText := true, laidKinds := [.data, .pinned], laidTests := true, laidLooks := .later }
def SnapshotEncodeMatchesSpecCardSaid : Prop := Claim7.holds Tryd.pinned (.plain (OpenSpec.ofChange snapshotEncodeMatchesSpecSpec)) snapshotEncodeMatchesSpecCard

/-- THE TIED CARD OF 'hstsstorelaw32.SnapshotDecodeMatchesSpec'. -/
def snapshotDecodeMatchesSpecCard : Claim7 := { stood := { row := snapshotDecodeMatchesSpecRow, standIns := [], harness := (true, "33b9ba6ebe39839cbf119b77e7338210e006b362036208ac546e4a458e09c4a0"), looks := false }, kinds := [], alts := [], laidByText := true, laidKinds := [.data, .pinned], laidTests := true, laidLooks := .later }
def SnapshotDecodeMatchesSpecCardSaid : Prop := Claim7.holds Tryd.pinned (.plain (OpenSpec.ofChange snapshotDecodeMatchesSpecSpec)) snapshotDecodeMatchesSpecCard

/-- THE TIED CARD OF 'hstsstorelaw32.SnapshotRoundTrip'. -/
def snapshotRoundTripCard : Claim7 := { stood := { row := snapshotRoundTripRow, standIns := [], harness := (true, "33b9ba6ebe39839cbf119b77e7338210e006b362036208ac546e4a458e09c4a0"), looks := false }, kinds := [], alts := [], laidByText := true, laidKinds := [.data, .pinned], laidTests := true, laidLooks := .later }
def SnapshotRoundTripCardSaid : Prop := Claim7.holds Tryd.pinned (.plain (OpenSpec.ofChange snapshotRoundTripSpec)) snapshotRoundTripCard

/-- THE TIED CARD OF 'hstsstorelaw32.SnapshotBound'. -/
def snapshotBoundCard : Claim7 := { stood := { row := snapshotBoundRow, standIns := [], harness := (true, "33b9ba6ebe39839cbf119b77e7338210e006b362036208ac546e4a458e09c4a0"), looks := false }, kinds := [], alts := [], laidByText := true, laidKinds := [.data, .pinned], laidTests := true, laidLooks := .later }
def SnapshotBoundCardSaid : Prop := Claim7.holds Tryd.pinned (.plain (OpenSpec.ofChange snapshotBoundSpec)) snapshotBoundCard

/-- THE TIED CARD OF 'hstsstorelaw31.UpdateRoundTrip'. -/
def updateRoundTripCard : Claim7 := { stood := { row := updateRoundTripRow, standIns := [], harness := (true, "33b9ba6ebe39839cbf119b77e7338210e006b362036208ac546e4a458e09c4a0"), looks := false }, kinds := [], alts := [], laidByText := true, laidKinds := [.data, .pinned], laidTests := true, laidLooks := .later }
def UpdateRoundTripCardSaid : Prop := Claim7.holds Tryd.pinned (.plain (OpenSpec.ofChange updateRoundTripSpec)) updateRoundTripCard

/-- THE SECOND FORM's CARD OF 'hstsstorelaw31.UpdateApplyLaws'. -/
def updateApplyLawsUptoCard : Claim7 := { stood := { row := updateApplyLawsUptoRow, standIns := [], harness := (true, "33b9ba6ebe39839cbf119b77e7338210e006b362036208ac546e4a458e09c4a0"), looks := false }, kinds := [], alts := [], laidByText := true, laidKinds := [.data, .pinned], laidTests := true, laidLooks := .later }
def UpdateApplyLawsUptoCardSaid : Prop := Claim7.holds Tryd.pinned (.plain (OpenSpec.upto updateApplyLawsSpec)) updateApplyLawsUptoCard

/-- THE SECOND FORM's CARD OF 'hstsstorelaw32.SnapshotEncodeMatchesSpec'. -/
def snapshotEncodeMatchesSpecUptoCard : Claim7 := { stood := { row := snapshotEncodeMatchesSpecUptoRow, standIns := [], harness := (true, "33b9ba6ebe39839cbf119b77e7338210e006b362036208ac546e4a458e09c4a0"), looks := false }, kinds := [], alts := [], laidByText := true, laidKinds := [.data, .pinned], laidTests := true, laidLooks := .later }
def SnapshotEncodeMatchesSpecUptoCardSaid : Prop := Claim7.holds Tryd.pinned (.plain (OpenSpec.upto snapshotEncodeMatchesSpecSpec)) snapshotEncodeMatchesSpecUptoCard

/-- THE SECOND FORM's CARD OF 'hstsstorelaw32.SnapshotDecodeMatchesSpec'. -/
def snapshotDecodeMatchesSpecUptoCard : Claim7 := { stood := { row := snapshotDecodeMatchesSpecUptoRow, standIns := [], harness := (true, "33b9ba6ebe39839cbf119b77e7338210e006b362036208ac546e4a458e09c4a0"), looks := false }, kinds := [], alts := [], laidByText := true, laidKinds := [.data, .pinned], laidTests := true, laidLooks := .later }
def SnapshotDecodeMatchesSpecUptoCardSaid : Prop := Claim7.holds Tryd.pinned (.plain (OpenSpec.upto snapshotDecodeMatchesSpecSpec)) snapshotDecodeMatchesSpecUptoCard

/-- THE SECOND FORM's CARD OF 'hstsstorelaw32.SnapshotRoundTrip'. -/
def snapshotRoundTripUptoCard : Claim7 := { stood := { row := snapshotRoundTripUptoRow, standIns := [], harness := (true, "33b9ba6ebe39839cbf119b77e7338210e006b362036208ac546e4a458e09c4a0"), looks := false }, kinds := [], alts := [], laidByText := true, laidKinds := [.data, .pinned], laidTests := true, laidLooks := .later }
def SnapshotRoundTripUptoCardSaid : Prop := Claim7.holds Tryd.pinned (.plain (OpenSpec.upto snapshotRoundTripSpec)) snapshotRoundTripUptoCard

/-- THE SECOND FORM's CARD OF 'hstsstorelaw32.SnapshotBound'. -/
def snapshotBoundUptoCard : Claim7 := { stood := { row := snapshotBoundUptoRow, standIns := [], harness := (true, "33b9ba6ebe39839cbf119b77e7338210e006b362036208ac546e4a458e09c4a0"), looks := false }, kinds := [], alts := [], laidByText := true, laidKinds := [.data, .pinned], laidTests := true, laidLooks := .later }
def SnapshotBoundUptoCardSaid : Prop := Claim7.holds Tryd.pinned (.plain (OpenSpec.upto snapshotBoundSpec)) snapshotBoundUptoCard

/-- THE SECOND FORM's CARD OF 'hstsstorelaw31.UpdateRoundTrip'. -/
def updateRoundTripUptoCard : Claim7 := { stood := { row := updateRoundTripUptoRow, standIns := [], harness := (true, "33b9ba6ebe39839cbf119b77e7338210e006b362036208ac546e4a458e09c4a0"), looks := false }, kinds := [], alts := [], laidByText := true, laidKinds := [.data, .pinned], laidTests := true, laidLooks := .later }
def UpdateRoundTripUptoCardSaid : Prop := Claim7.holds Tryd.pinned (.plain (OpenSpec.upto updateRoundTripSpec)) updateRoundTripUptoCard
end Rows
end Go.Proofs.YtjfflnnepndlkaaDoor
