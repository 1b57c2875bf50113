/-
  DERIVED. GIVEN WITH THE SEED: THE CARDS: each row of YtjmfnakplmmpnaaDoorRows.lean that lists a variable, with what it lists TIED to the program's text (the seventh form; the later family's looks); each row that meets fmt, with fmt's text TOLD by the authors' own Lean function (tested against real Go, not proved from fmt's source: count such statements apart). THE CARD IS WHAT COUNTS. Prove the row's statement (the work); the ties are given (YtjmfnakplmmpnaaDoorTie.lean); close each card by the builder's one call (the guide's Derived/Test/ToyasCard.lean, 'card_holds'). Laid BY PROGRAM, IN A SANDBOX (cutbox-door.mjs). By AI agents, Wed Nov 11 2026. No macro, syntax, notation, axiom, sorry.
-/
import Derived.Test.YtjmfnakplmmpnaaDoorRows
import GoSem.ClaimSeven
namespace Go.Proofs.YtjmfnakplmmpnaaDoor
namespace Rows

/-- THE TIED CARD OF 'droverlaw04.WireJobs'. -/
def wireJobsCard : Claim7 := { stood := { row := wireJobsRow, standIns := [], harness := (true, "ca33eb3616e0f1ad22defeb518e0be174bd32f8baa8a167ea6fb788a90d058ad"), looks := true }, kinds := [], alts := [], laidByText := true, laidKinds := [.sentinel], laidTests := true, laidLooks := .later }
def WireJobsCardSaid : Prop := Claim7.holds Tryd.pinned (.plain (OpenSpec.ofChange wireJobsSpec)) wireJobsCard

/-- THE TIED CARD OF 'droverlaw04.WireFrames'. -/
def wireFramesCard : Claim7 := { stood := { row := wireFramesRow, standIns := [], harness := (true, "ca33eb3616e0f1ad22defeb518e0be174bd32f8baa8a167ea6fb788a90d058ad"), looks := true }, kinds := [], alts := [], laidByText := true, laidKinds := [.sentinel], laidTests := true, laidLooks := .later }
def WireFramesCardSaid : Prop := Claim7.holds Tryd.pinned (.plain (OpenSpec.ofChange wireFramesSpec)) wireFramesCard

/-- THE TIED CARD OF 'droverlaw04.WireOpens'. -/
def wireOpensCard : Claim7 := { stood := { row := wireOpensRow, standIns := [], harness := (true, "ca33eb3616e0f1ad22defeb518e0be174bd32f8baa8a167ea6fb788a90d058ad"), looks := true }, kinds := [], alts := [], laidByText := true, laidKinds := [.sentinel], laidTests := true, laidLooks := .later }
def WireOpensCardSaid : Prop := Claim7.holds Tryd.pinned (.plain (OpenSpec.ofChange wireOpensSpec)) wireOpensCard

/-- THE TIED CARD OF 'droverlaw04.WireKeeps'. -/
def wireKeepsCard : Claim7 := { stood := { row := wireKeepsRow, standIns := [], harness := (true, "ca33eb3616e0f1ad22defeb518e0be174bd32f8baa8a167ea6fb788a90d058ad"), looks := true }, kinds := [], alts := [], laidByText := true, laidKinds := [.sentinel], laidTests := true, laidLooks := .later }
def WireKeepsCardSaid : Prop := Claim7.holds Tryd.pinned (.plain (OpenSpec.ofChange wireKeepsSpec)) wireKeepsCard

/-- THE TIED CARD OF 'droverlaw04.WireEncodes'. -/
def wireEncodesCard : Claim7 := { stood := { row := wireEncodesRow, standIns := [], harness := (true, "ca33eb3616e0f1ad22defeb518e0be174bd32f8baa8a167ea6fb788a90d058ad"), looks := true }, kinds := [], alts := [], laidByText := true, laidKinds := [.sentinel], laidTests := true, laidLooks := .later }
def WireEncodesCardSaid : Prop := Claim7.holds Tryd.pinned (.plain (OpenSpec.ofChange wireEncodesSpec)) wireEncodesCard

/-- THE TIED CARD OF 'droverlaw04.WireDecodes'. -/
def wireDecodesCard : Claim7 := { stood := { row := wireDecodesRow, standIns := [], harness := (true, "ca33eb3616e0f1ad22defeb518e0be174bd32f8baa8a167ea6fb788a90d058ad"), looks := true }, kinds := [], alts := [], laidByText := true, laidKinds := [.sentinel], laidTests := true, laidLooks := .later }
def WireDecodesCardSaid : Prop := Claim7.holds Tryd.pinned (.plain (OpenSpec.ofChange wireDecodesSpec)) wireDecodesCard

/-- THE TIED CARD OF 'droverlaw04.WireBack'. -/
def wireBackCard : Claim7 := { stood := { row := wireBackRow, standIns := [], harness := (true, "ca33eb3616e0f1ad22defeb518e0be174bd32f8baa8a167ea6fb788a90d058ad"), looks := true }, kinds := [], alts := [], laidByText := true, laidKinds := [.sentinel], laidTests := true, laidLooks := .later }
def WireBackCardSaid : Prop := Claim7.holds Tryd.pinned (.plain (OpenSpec.ofChange wireBackSpec)) wireBackCard

/-- THE SECOND FORM's CARD OF 'droverlaw04.WireJobs'. -/
def wireJobsUptoCard : Claim7 := { stood := { row := wireJobsUptoRow, standIns := [], harness := (true, "ca33eb3616e0f1ad22defeb518e0be174bd32f8baa8a167ea6fb788a90d058ad"), looks := true }, kinds := [], alts := [], laidByText := true, laidKinds := [.sentinel], laidTests := true, laidLooks := .later }
def WireJobsUptoCardSaid : Prop := Claim7.holds Tryd.pinned (.plain (OpenSpec.upto wireJobsSpec)) wireJobsUptoCard

/-- THE SECOND FORM's CARD OF 'droverlaw04.WireFrames'. -/
def wireFramesUptoCard : Claim7 := { stood := { row := wireFramesUptoRow, standIns := [], harness := (true, "ca33eb3616e0f1ad22defeb518e0be174bd32f8baa8a167ea6fb788a90d058ad"), looks := true }, kinds := [], alts := [], laidByText := true, laidKinds := [.sentinel], laidTests := true, laidLooks := .later }
def WireFramesUptoCardSaid : Prop := Claim7.holds Tryd.pinned (.plain (OpenSpec.upto wireFramesSpec)) wireFramesUptoCard

/-- THE SECOND FORM's CARD OF 'droverlaw04.WireOpens'. -/
def wireOpensUptoCard : Claim7 := { stood := { row := wireOpensUptoRow, standIns := [], harness := (true, "ca33eb3616e0f1ad22defeb518e0be174bd32f8baa8a167ea6fb788a90d058ad"), looks := true }, kinds := [], alts := [], laidByText := true, laidKinds := [.sentinel], laidTests := true, laidLooks := .later }
def WireOpensUptoCardSaid : Prop := Claim7.holds Tryd.pinned (.plain (OpenSpec.upto wireOpensSpec)) wireOpensUptoCard

/-- THE SECOND FORM's CARD OF 'droverlaw04.WireKeeps'. -/
def wireKeepsUptoCard : Claim7 := { stood := { row := wireKeepsUptoRow, standIns := [], harness := (true, "ca33eb3616e0f1ad22defeb518e0be174bd32f8baa8a167ea6fb788a90d058ad"), looks := true }, kinds := [], alts := [], laidByText := true, laidKinds := [.sentinel], laidTests := true, laidLooks := .later }
def WireKeepsUptoCardSaid : Prop := Claim7.holds Tryd.pinned (.plain (OpenSpec.upto wireKeepsSpec)) wireKeepsUptoCard

/-- THE SECOND FORM's CARD OF 'droverlaw04.WireEncodes'. -/
def wireEncodesUptoCard : Claim7 := { stood := { row := wireEncodesUptoRow, standIns := [], harness := (true, "ca33eb3616e0f1ad22defeb518e0be174bd32f8baa8a167ea6fb788a90d058ad"), looks := true }, kinds := [], alts := [], laidByText := true, laidKinds := [.sentinel], laidTests := true, laidLooks := .later }
def WireEncodesUptoCardSaid : Prop := Claim7.holds Tryd.pinned (.plain (OpenSpec.upto wireEncodesSpec)) wireEncodesUptoCard

/-- THE SECOND FORM's CARD OF 'droverlaw04.WireDecodes'. -/
def wireDecodesUptoCard : Claim7 := { stood := { row := wireDecodesUptoRow, standIns := [], harness := (true, "ca33eb3616e0f1ad22defeb518e0be174bd32f8baa8a167ea6fb788a90d058ad"), looks := true }, kinds := [], alts := [], laidByText := true, laidKinds := [.sentinel], laidTests := true, laidLooks := .later }
def WireDecodesUptoCardSaid : Prop := Claim7.holds Tryd.pinned (.plain (OpenSpec.upto wireDecodesSpec)) wireDecodesUptoCard

/-- THE SECOND FORM's CARD OF 'droverlaw04.WireBack'. -/
def wireBackUptoCard : Claim7 := { stood := { row := wireBackUptoRow, standIns := [], harness := (true, "ca33eb3616e0f1ad22defeb518e0be174bd32f8baa8a167ea6fb788a90d058ad"), looks := true }, kinds := [], alts := [], laidByText := true, laidKinds := [.sentinel], laidTests := true, laidLooks := .later }
def WireBackUptoCardSaid : Prop := Claim7.holds Tryd.pinned (.plain (OpenSpec.upto wireBackSpec)) wireBackUptoCard
end Rows
end Go.Proofs.YtjmfnakplmmpnaaDoor
