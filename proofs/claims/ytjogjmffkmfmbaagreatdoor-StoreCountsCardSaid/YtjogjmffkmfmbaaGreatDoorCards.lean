/-
  DERIVED. GIVEN WITH THE SEED: THE CARDS: each row of YtjogjmffkmfmbaaGreatDoorRows.lean that lists a variable, with what it lists TIED to the program's text (the seventh form; the later family's looks); each row that meets fmt, with fmt's text TOLD by the authors' own Lean function (tested against real Go, not proved from fmt's source: count such statements apart). THE CARD IS WHAT COUNTS. Prove the row's statement (the work); the ties are given (YtjogjmffkmfmbaaGreatDoorTie.lean); close each card by the builder's one call (the guide's Derived/Test/ToyasCard.lean, 'card_holds'). Laid BY PROGRAM, IN A SANDBOX (cutbox-door.mjs). By AI agents, Wed Nov 11 2026. No macro, syntax, notation, axiom, sorry.
-/
import Derived.Test.YtjogjmffkmfmbaaGreatDoorRows
import GoSem.ClaimSeven
namespace Go.Proofs.YtjogjmffkmfmbaaGreatDoor
namespace Rows

/-- THE TIED CARD OF 'guillochelaw09.CursorAny'. -/
def cursorAnyCard : Claim7 := { stood := { row := cursorAnyRow, standIns := [], harness := (true, "b7bd1e2e29b688aa281167e6180871ca34643c5c354714fdb60332ef6a4a105a"), looks := true }, kinds := [], alts := [], laidByText := true, laidKinds := [.handle, .data], laidTests := true, laidLooks := .later }
def CursorAnyCardSaid : Prop := Claim7.holds Tryz.pinned (.plain (OpenSpec.ofChange cursorAnySpec)) cursorAnyCard

/-- THE TIED CARD OF 'guillochelaw11.ProofBuilds'. -/
def proofBuildsCard : Claim7 := { stood := { row := proofBuildsRow, standIns := [], harness := (true, "b7bd1e2e29b688aa281167e6180871ca34643c5c354714fdb60332ef6a4a105a"), looks := true }, kinds := [], alts := [], laidByText := true, laidKinds := [.handle, .data], laidTests := true, laidLooks := .later }
def ProofBuildsCardSaid : Prop := Claim7.holds Tryz.pinned (.plain (OpenSpec.ofChange proofBuildsSpec)) proofBuildsCard

/-- THE TIED CARD OF 'guillochelaw11.ProofSound'. -/
def proofSoundCard : Claim7 := { stood := { row := proofSoundRow, standIns := [], harness := (true, "b7bd1e2e29b688aa281167e6180871ca34643c5c354714fdb60332ef6a4a105a"), looks := true }, kinds := [], alts := [], laidByText := true, laidKinds := [.handle, .data], laidTests := true, laidLooks := .later }
def ProofSoundCardSaid : Prop := Claim7.holds Tryz.pinned (.plain (OpenSpec.ofChange proofSoundSpec)) proofSoundCard

/-- THE TIED CARD OF 'guillochelaw11.ProofOne'. -/
def proofOneCard : Claim7 := { stood := { row := proofOneRow, standIns := [], harness := (true, "b7bd1e2e29b688aa281167e6180871ca34643c5c354714fdb60332ef6a4a105a"), looks := true }, kinds := [], alts := [], laidByText := true, laidKinds := [.handle, .data], laidTests := true, laidLooks := .later }
def ProofOneCardSaid : Prop := Claim7.holds Tryz.pinned (.plain (OpenSpec.ofChange proofOneSpec)) proofOneCard

/-- THE TIED CARD OF 'guillochelaw11.ProofTurned'. -/
def proofTurnedCard : Claim7 := { stood := { row := proofTurnedRow, standIns := [], harness := (true, "b7bd1e2e29b688aa281167e6180871ca34643c5c354714fdb60332ef6a4a105a"), looks := true }, kinds := [], alts := [], laidByText := true, laidKinds := [.handle, .data], laidTests := true, laidLooks := .later }
def ProofTurnedCardSaid : Prop := Claim7.holds Tryz.pinned (.plain (OpenSpec.ofChange proofTurnedSpec)) proofTurnedCard

/-- THE TIED CARD OF 'guillochelaw11.ProofShort'. -/
def proofShortCard : Claim7 := { stood := { row := proofShortRow, standIns := [], harness := (true, "b7bd1e2e29b688aa281167e6180871ca34643c5c354714fdb60332ef6a4a105a"), looks := true }, kinds := [], alts := [], laidByText := true, laidKinds := [.handle, .data], laidTests := true, laidLooks := .later }
def ProofShortCardSaid : Prop := Claim7.holds Tryz.pinned (.plain (OpenSpec.ofChange proofShortSpec)) proofShortCard

/-- THE TIED CARD OF 'guillochelaw06.StoreDoes'. -/
def storeDoesCard : Claim7 := { stood := { row := storeDoesRow, standIns := [], harness := (true, "b7bd1e2e29b688aa281167e6180871ca34643c5c354714fdb60332ef6a4a105a"), looks := true }, kinds := [], alts := [], laidByText := true, laidKinds := [.handle, .data], laidTests := true, laidLooks := .later }
def StoreDoesCardSaid : Prop := Claim7.holds Tryz.pinned (.plain (OpenSpec.ofChange storeDoesSpec)) storeDoesCard

/-- THE TIED CARD OF 'guillochelaw06.StoreCounts'. -/
def storeCountsCard : Claim7 := { stood := { row := storeCountsRow, standIns := [], harness := (true, "b7bd1e2e29b688aa281167e6180871ca34643c5c354714fdb60332ef6a4a105a"), looks := true }, kinds := [], alts := [], laidByText := true, laidKinds := [.handle, .data], laidTests := true, laidLooks := .later }
def StoreCountsCardSaid : Prop := Claim7.holds Tryz.pinned (.plain (OpenSpec.ofChange storeCountsSpec)) storeCountsCard

/-- THE SECOND FORM's CARD OF 'guillochelaw09.CursorAny'. -/
def cursorAnyUptoCard : Claim7 := { stood := { row := cursorAnyUptoRow, standIns := [], harness := (true, "b7bd1e2e29b688aa281167e6180871ca34643c5c354714fdb60332ef6a4a105a"), looks := true }, kinds := [], alts := [], laidByText := true, laidKinds := [.handle, .data], laidTests := true, laidLooks := .later }
def CursorAnyUptoCardSaid : Prop := Claim7.holds Tryz.pinned (.plain (OpenSpec.upto cursorAnySpec)) cursorAnyUptoCard

/-- THE SECOND FORM's CARD OF 'guillochelaw11.ProofBuilds'. -/
def proofBuildsUptoCard : Claim7 := { stood := { row := proofBuildsUptoRow, standIns := [], harness := (true, "b7bd1e2e29b688aa281167e6180871ca34643c5c354714fdb60332ef6a4a105a"), looks := true }, kinds := [], alts := [], laidByText := true, laidKinds := [.handle, .data], laidTests := true, laidLooks := .later }
def ProofBuildsUptoCardSaid : Prop := Claim7.holds Tryz.pinned (.plain (OpenSpec.upto proofBuildsSpec)) proofBuildsUptoCard

/-- THE SECOND FORM's CARD OF 'guillochelaw11.ProofSound'. -/
def proofSoundUptoCard : Claim7 := { stood := { row := proofSoundUptoRow, standIns := [], harness := (true, "b7bd1e2e29b688aa281167e6180871ca34643c5c354714fdb60332ef6a4a105a"), looks := true }, kinds := [], alts := [], laidByText := true, laidKinds := [.handle, .data], laidTests := true, laidLooks := .later }
def ProofSoundUptoCardSaid : Prop := Claim7.holds Tryz.pinned (.plain (OpenSpec.upto proofSoundSpec)) proofSoundUptoCard

/-- THE SECOND FORM's CARD OF 'guillochelaw11.ProofOne'. -/
def proofOneUptoCard : Claim7 := { stood := { row := proofOneUptoRow, standIns := [], harness := (true, "b7bd1e2e29b688aa281167e6180871ca34643c5c354714fdb60332ef6a4a105a"), looks := true }, kinds := [], alts := [], laidByText := true, laidKinds := [.handle, .data], laidTests := true, laidLooks := .later }
def ProofOneUptoCardSaid : Prop := Claim7.holds Tryz.pinned (.plain (OpenSpec.upto proofOneSpec)) proofOneUptoCard

/-- THE SECOND FORM's CARD OF 'guillochelaw11.ProofTurned'. -/
def proofTurnedUptoCard : Claim7 := { stood := { row := proofTurnedUptoRow, standIns := [], harness := (true, "b7bd1e2e29b688aa281167e6180871ca34643c5c354714fdb60332ef6a4a105a"), looks := true }, kinds := [], alts := [], laidByText := true, laidKinds := [.handle, .data], laidTests := true, laidLooks := .later }
def ProofTurnedUptoCardSaid : Prop := Claim7.holds Tryz.pinned (.plain (OpenSpec.upto proofTurnedSpec)) proofTurnedUptoCard

/-- THE SECOND FORM's CARD OF 'guillochelaw11.ProofShort'. -/
def proofShortUptoCard : Claim7 := { stood := { row := proofShortUptoRow, standIns := [], harness := (true, "b7bd1e2e29b688aa281167e6180871ca34643c5c354714fdb60332ef6a4a105a"), looks := true }, kinds := [], alts := [], laidByText := true, laidKinds := [.handle, .data], laidTests := true, laidLooks := .later }
def ProofShortUptoCardSaid : Prop := Claim7.holds Tryz.pinned (.plain (OpenSpec.upto proofShortSpec)) proofShortUptoCard

/-- THE SECOND FORM's CARD OF 'guillochelaw06.StoreDoes'. -/
def storeDoesUptoCard : Claim7 := { stood := { row := storeDoesUptoRow, standIns := [], harness := (true, "b7bd1e2e29b688aa281167e6180871ca34643c5c354714fdb60332ef6a4a105a"), looks := true }, kinds := [], alts := [], laidByText := true, laidKinds := [.handle, .data], laidTests := true, laidLooks := .later }
def StoreDoesUptoCardSaid : Prop := Claim7.holds Tryz.pinned (.plain (OpenSpec.upto storeDoesSpec)) storeDoesUptoCard

/-- THE SECOND FORM's CARD OF 'guillochelaw06.StoreCounts'. -/
def storeCountsUptoCard : Claim7 := { stood := { row := storeCountsUptoRow, standIns := [], harness := (true, "b7bd1e2e29b688aa281167e6180871ca34643c5c354714fdb60332ef6a4a105a"), looks := true }, kinds := [], alts := [], laidByText := true, laidKinds := [.handle, .data], laidTests := true, laidLooks := .later }
def StoreCountsUptoCardSaid : Prop := Claim7.holds Tryz.pinned (.plain (OpenSpec.upto storeCountsSpec)) storeCountsUptoCard
end Rows
end Go.Proofs.YtjogjmffkmfmbaaGreatDoor
