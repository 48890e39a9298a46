/-
  DERIVED. GIVEN WITH THE SEED: THE CARDS: each row of YtneojlgbcaejmaaGreatDoorRows.lean that lists a variable, with what it lists TIED to the program's text (the seventh form; the later family's looks); each row that meets fmt, with fmt's text TOLD by the authors' own Lean function (tested against real Go, not proved from fmt's source: count such statements apart). THE CARD IS WHAT COUNTS. Prove the row's statement (the work); the ties are given (YtneojlgbcaejmaaGreatDoorTie.lean); close each card by the builder's one call (the guide's Derived/Test/ToyasCard.lean, 'card_holds'). Laid BY PROGRAM, IN A SANDBOX (cutbox-door.mjs). By AI agents, Wed Nov 11 2026. No macro, syntax, notation, axiom, sorry.
-/
import Derived.Test.YtneojlgbcaejmaaGreatDoorRows
import GoSem.ClaimSeven
namespace Go.Proofs.YtneojlgbcaejmaaGreatDoor
namespace Rows

/-- THE TIED CARD OF 'guillochelaw09.CursorPages'. -/
def cursorPagesCard : Claim7 := { stood := { row := cursorPagesRow, standIns := [], harness := (true, "d2c66192a8206f233295009093e67126f72cb59b0c21e1b9761392474d37febc"), looks := true }, kinds := [], alts := [], laidByText := true, laidKinds := [.handle, .data], laidTests := true, laidLooks := .later }
def CursorPagesCardSaid : Prop := Claim7.holds Tryz.pinned (.plain (OpenSpec.ofChange cursorPagesSpec)) cursorPagesCard

/-- THE TIED CARD OF 'guillochelaw09.CursorSteps'. -/
def cursorStepsCard : Claim7 := { stood := { row := cursorStepsRow, standIns := [], harness := (true, "d2c66192a8206f233295009093e67126f72cb59b0c21e1b9761392474d37febc"), looks := true }, kinds := [], alts := [], laidByText := true, laidKinds := [.handle, .data], laidTests := true, laidLooks := .later }
def CursorStepsCardSaid : Prop := Claim7.holds Tryz.pinned (.plain (OpenSpec.ofChange cursorStepsSpec)) cursorStepsCard

/-- THE TIED CARD OF 'guillochelaw09.CursorWhole'. -/
def cursorWholeCard : Claim7 := { stood := { row := cursorWholeRow, standIns := [], harness := (true, "d2c66192a8206f233295009093e67126f72cb59b0c21e1b9761392474d37febc"), looks := true }, kinds := [], alts := [], laidByText := true, laidKinds := [.handle, .data], laidTests := true, laidLooks := .later }
def CursorWholeCardSaid : Prop := Claim7.holds Tryz.pinned (.plain (OpenSpec.ofChange cursorWholeSpec)) cursorWholeCard

/-- THE TIED CARD OF 'guillochelaw09.CursorSplits'. -/
def cursorSplitsCard : Claim7 := { stood := { row := cursorSplitsRow, standIns := [], harness := (true, "d2c66192a8206f233295009093e67126f72cb59b0c21e1b9761392474d37febc"), looks := true }, kinds := [], alts := [], laidByText := true, laidKinds := [.handle, .data], laidTests := true, laidLooks := .later }
def CursorSplitsCardSaid : Prop := Claim7.holds Tryz.pinned (.plain (OpenSpec.ofChange cursorSplitsSpec)) cursorSplitsCard

/-- THE TIED CARD OF 'guillochelaw09.CursorRanges'. -/
def cursorRangesCard : Claim7 := { stood := { row := cursorRangesRow, standIns := [], harness := (true, "d2c66192a8206f233295009093e67126f72cb59b0c21e1b9761392474d37febc"), looks := true }, kinds := [], alts := [], laidByText := true, laidKinds := [.handle, .data], laidTests := true, laidLooks := .later }
def CursorRangesCardSaid : Prop := Claim7.holds Tryz.pinned (.plain (OpenSpec.ofChange cursorRangesSpec)) cursorRangesCard

/-- THE TIED CARD OF 'guillochelaw06.StoreShares'. -/
def storeSharesCard : Claim7 := { stood := { row := storeSharesRow, standIns := [], harness := (true, "d2c66192a8206f233295009093e67126f72cb59b0c21e1b9761392474d37febc"), looks := true }, kinds := [], alts := [], laidByText := true, laidKinds := [.handle, .data], laidTests := true, laidLooks := .later }
def StoreSharesCardSaid : Prop := Claim7.holds Tryz.pinned (.plain (OpenSpec.ofChange storeSharesSpec)) storeSharesCard

/-- THE TIED CARD OF 'guillochelaw06.StoreFull'. -/
def storeFullCard : Claim7 := { stood := { row := storeFullRow, standIns := [], harness := (true, "d2c66192a8206f233295009093e67126f72cb59b0c21e1b9761392474d37febc"), looks := true }, kinds := [], alts := [], laidByText := true, laidKinds := [.handle, .data], laidTests := true, laidLooks := .later }
def StoreFullCardSaid : Prop := Claim7.holds Tryz.pinned (.plain (OpenSpec.ofChange storeFullSpec)) storeFullCard

/-- THE TIED CARD OF 'guillochelaw06.StoreOrder'. -/
def storeOrderCard : Claim7 := { stood := { row := storeOrderRow, standIns := [], harness := (true, "d2c66192a8206f233295009093e67126f72cb59b0c21e1b9761392474d37febc"), looks := true }, kinds := [], alts := [], laidByText := true, laidKinds := [.handle, .data], laidTests := true, laidLooks := .later }
def StoreOrderCardSaid : Prop := Claim7.holds Tryz.pinned (.plain (OpenSpec.ofChange storeOrderSpec)) storeOrderCard

/-- THE SECOND FORM's CARD OF 'guillochelaw09.CursorPages'. -/
def cursorPagesUptoCard : Claim7 := { stood := { row := cursorPagesUptoRow, standIns := [], harness := (true, "d2c66192a8206f233295009093e67126f72cb59b0c21e1b9761392474d37febc"), looks := true }, kinds := [], alts := [], laidByText := true, laidKinds := [.handle, .data], laidTests := true, laidLooks := .later }
def CursorPagesUptoCardSaid : Prop := Claim7.holds Tryz.pinned (.plain (OpenSpec.upto cursorPagesSpec)) cursorPagesUptoCard

/-- THE SECOND FORM's CARD OF 'guillochelaw09.CursorSteps'. -/
def cursorStepsUptoCard : Claim7 := { stood := { row := cursorStepsUptoRow, standIns := [], harness := (true, "d2c66192a8206f233295009093e67126f72cb59b0c21e1b9761392474d37febc"), looks := true }, kinds := [], alts := [], laidByText := true, laidKinds := [.handle, .data], laidTests := true, laidLooks := .later }
def CursorStepsUptoCardSaid : Prop := Claim7.holds Tryz.pinned (.plain (OpenSpec.upto cursorStepsSpec)) cursorStepsUptoCard

/-- THE SECOND FORM's CARD OF 'guillochelaw09.CursorWhole'. -/
def cursorWholeUptoCard : Claim7 := { stood := { row := cursorWholeUptoRow, standIns := [], harness := (true, "d2c66192a8206f233295009093e67126f72cb59b0c21e1b9761392474d37febc"), looks := true }, kinds := [], alts := [], laidByText := true, laidKinds := [.handle, .data], laidTests := true, laidLooks := .later }
def CursorWholeUptoCardSaid : Prop := Claim7.holds Tryz.pinned (.plain (OpenSpec.upto cursorWholeSpec)) cursorWholeUptoCard

/-- THE SECOND FORM's CARD OF 'guillochelaw09.CursorSplits'. -/
def cursorSplitsUptoCard : Claim7 := { stood := { row := cursorSplitsUptoRow, standIns := [], harness := (true, "d2c66192a8206f233295009093e67126f72cb59b0c21e1b9761392474d37febc"), looks := true }, kinds := [], alts := [], laidByText := true, laidKinds := [.handle, .data], laidTests := true, laidLooks := .later }
def CursorSplitsUptoCardSaid : Prop := Claim7.holds Tryz.pinned (.plain (OpenSpec.upto cursorSplitsSpec)) cursorSplitsUptoCard

/-- THE SECOND FORM's CARD OF 'guillochelaw09.CursorRanges'. -/
def cursorRangesUptoCard : Claim7 := { stood := { row := cursorRangesUptoRow, standIns := [], harness := (true, "d2c66192a8206f233295009093e67126f72cb59b0c21e1b9761392474d37febc"), looks := true }, kinds := [], alts := [], laidByText := true, laidKinds := [.handle, .data], laidTests := true, laidLooks := .later }
def CursorRangesUptoCardSaid : Prop := Claim7.holds Tryz.pinned (.plain (OpenSpec.upto cursorRangesSpec)) cursorRangesUptoCard

/-- THE SECOND FORM's CARD OF 'guillochelaw06.StoreShares'. -/
def storeSharesUptoCard : Claim7 := { stood := { row := storeSharesUptoRow, standIns := [], harness := (true, "d2c66192a8206f233295009093e67126f72cb59b0c21e1b9761392474d37febc"), looks := true }, kinds := [], alts := [], laidByText := true, laidKinds := [.handle, .data], laidTests := true, laidLooks := .later }
def StoreSharesUptoCardSaid : Prop := Claim7.holds Tryz.pinned (.plain (OpenSpec.upto storeSharesSpec)) storeSharesUptoCard

/-- THE SECOND FORM's CARD OF 'guillochelaw06.StoreFull'. -/
def storeFullUptoCard : Claim7 := { stood := { row := storeFullUptoRow, standIns := [], harness := (true, "d2c66192a8206f233295009093e67126f72cb59b0c21e1b9761392474d37febc"), looks := true }, kinds := [], alts := [], laidByText := true, laidKinds := [.handle, .data], laidTests := true, laidLooks := .later }
def StoreFullUptoCardSaid : Prop := Claim7.holds Tryz.pinned (.plain (OpenSpec.upto storeFullSpec)) storeFullUptoCard

/-- THE SECOND FORM's CARD OF 'guillochelaw06.StoreOrder'. -/
def storeOrderUptoCard : Claim7 := { stood := { row := storeOrderUptoRow, standIns := [], harness := (true, "d2c66192a8206f233295009093e67126f72cb59b0c21e1b9761392474d37febc"), looks := true }, kinds := [], alts := [], laidByText := true, laidKinds := [.handle, .data], laidTests := true, laidLooks := .later }
def StoreOrderUptoCardSaid : Prop := Claim7.holds Tryz.pinned (.plain (OpenSpec.upto storeOrderSpec)) storeOrderUptoCard
end Rows
end Go.Proofs.YtneojlgbcaejmaaGreatDoor
