/-
  DERIVED. GIVEN WITH THE SEED: THE CARDS: each row of YtdofbjccfkaijaaGreatDoorRows.lean that lists a variable, with what it lists TIED to the program's text (the seventh form; the later family's looks); each row that meets fmt, with fmt's text TOLD by the authors' own Lean function (tested against real Go, not proved from fmt's source: count such statements apart). THE CARD IS WHAT COUNTS. Prove the row's statement (the work); the ties are given (YtdofbjccfkaijaaGreatDoorTie.lean); close each card by the builder's one call (the guide's Derived/Test/ToyasCard.lean, 'card_holds'). Laid BY PROGRAM, IN A SANDBOX (cutbox-door.mjs). By AI agents, Wed Nov 11 2026. No macro, syntax, notation, axiom, sorry.
-/
import Derived.Test.YtdofbjccfkaijaaGreatDoorRows
import GoSem.ClaimSeven
namespace Go.Proofs.YtdofbjccfkaijaaGreatDoor
namespace Rows

/-- THE TIED CARD OF 'guillochelaw10.DiffUndoes'. -/
def diffUndoesCard : Claim7 := { stood := { row := diffUndoesRow, standIns := [], harness := (true, "c85618aa9cb867c65a4f3e931933545a80c5d8c3842ae1311951a29e5eb32d22"), looks := true }, kinds := [], alts := [], laidByText := true, laidKinds := [.handle, .data], laidTests := true, laidLooks := .later }
def DiffUndoesCardSaid : Prop := Claim7.holds Tryz.pinned (.plain (OpenSpec.ofChange diffUndoesSpec)) diffUndoesCard

/-- THE SECOND FORM's CARD OF 'guillochelaw10.DiffUndoes'. -/
def diffUndoesUptoCard : Claim7 := { stood := { row := diffUndoesUptoRow, standIns := [], harness := (true, "c85618aa9cb867c65a4f3e931933545a80c5d8c3842ae1311951a29e5eb32d22"), looks := true }, kinds := [], alts := [], laidByText := true, laidKinds := [.handle, .data], laidTests := true, laidLooks := .later }
def DiffUndoesUptoCardSaid : Prop := Claim7.holds Tryz.pinned (.plain (OpenSpec.upto diffUndoesSpec)) diffUndoesUptoCard
end Rows
end Go.Proofs.YtdofbjccfkaijaaGreatDoor
