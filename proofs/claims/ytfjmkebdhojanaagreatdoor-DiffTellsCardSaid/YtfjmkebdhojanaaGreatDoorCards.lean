/-
  DERIVED. GIVEN WITH THE SEED: THE CARDS: each row of YtfjmkebdhojanaaGreatDoorRows.lean that lists a variable, with what it lists TIED to the program's text (the seventh form; the later family's looks); each row that meets fmt, with fmt's text TOLD by the authors' own Lean function (tested against real Go, not proved from fmt's source: count such statements apart). THE CARD IS WHAT COUNTS. Prove the row's statement (the work); the ties are given (YtfjmkebdhojanaaGreatDoorTie.lean); close each card by the builder's one call (the guide's Derived/Test/ToyasCard.lean, 'card_holds'). Laid BY PROGRAM, IN A SANDBOX (cutbox-door.mjs). By AI agents, Wed Nov 11 2026. No macro, syntax, notation, axiom, sorry.
-/
import Derived.Test.YtfjmkebdhojanaaGreatDoorRows
import GoSem.ClaimSeven
namespace Go.Proofs.YtfjmkebdhojanaaGreatDoor
namespace Rows

/-- THE TIED CARD OF 'guillochelaw10.DiffTells'. -/
def diffTellsCard : Claim7 := { stood := { row := diffTellsRow, standIns := [], harness := (true, "d085342b237cf7b2d32364afd11bab887c8f9d99064d92feaf16fcc6ae9b57aa"), looks := true }, kinds := [], alts := [], laidByText := true, laidKinds := [.handle, .data], laidTests := true, laidLooks := .later }
def DiffTellsCardSaid : Prop := Claim7.holds Tryz.pinned (.plain (OpenSpec.ofChange diffTellsSpec)) diffTellsCard

/-- THE SECOND FORM's CARD OF 'guillochelaw10.DiffTells'. -/
def diffTellsUptoCard : Claim7 := { stood := { row := diffTellsUptoRow, standIns := [], harness := (true, "d085342b237cf7b2d32364afd11bab887c8f9d99064d92feaf16fcc6ae9b57aa"), looks := true }, kinds := [], alts := [], laidByText := true, laidKinds := [.handle, .data], laidTests := true, laidLooks := .later }
def DiffTellsUptoCardSaid : Prop := Claim7.holds Tryz.pinned (.plain (OpenSpec.upto diffTellsSpec)) diffTellsUptoCard
end Rows
end Go.Proofs.YtfjmkebdhojanaaGreatDoor
