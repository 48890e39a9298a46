/-
  DERIVED. GIVEN WITH THE SEED: THE CARDS: each row of YtgmmpefjadjajaaGreatDoorRows.lean that lists a variable, with what it lists TIED to the program's text (the seventh form; the later family's looks); each row that meets fmt, with fmt's text TOLD by the authors' own Lean function (tested against real Go, not proved from fmt's source: count such statements apart). THE CARD IS WHAT COUNTS. Prove the row's statement (the work); the ties are given (YtgmmpefjadjajaaGreatDoorTie.lean); close each card by the builder's one call (the guide's Derived/Test/ToyasCard.lean, 'card_holds'). Laid BY PROGRAM, IN A SANDBOX (cutbox-door.mjs). By AI agents, Wed Nov 11 2026. No macro, syntax, notation, axiom, sorry.
-/
import Derived.Test.YtgmmpefjadjajaaGreatDoorRows
import GoSem.ClaimSeven
namespace Go.Proofs.YtgmmpefjadjajaaGreatDoor
namespace Rows

/-- THE TIED CARD OF 'guillochelaw15.ChainHolds'. -/
def chainHoldsCard : Claim7 := { stood := { row := chainHoldsRow, standIns := [], harness := (true, "ccb96fafcf2fe2376f1719c44547cfccdfb47f5cc73528a56ccbdce61cf288f8"), looks := true }, kinds := [], alts := [], laidByText := true, laidKinds := [.handle, .data], laidTests := true, laidLooks := .later }
def ChainHoldsCardSaid : Prop := Claim7.holds Tryz.pinned (.plain (OpenSpec.ofChange chainHoldsSpec)) chainHoldsCard

/-- THE SECOND FORM's CARD OF 'guillochelaw15.ChainHolds'. -/
def chainHoldsUptoCard : Claim7 := { stood := { row := chainHoldsUptoRow, standIns := [], harness := (true, "ccb96fafcf2fe2376f1719c44547cfccdfb47f5cc73528a56ccbdce61cf288f8"), looks := true }, kinds := [], alts := [], laidByText := true, laidKinds := [.handle, .data], laidTests := true, laidLooks := .later }
def ChainHoldsUptoCardSaid : Prop := Claim7.holds Tryz.pinned (.plain (OpenSpec.upto chainHoldsSpec)) chainHoldsUptoCard
end Rows
end Go.Proofs.YtgmmpefjadjajaaGreatDoor
