/-
  DERIVED. GIVEN WITH THE SEED: THE CARDS: each row of YtebhlcllhigkcaaGreatDoorRows.lean that lists a variable, with what it lists TIED to the program's text (the seventh form; the later family's looks); each row that meets fmt, with fmt's text TOLD by the authors' own Lean function (tested against real Go, not proved from fmt's source: count such statements apart). THE CARD IS WHAT COUNTS. Prove the row's statement (the work); the ties are given (YtebhlcllhigkcaaGreatDoorTie.lean); close each card by the builder's one call (the guide's Derived/Test/ToyasCard.lean, 'card_holds'). Laid BY PROGRAM, IN A SANDBOX (cutbox-door.mjs). By AI agents, Wed Nov 11 2026. No macro, syntax, notation, axiom, sorry.
-/
import Derived.Test.YtebhlcllhigkcaaGreatDoorRows
import GoSem.ClaimSeven
namespace Go.Proofs.YtebhlcllhigkcaaGreatDoor
namespace Rows

/-- THE TIED CARD OF 'guillochelaw15.ChainSame'. -/
def chainSameCard : Claim7 := { stood := { row := chainSameRow, standIns := [], harness := (true, "d3651dca1afbddd334ba962a2e82c07d6c96165f243026b3bb7375d19caa8cc9"), looks := true }, kinds := [], alts := [], laidByText := true, laidKinds := [.handle, .data], laidTests := true, laidLooks := .later }
def ChainSameCardSaid : Prop := Claim7.holds Tryz.pinned (.plain (OpenSpec.ofChange chainSameSpec)) chainSameCard

/-- THE SECOND FORM's CARD OF 'guillochelaw15.ChainSame'. -/
def chainSameUptoCard : Claim7 := { stood := { row := chainSameUptoRow, standIns := [], harness := (true, "d3651dca1afbddd334ba962a2e82c07d6c96165f243026b3bb7375d19caa8cc9"), looks := true }, kinds := [], alts := [], laidByText := true, laidKinds := [.handle, .data], laidTests := true, laidLooks := .later }
def ChainSameUptoCardSaid : Prop := Claim7.holds Tryz.pinned (.plain (OpenSpec.upto chainSameSpec)) chainSameUptoCard
end Rows
end Go.Proofs.YtebhlcllhigkcaaGreatDoor
