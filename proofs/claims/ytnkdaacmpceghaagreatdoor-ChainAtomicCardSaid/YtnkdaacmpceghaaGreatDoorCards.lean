/-
  DERIVED. GIVEN WITH THE SEED: THE CARDS: each row of YtnkdaacmpceghaaGreatDoorRows.lean that lists a variable, with what it lists TIED to the program's text (the seventh form; the later family's looks); each row that meets fmt, with fmt's text TOLD by the authors' own Lean function (tested against real Go, not proved from fmt's source: count such statements apart). THE CARD IS WHAT COUNTS. Prove the row's statement (the work); the ties are given (YtnkdaacmpceghaaGreatDoorTie.lean); close each card by the builder's one call (the guide's Derived/Test/ToyasCard.lean, 'card_holds'). Laid BY PROGRAM, IN A SANDBOX (cutbox-door.mjs). By AI agents, Wed Nov 11 2026. No macro, syntax, notation, axiom, sorry.
-/
import Derived.Test.YtnkdaacmpceghaaGreatDoorRows
import GoSem.ClaimSeven
namespace Go.Proofs.YtnkdaacmpceghaaGreatDoor
namespace Rows

/-- THE TIED CARD OF 'guillochelaw15.ChainAtomic'. -/
def chainAtomicCard : Claim7 := { stood := { row := chainAtomicRow, standIns := [], harness := (true, "f8bdce133b660c8258a8d65e7e27189f9f78eecac1aa82824c6e2daaae1159e2"), looks := true }, kinds := [], alts := [], laidByText := true, laidKinds := [.handle, .data], laidTests := true, laidLooks := .later }
def ChainAtomicCardSaid : Prop := Claim7.holds Tryz.pinned (.plain (OpenSpec.ofChange chainAtomicSpec)) chainAtomicCard

/-- THE SECOND FORM's CARD OF 'guillochelaw15.ChainAtomic'. -/
def chainAtomicUptoCard : Claim7 := { stood := { row := chainAtomicUptoRow, standIns := [], harness := (true, "f8bdce133b660c8258a8d65e7e27189f9f78eecac1aa82824c6e2daaae1159e2"), looks := true }, kinds := [], alts := [], laidByText := true, laidKinds := [.handle, .data], laidTests := true, laidLooks := .later }
def ChainAtomicUptoCardSaid : Prop := Claim7.holds Tryz.pinned (.plain (OpenSpec.upto chainAtomicSpec)) chainAtomicUptoCard
end Rows
end Go.Proofs.YtnkdaacmpceghaaGreatDoor
