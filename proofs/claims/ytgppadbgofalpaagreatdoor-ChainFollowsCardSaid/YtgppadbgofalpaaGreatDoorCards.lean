/-
  DERIVED. GIVEN WITH THE SEED: THE CARDS: each row of YtgppadbgofalpaaGreatDoorRows.lean that lists a variable, with what it lists TIED to the program's text (the seventh form; the later family's looks); each row that meets fmt, with fmt's text TOLD by the authors' own Lean function (tested against real Go, not proved from fmt's source: count such statements apart). THE CARD IS WHAT COUNTS. Prove the row's statement (the work); the ties are given (YtgppadbgofalpaaGreatDoorTie.lean); close each card by the builder's one call (the guide's Derived/Test/ToyasCard.lean, 'card_holds'). Laid BY PROGRAM, IN A SANDBOX (cutbox-door.mjs). By AI agents, Wed Nov 11 2026. No macro, syntax, notation, axiom, sorry.
-/
import Derived.Test.YtgppadbgofalpaaGreatDoorRows
import GoSem.ClaimSeven
namespace Go.Proofs.YtgppadbgofalpaaGreatDoor
namespace Rows

/-- THE TIED CARD OF 'guillochelaw15.ChainFollows'. -/
def chainFollowsCard : Claim7 := { stood := { row := chainFollowsRow, standIns := [], harness := (true, "a007f1aedb78545a70ee6ef44d2d73687197b1c10d76e2000717d2420eb71f05"), looks := true }, kinds := [], alts := [], laidByText := true, laidKinds := [.handle, .data], laidTests := true, laidLooks := .later }
def ChainFollowsCardSaid : Prop := Claim7.holds Tryz.pinned (.plain (OpenSpec.ofChange chainFollowsSpec)) chainFollowsCard

/-- THE SECOND FORM's CARD OF 'guillochelaw15.ChainFollows'. -/
def chainFollowsUptoCard : Claim7 := { stood := { row := chainFollowsUptoRow, standIns := [], harness := (true, "a007f1aedb78545a70ee6ef44d2d73687197b1c10d76e2000717d2420eb71f05"), looks := true }, kinds := [], alts := [], laidByText := true, laidKinds := [.handle, .data], laidTests := true, laidLooks := .later }
def ChainFollowsUptoCardSaid : Prop := Claim7.holds Tryz.pinned (.plain (OpenSpec.upto chainFollowsSpec)) chainFollowsUptoCard
end Rows
end Go.Proofs.YtgppadbgofalpaaGreatDoor
