/-
  DERIVED. GIVEN WITH THE SEED: THE CARDS: each row of YtegloohdmjadoaaGreatDoorRows.lean that lists a variable, with what it lists TIED to the program's text (the seventh form; the later family's looks); each row that meets fmt, with fmt's text TOLD by the authors' own Lean function (tested against real Go, not proved from fmt's source: count such statements apart). THE CARD IS WHAT COUNTS. Prove the row's statement (the work); the ties are given (YtegloohdmjadoaaGreatDoorTie.lean); close each card by the builder's one call (the guide's Derived/Test/ToyasCard.lean, 'card_holds'). Laid BY PROGRAM, IN A SANDBOX (cutbox-door.mjs). By AI agents, Wed Nov 11 2026. No macro, syntax, notation, axiom, sorry.
-/
import Derived.Test.YtegloohdmjadoaaGreatDoorRows
import GoSem.ClaimSeven
namespace Go.Proofs.YtegloohdmjadoaaGreatDoor
namespace Rows

/-- THE TIED CARD OF 'guillochelaw08.TrieUpdates'. -/
def trieUpdatesCard : Claim7 := { stood := { row := trieUpdatesRow, standIns := [], harness := (true, "b2a57d2038684a1b3720665185be4d34046a0bd340e37fc10f2d824a2c6bf016"), looks := true }, kinds := [], alts := [], laidByText := true, laidKinds := [.handle, .data], laidTests := true, laidLooks := .later }
def TrieUpdatesCardSaid : Prop := Claim7.holds Tryz.pinned (.plain (OpenSpec.ofChange trieUpdatesSpec)) trieUpdatesCard

/-- THE SECOND FORM's CARD OF 'guillochelaw08.TrieUpdates'. -/
def trieUpdatesUptoCard : Claim7 := { stood := { row := trieUpdatesUptoRow, standIns := [], harness := (true, "b2a57d2038684a1b3720665185be4d34046a0bd340e37fc10f2d824a2c6bf016"), looks := true }, kinds := [], alts := [], laidByText := true, laidKinds := [.handle, .data], laidTests := true, laidLooks := .later }
def TrieUpdatesUptoCardSaid : Prop := Claim7.holds Tryz.pinned (.plain (OpenSpec.upto trieUpdatesSpec)) trieUpdatesUptoCard
end Rows
end Go.Proofs.YtegloohdmjadoaaGreatDoor
