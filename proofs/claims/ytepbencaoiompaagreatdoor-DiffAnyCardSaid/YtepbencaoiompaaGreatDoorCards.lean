/-
  DERIVED. GIVEN WITH THE SEED: THE CARDS: each row of YtepbencaoiompaaGreatDoorRows.lean that lists a variable, with what it lists TIED to the program's text (the seventh form; the later family's looks); each row that meets fmt, with fmt's text TOLD by the authors' own Lean function (tested against real Go, not proved from fmt's source: count such statements apart). THE CARD IS WHAT COUNTS. Prove the row's statement (the work); the ties are given (YtepbencaoiompaaGreatDoorTie.lean); close each card by the builder's one call (the guide's Derived/Test/ToyasCard.lean, 'card_holds'). Laid BY PROGRAM, IN A SANDBOX (cutbox-door.mjs). By AI agents, Wed Nov 11 2026. No macro, syntax, notation, axiom, sorry.
-/
import Derived.Test.YtepbencaoiompaaGreatDoorRows
import GoSem.ClaimSeven
namespace Go.Proofs.YtepbencaoiompaaGreatDoor
namespace Rows

/-- THE TIED CARD OF 'guillochelaw08.TrieAny'. -/
def trieAnyCard : Claim7 := { stood := { row := trieAnyRow, standIns := [], harness := (true, "087eabbfeb5a6d94cf76b150faf67893eed89f08030ca4e0b04361998624e316"), looks := true }, kinds := [], alts := [], laidByText := true, laidKinds := [.handle, .data], laidTests := true, laidLooks := .later }
def TrieAnyCardSaid : Prop := Claim7.holds Tryz.pinned (.plain (OpenSpec.ofChange trieAnySpec)) trieAnyCard

/-- THE TIED CARD OF 'guillochelaw10.DiffAny'. -/
def diffAnyCard : Claim7 := { stood := { row := diffAnyRow, standIns := [], harness := (true, "087eabbfeb5a6d94cf76b150faf67893eed89f08030ca4e0b04361998624e316"), looks := true }, kinds := [], alts := [], laidByText := true, laidKinds := [.handle, .data], laidTests := true, laidLooks := .later }
def DiffAnyCardSaid : Prop := Claim7.holds Tryz.pinned (.plain (OpenSpec.ofChange diffAnySpec)) diffAnyCard

/-- THE SECOND FORM's CARD OF 'guillochelaw08.TrieAny'. -/
def trieAnyUptoCard : Claim7 := { stood := { row := trieAnyUptoRow, standIns := [], harness := (true, "087eabbfeb5a6d94cf76b150faf67893eed89f08030ca4e0b04361998624e316"), looks := true }, kinds := [], alts := [], laidByText := true, laidKinds := [.handle, .data], laidTests := true, laidLooks := .later }
def TrieAnyUptoCardSaid : Prop := Claim7.holds Tryz.pinned (.plain (OpenSpec.upto trieAnySpec)) trieAnyUptoCard

/-- THE SECOND FORM's CARD OF 'guillochelaw10.DiffAny'. -/
def diffAnyUptoCard : Claim7 := { stood := { row := diffAnyUptoRow, standIns := [], harness := (true, "087eabbfeb5a6d94cf76b150faf67893eed89f08030ca4e0b04361998624e316"), looks := true }, kinds := [], alts := [], laidByText := true, laidKinds := [.handle, .data], laidTests := true, laidLooks := .later }
def DiffAnyUptoCardSaid : Prop := Claim7.holds Tryz.pinned (.plain (OpenSpec.upto diffAnySpec)) diffAnyUptoCard
end Rows
end Go.Proofs.YtepbencaoiompaaGreatDoor
