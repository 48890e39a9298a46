/-
  DERIVED. GIVEN WITH THE SEED: THE CARDS: each row of YtllbcjclibbogaaGreatDoorRows.lean that lists a variable, with what it lists TIED to the program's text (the seventh form; the later family's looks); each row that meets fmt, with fmt's text TOLD by the authors' own Lean function (tested against real Go, not proved from fmt's source: count such statements apart). THE CARD IS WHAT COUNTS. Prove the row's statement (the work); the ties are given (YtllbcjclibbogaaGreatDoorTie.lean); close each card by the builder's one call (the guide's Derived/Test/ToyasCard.lean, 'card_holds'). Laid BY PROGRAM, IN A SANDBOX (cutbox-door.mjs). By AI agents, Wed Nov 11 2026. No macro, syntax, notation, axiom, sorry.
-/
import Derived.Test.YtllbcjclibbogaaGreatDoorRows
import GoSem.ClaimSeven
namespace Go.Proofs.YtllbcjclibbogaaGreatDoor
namespace Rows

/-- THE TIED CARD OF 'guillochelaw05.CanonBuilds'. -/
def canonBuildsCard : Claim7 := { stood := { row := canonBuildsRow, standIns := [], harness := (true, "eea13e6a8eb252ec2b357ac6d5720f534fba36f2034ea55fa584128149235820"), looks := true }, kinds := [], alts := [], laidByText := true, laidKinds := [.handle, .data], laidTests := true, laidLooks := .later }
def CanonBuildsCardSaid : Prop := Claim7.holds Tryz.pinned (.plain (OpenSpec.ofChange canonBuildsSpec)) canonBuildsCard

/-- THE TIED CARD OF 'guillochelaw11.ProofStays'. -/
def proofStaysCard : Claim7 := { stood := { row := proofStaysRow, standIns := [], harness := (true, "eea13e6a8eb252ec2b357ac6d5720f534fba36f2034ea55fa584128149235820"), looks := true }, kinds := [], alts := [], laidByText := true, laidKinds := [.handle, .data], laidTests := true, laidLooks := .later }
def ProofStaysCardSaid : Prop := Claim7.holds Tryz.pinned (.plain (OpenSpec.ofChange proofStaysSpec)) proofStaysCard

/-- THE SECOND FORM's CARD OF 'guillochelaw05.CanonBuilds'. -/
def canonBuildsUptoCard : Claim7 := { stood := { row := canonBuildsUptoRow, standIns := [], harness := (true, "eea13e6a8eb252ec2b357ac6d5720f534fba36f2034ea55fa584128149235820"), looks := true }, kinds := [], alts := [], laidByText := true, laidKinds := [.handle, .data], laidTests := true, laidLooks := .later }
def CanonBuildsUptoCardSaid : Prop := Claim7.holds Tryz.pinned (.plain (OpenSpec.upto canonBuildsSpec)) canonBuildsUptoCard

/-- THE SECOND FORM's CARD OF 'guillochelaw11.ProofStays'. -/
def proofStaysUptoCard : Claim7 := { stood := { row := proofStaysUptoRow, standIns := [], harness := (true, "eea13e6a8eb252ec2b357ac6d5720f534fba36f2034ea55fa584128149235820"), looks := true }, kinds := [], alts := [], laidByText := true, laidKinds := [.handle, .data], laidTests := true, laidLooks := .later }
def ProofStaysUptoCardSaid : Prop := Claim7.holds Tryz.pinned (.plain (OpenSpec.upto proofStaysSpec)) proofStaysUptoCard
end Rows
end Go.Proofs.YtllbcjclibbogaaGreatDoor
