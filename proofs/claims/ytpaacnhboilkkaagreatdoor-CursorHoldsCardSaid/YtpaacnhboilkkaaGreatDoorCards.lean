/-
  DERIVED. GIVEN WITH THE SEED: THE CARDS: each row of YtpaacnhboilkkaaGreatDoorRows.lean that lists a variable, with what it lists TIED to the program's text (the seventh form; the later family's looks); each row that meets fmt, with fmt's text TOLD by the authors' own Lean function (tested against real Go, not proved from fmt's source: count such statements apart). THE CARD IS WHAT COUNTS. Prove the row's statement (the work); the ties are given (YtpaacnhboilkkaaGreatDoorTie.lean); close each card by the builder's one call (the guide's Derived/Test/ToyasCard.lean, 'card_holds'). Laid BY PROGRAM, IN A SANDBOX (cutbox-door.mjs). By AI agents, Wed Nov 11 2026. No macro, syntax, notation, axiom, sorry.
-/
import Derived.Test.YtpaacnhboilkkaaGreatDoorRows
import GoSem.ClaimSeven
namespace Go.Proofs.YtpaacnhboilkkaaGreatDoor
namespace Rows

/-- THE TIED CARD OF 'guillochelaw08.TrieReads'. -/
def trieReadsCard : Claim7 := { stood := { row := trieReadsRow, standIns := [], harness := (true, "9fb79214ed06701ec0b3f3513425a8bf5e13fc2681c6014fe8d6313db7ec54e5"), looks := true }, kinds := [], alts := [], laidByText := true, laidKinds := [.handle, .data], laidTests := true, laidLooks := .later }
def TrieReadsCardSaid : Prop := Claim7.holds Tryz.pinned (.plain (OpenSpec.ofChange trieReadsSpec)) trieReadsCard

/-- THE TIED CARD OF 'guillochelaw08.TrieUpdates'. -/
def trieUpdatesCard : Claim7 := { stood := { row := trieUpdatesRow, standIns := [], harness := (true, "9fb79214ed06701ec0b3f3513425a8bf5e13fc2681c6014fe8d6313db7ec54e5"), looks := true }, kinds := [], alts := [], laidByText := true, laidKinds := [.handle, .data], laidTests := true, laidLooks := .later }
def TrieUpdatesCardSaid : Prop := Claim7.holds Tryz.pinned (.plain (OpenSpec.ofChange trieUpdatesSpec)) trieUpdatesCard

/-- THE TIED CARD OF 'guillochelaw08.TrieRows'. -/
def trieRowsCard : Claim7 := { stood := { row := trieRowsRow, standIns := [], harness := (true, "9fb79214ed06701ec0b3f3513425a8bf5e13fc2681c6014fe8d6313db7ec54e5"), looks := true }, kinds := [], alts := [], laidByText := true, laidKinds := [.handle, .data], laidTests := true, laidLooks := .later }
def TrieRowsCardSaid : Prop := Claim7.holds Tryz.pinned (.plain (OpenSpec.ofChange trieRowsSpec)) trieRowsCard

/-- THE TIED CARD OF 'guillochelaw08.TrieFull'. -/
def trieFullCard : Claim7 := { stood := { row := trieFullRow, standIns := [], harness := (true, "9fb79214ed06701ec0b3f3513425a8bf5e13fc2681c6014fe8d6313db7ec54e5"), looks := true }, kinds := [], alts := [], laidByText := true, laidKinds := [.handle, .data], laidTests := true, laidLooks := .later }
def TrieFullCardSaid : Prop := Claim7.holds Tryz.pinned (.plain (OpenSpec.ofChange trieFullSpec)) trieFullCard

/-- THE TIED CARD OF 'guillochelaw08.TrieAny'. -/
def trieAnyCard : Claim7 := { stood := { row := trieAnyRow, standIns := [], harness := (true, "9fb79214ed06701ec0b3f3513425a8bf5e13fc2681c6014fe8d6313db7ec54e5"), looks := true }, kinds := [], alts := [], laidByText := true, laidKinds := [.handle, .data], laidTests := true, laidLooks := .later }
def TrieAnyCardSaid : Prop := Claim7.holds Tryz.pinned (.plain (OpenSpec.ofChange trieAnySpec)) trieAnyCard

/-- THE TIED CARD OF 'guillochelaw08.TrieGone'. -/
def trieGoneCard : Claim7 := { stood := { row := trieGoneRow, standIns := [], harness := (true, "9fb79214ed06701ec0b3f3513425a8bf5e13fc2681c6014fe8d6313db7ec54e5"), looks := true }, kinds := [], alts := [], laidByText := true, laidKinds := [.handle, .data], laidTests := true, laidLooks := .later }
def TrieGoneCardSaid : Prop := Claim7.holds Tryz.pinned (.plain (OpenSpec.ofChange trieGoneSpec)) trieGoneCard

/-- THE TIED CARD OF 'guillochelaw08.TrieSteps'. -/
def trieStepsCard : Claim7 := { stood := { row := trieStepsRow, standIns := [], harness := (true, "9fb79214ed06701ec0b3f3513425a8bf5e13fc2681c6014fe8d6313db7ec54e5"), looks := true }, kinds := [], alts := [], laidByText := true, laidKinds := [.handle, .data], laidTests := true, laidLooks := .later }
def TrieStepsCardSaid : Prop := Claim7.holds Tryz.pinned (.plain (OpenSpec.ofChange trieStepsSpec)) trieStepsCard

/-- THE TIED CARD OF 'guillochelaw08.TriePaths'. -/
def triePathsCard : Claim7 := { stood := { row := triePathsRow, standIns := [], harness := (true, "9fb79214ed06701ec0b3f3513425a8bf5e13fc2681c6014fe8d6313db7ec54e5"), looks := true }, kinds := [], alts := [], laidByText := true, laidKinds := [.handle, .data], laidTests := true, laidLooks := .later }
def TriePathsCardSaid : Prop := Claim7.holds Tryz.pinned (.plain (OpenSpec.ofChange triePathsSpec)) triePathsCard

/-- THE TIED CARD OF 'guillochelaw09.CursorHolds'. -/
def cursorHoldsCard : Claim7 := { stood := { row := cursorHoldsRow, standIns := [], harness := (true, "9fb79214ed06701ec0b3f3513425a8bf5e13fc2681c6014fe8d6313db7ec54e5"), looks := true }, kinds := [], alts := [], laidByText := true, laidKinds := [.handle, .data], laidTests := true, laidLooks := .later }
def CursorHoldsCardSaid : Prop := Claim7.holds Tryz.pinned (.plain (OpenSpec.ofChange cursorHoldsSpec)) cursorHoldsCard

/-- THE TIED CARD OF 'guillochelaw09.CursorAny'. -/
def cursorAnyCard : Claim7 := { stood := { row := cursorAnyRow, standIns := [], harness := (true, "9fb79214ed06701ec0b3f3513425a8bf5e13fc2681c6014fe8d6313db7ec54e5"), looks := true }, kinds := [], alts := [], laidByText := true, laidKinds := [.handle, .data], laidTests := true, laidLooks := .later }
def CursorAnyCardSaid : Prop := Claim7.holds Tryz.pinned (.plain (OpenSpec.ofChange cursorAnySpec)) cursorAnyCard

/-- THE TIED CARD OF 'guillochelaw05.CanonBuilds'. -/
def canonBuildsCard : Claim7 := { stood := { row := canonBuildsRow, standIns := [], harness := (true, "9fb79214ed06701ec0b3f3513425a8bf5e13fc2681c6014fe8d6313db7ec54e5"), looks := true }, kinds := [], alts := [], laidByText := true, laidKinds := [.handle, .data], laidTests := true, laidLooks := .later }
def CanonBuildsCardSaid : Prop := Claim7.holds Tryz.pinned (.plain (OpenSpec.ofChange canonBuildsSpec)) canonBuildsCard

/-- THE TIED CARD OF 'guillochelaw11.ProofBuilds'. -/
def proofBuildsCard : Claim7 := { stood := { row := proofBuildsRow, standIns := [], harness := (true, "9fb79214ed06701ec0b3f3513425a8bf5e13fc2681c6014fe8d6313db7ec54e5"), looks := true }, kinds := [], alts := [], laidByText := true, laidKinds := [.handle, .data], laidTests := true, laidLooks := .later }
def ProofBuildsCardSaid : Prop := Claim7.holds Tryz.pinned (.plain (OpenSpec.ofChange proofBuildsSpec)) proofBuildsCard

/-- THE SECOND FORM's CARD OF 'guillochelaw08.TrieReads'. -/
def trieReadsUptoCard : Claim7 := { stood := { row := trieReadsUptoRow, standIns := [], harness := (true, "9fb79214ed06701ec0b3f3513425a8bf5e13fc2681c6014fe8d6313db7ec54e5"), looks := true }, kinds := [], alts := [], laidByText := true, laidKinds := [.handle, .data], laidTests := true, laidLooks := .later }
def TrieReadsUptoCardSaid : Prop := Claim7.holds Tryz.pinned (.plain (OpenSpec.upto trieReadsSpec)) trieReadsUptoCard

/-- THE SECOND FORM's CARD OF 'guillochelaw08.TrieUpdates'. -/
def trieUpdatesUptoCard : Claim7 := { stood := { row := trieUpdatesUptoRow, standIns := [], harness := (true, "9fb79214ed06701ec0b3f3513425a8bf5e13fc2681c6014fe8d6313db7ec54e5"), looks := true }, kinds := [], alts := [], laidByText := true, laidKinds := [.handle, .data], laidTests := true, laidLooks := .later }
def TrieUpdatesUptoCardSaid : Prop := Claim7.holds Tryz.pinned (.plain (OpenSpec.upto trieUpdatesSpec)) trieUpdatesUptoCard

/-- THE SECOND FORM's CARD OF 'guillochelaw08.TrieRows'. -/
def trieRowsUptoCard : Claim7 := { stood := { row := trieRowsUptoRow, standIns := [], harness := (true, "9fb79214ed06701ec0b3f3513425a8bf5e13fc2681c6014fe8d6313db7ec54e5"), looks := true }, kinds := [], alts := [], laidByText := true, laidKinds := [.handle, .data], laidTests := true, laidLooks := .later }
def TrieRowsUptoCardSaid : Prop := Claim7.holds Tryz.pinned (.plain (OpenSpec.upto trieRowsSpec)) trieRowsUptoCard

/-- THE SECOND FORM's CARD OF 'guillochelaw08.TrieFull'. -/
def trieFullUptoCard : Claim7 := { stood := { row := trieFullUptoRow, standIns := [], harness := (true, "9fb79214ed06701ec0b3f3513425a8bf5e13fc2681c6014fe8d6313db7ec54e5"), looks := true }, kinds := [], alts := [], laidByText := true, laidKinds := [.handle, .data], laidTests := true, laidLooks := .later }
def TrieFullUptoCardSaid : Prop := Claim7.holds Tryz.pinned (.plain (OpenSpec.upto trieFullSpec)) trieFullUptoCard

/-- THE SECOND FORM's CARD OF 'guillochelaw08.TrieAny'. -/
def trieAnyUptoCard : Claim7 := { stood := { row := trieAnyUptoRow, standIns := [], harness := (true, "9fb79214ed06701ec0b3f3513425a8bf5e13fc2681c6014fe8d6313db7ec54e5"), looks := true }, kinds := [], alts := [], laidByText := true, laidKinds := [.handle, .data], laidTests := true, laidLooks := .later }
def TrieAnyUptoCardSaid : Prop := Claim7.holds Tryz.pinned (.plain (OpenSpec.upto trieAnySpec)) trieAnyUptoCard

/-- THE SECOND FORM's CARD OF 'guillochelaw08.TrieGone'. -/
def trieGoneUptoCard : Claim7 := { stood := { row := trieGoneUptoRow, standIns := [], harness := (true, "9fb79214ed06701ec0b3f3513425a8bf5e13fc2681c6014fe8d6313db7ec54e5"), looks := true }, kinds := [], alts := [], laidByText := true, laidKinds := [.handle, .data], laidTests := true, laidLooks := .later }
def TrieGoneUptoCardSaid : Prop := Claim7.holds Tryz.pinned (.plain (OpenSpec.upto trieGoneSpec)) trieGoneUptoCard

/-- THE SECOND FORM's CARD OF 'guillochelaw08.TrieSteps'. -/
def trieStepsUptoCard : Claim7 := { stood := { row := trieStepsUptoRow, standIns := [], harness := (true, "9fb79214ed06701ec0b3f3513425a8bf5e13fc2681c6014fe8d6313db7ec54e5"), looks := true }, kinds := [], alts := [], laidByText := true, laidKinds := [.handle, .data], laidTests := true, laidLooks := .later }
def TrieStepsUptoCardSaid : Prop := Claim7.holds Tryz.pinned (.plain (OpenSpec.upto trieStepsSpec)) trieStepsUptoCard

/-- THE SECOND FORM's CARD OF 'guillochelaw08.TriePaths'. -/
def triePathsUptoCard : Claim7 := { stood := { row := triePathsUptoRow, standIns := [], harness := (true, "9fb79214ed06701ec0b3f3513425a8bf5e13fc2681c6014fe8d6313db7ec54e5"), looks := true }, kinds := [], alts := [], laidByText := true, laidKinds := [.handle, .data], laidTests := true, laidLooks := .later }
def TriePathsUptoCardSaid : Prop := Claim7.holds Tryz.pinned (.plain (OpenSpec.upto triePathsSpec)) triePathsUptoCard

/-- THE SECOND FORM's CARD OF 'guillochelaw09.CursorHolds'. -/
def cursorHoldsUptoCard : Claim7 := { stood := { row := cursorHoldsUptoRow, standIns := [], harness := (true, "9fb79214ed06701ec0b3f3513425a8bf5e13fc2681c6014fe8d6313db7ec54e5"), looks := true }, kinds := [], alts := [], laidByText := true, laidKinds := [.handle, .data], laidTests := true, laidLooks := .later }
def CursorHoldsUptoCardSaid : Prop := Claim7.holds Tryz.pinned (.plain (OpenSpec.upto cursorHoldsSpec)) cursorHoldsUptoCard

/-- THE SECOND FORM's CARD OF 'guillochelaw09.CursorAny'. -/
def cursorAnyUptoCard : Claim7 := { stood := { row := cursorAnyUptoRow, standIns := [], harness := (true, "9fb79214ed06701ec0b3f3513425a8bf5e13fc2681c6014fe8d6313db7ec54e5"), looks := true }, kinds := [], alts := [], laidByText := true, laidKinds := [.handle, .data], laidTests := true, laidLooks := .later }
def CursorAnyUptoCardSaid : Prop := Claim7.holds Tryz.pinned (.plain (OpenSpec.upto cursorAnySpec)) cursorAnyUptoCard

/-- THE SECOND FORM's CARD OF 'guillochelaw05.CanonBuilds'. -/
def canonBuildsUptoCard : Claim7 := { stood := { row := canonBuildsUptoRow, standIns := [], harness := (true, "9fb79214ed06701ec0b3f3513425a8bf5e13fc2681c6014fe8d6313db7ec54e5"), looks := true }, kinds := [], alts := [], laidByText := true, laidKinds := [.handle, .data], laidTests := true, laidLooks := .later }
def CanonBuildsUptoCardSaid : Prop := Claim7.holds Tryz.pinned (.plain (OpenSpec.upto canonBuildsSpec)) canonBuildsUptoCard

/-- THE SECOND FORM's CARD OF 'guillochelaw11.ProofBuilds'. -/
def proofBuildsUptoCard : Claim7 := { stood := { row := proofBuildsUptoRow, standIns := [], harness := (true, "9fb79214ed06701ec0b3f3513425a8bf5e13fc2681c6014fe8d6313db7ec54e5"), looks := true }, kinds := [], alts := [], laidByText := true, laidKinds := [.handle, .data], laidTests := true, laidLooks := .later }
def ProofBuildsUptoCardSaid : Prop := Claim7.holds Tryz.pinned (.plain (OpenSpec.upto proofBuildsSpec)) proofBuildsUptoCard
end Rows
end Go.Proofs.YtpaacnhboilkkaaGreatDoor
