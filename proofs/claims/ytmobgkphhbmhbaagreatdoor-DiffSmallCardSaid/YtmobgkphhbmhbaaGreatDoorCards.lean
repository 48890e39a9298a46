/-
  DERIVED. GIVEN WITH THE SEED: THE CARDS: each row of YtmobgkphhbmhbaaGreatDoorRows.lean that lists a variable, with what it lists TIED to the program's text (the seventh form; the later family's looks); each row that meets fmt, with fmt's text TOLD by the authors' own Lean function (tested against real Go, not proved from fmt's source: count such statements apart). THE CARD IS WHAT COUNTS. Prove the row's statement (the work); the ties are given (YtmobgkphhbmhbaaGreatDoorTie.lean); close each card by the builder's one call (the guide's Derived/Test/ToyasCard.lean, 'card_holds'). Laid BY PROGRAM, IN A SANDBOX (cutbox-door.mjs). By AI agents, Wed Nov 11 2026. No macro, syntax, notation, axiom, sorry.
-/
import Derived.Test.YtmobgkphhbmhbaaGreatDoorRows
import GoSem.ClaimSeven
namespace Go.Proofs.YtmobgkphhbmhbaaGreatDoor
namespace Rows

/-- THE TIED CARD OF 'guillochelaw08.TrieAny'. -/
def trieAnyCard : Claim7 := { stood := { row := trieAnyRow, standIns := [], harness := (true, "ca975cbaf88a57180c6581da1a34838109c44da6645cc7d55dae79c808fd011d"), looks := true }, kinds := [], alts := [], laidByText := true, laidKinds := [.handle, .data], laidTests := true, laidLooks := .later }
def TrieAnyCardSaid : Prop := Claim7.holds Tryz.pinned (.plain (OpenSpec.ofChange trieAnySpec)) trieAnyCard

/-- THE TIED CARD OF 'guillochelaw10.DiffTells'. -/
def diffTellsCard : Claim7 := { stood := { row := diffTellsRow, standIns := [], harness := (true, "ca975cbaf88a57180c6581da1a34838109c44da6645cc7d55dae79c808fd011d"), looks := true }, kinds := [], alts := [], laidByText := true, laidKinds := [.handle, .data], laidTests := true, laidLooks := .later }
def DiffTellsCardSaid : Prop := Claim7.holds Tryz.pinned (.plain (OpenSpec.ofChange diffTellsSpec)) diffTellsCard

/-- THE TIED CARD OF 'guillochelaw10.DiffBack'. -/
def diffBackCard : Claim7 := { stood := { row := diffBackRow, standIns := [], harness := (true, "ca975cbaf88a57180c6581da1a34838109c44da6645cc7d55dae79c808fd011d"), looks := true }, kinds := [], alts := [], laidByText := true, laidKinds := [.handle, .data], laidTests := true, laidLooks := .later }
def DiffBackCardSaid : Prop := Claim7.holds Tryz.pinned (.plain (OpenSpec.ofChange diffBackSpec)) diffBackCard

/-- THE TIED CARD OF 'guillochelaw10.DiffAny'. -/
def diffAnyCard : Claim7 := { stood := { row := diffAnyRow, standIns := [], harness := (true, "ca975cbaf88a57180c6581da1a34838109c44da6645cc7d55dae79c808fd011d"), looks := true }, kinds := [], alts := [], laidByText := true, laidKinds := [.handle, .data], laidTests := true, laidLooks := .later }
def DiffAnyCardSaid : Prop := Claim7.holds Tryz.pinned (.plain (OpenSpec.ofChange diffAnySpec)) diffAnyCard

/-- THE TIED CARD OF 'guillochelaw10.DiffSmall'. -/
def diffSmallCard : Claim7 := { stood := { row := diffSmallRow, standIns := [], harness := (true, "ca975cbaf88a57180c6581da1a34838109c44da6645cc7d55dae79c808fd011d"), looks := true }, kinds := [], alts := [], laidByText := true, laidKinds := [.handle, .data], laidTests := true, laidLooks := .later }
def DiffSmallCardSaid : Prop := Claim7.holds Tryz.pinned (.plain (OpenSpec.ofChange diffSmallSpec)) diffSmallCard

/-- THE TIED CARD OF 'guillochelaw10.DiffUndoes'. -/
def diffUndoesCard : Claim7 := { stood := { row := diffUndoesRow, standIns := [], harness := (true, "ca975cbaf88a57180c6581da1a34838109c44da6645cc7d55dae79c808fd011d"), looks := true }, kinds := [], alts := [], laidByText := true, laidKinds := [.handle, .data], laidTests := true, laidLooks := .later }
def DiffUndoesCardSaid : Prop := Claim7.holds Tryz.pinned (.plain (OpenSpec.ofChange diffUndoesSpec)) diffUndoesCard

/-- THE TIED CARD OF 'guillochelaw10.DiffTurned'. -/
def diffTurnedCard : Claim7 := { stood := { row := diffTurnedRow, standIns := [], harness := (true, "ca975cbaf88a57180c6581da1a34838109c44da6645cc7d55dae79c808fd011d"), looks := true }, kinds := [], alts := [], laidByText := true, laidKinds := [.handle, .data], laidTests := true, laidLooks := .later }
def DiffTurnedCardSaid : Prop := Claim7.holds Tryz.pinned (.plain (OpenSpec.ofChange diffTurnedSpec)) diffTurnedCard

/-- THE TIED CARD OF 'guillochelaw10.DiffFresh'. -/
def diffFreshCard : Claim7 := { stood := { row := diffFreshRow, standIns := [], harness := (true, "ca975cbaf88a57180c6581da1a34838109c44da6645cc7d55dae79c808fd011d"), looks := true }, kinds := [], alts := [], laidByText := true, laidKinds := [.handle, .data], laidTests := true, laidLooks := .later }
def DiffFreshCardSaid : Prop := Claim7.holds Tryz.pinned (.plain (OpenSpec.ofChange diffFreshSpec)) diffFreshCard

/-- THE SECOND FORM's CARD OF 'guillochelaw08.TrieAny'. -/
def trieAnyUptoCard : Claim7 := { stood := { row := trieAnyUptoRow, standIns := [], harness := (true, "ca975cbaf88a57180c6581da1a34838109c44da6645cc7d55dae79c808fd011d"), looks := true }, kinds := [], alts := [], laidByText := true, laidKinds := [.handle, .data], laidTests := true, laidLooks := .later }
def TrieAnyUptoCardSaid : Prop := Claim7.holds Tryz.pinned (.plain (OpenSpec.upto trieAnySpec)) trieAnyUptoCard

/-- THE SECOND FORM's CARD OF 'guillochelaw10.DiffTells'. -/
def diffTellsUptoCard : Claim7 := { stood := { row := diffTellsUptoRow, standIns := [], harness := (true, "ca975cbaf88a57180c6581da1a34838109c44da6645cc7d55dae79c808fd011d"), looks := true }, kinds := [], alts := [], laidByText := true, laidKinds := [.handle, .data], laidTests := true, laidLooks := .later }
def DiffTellsUptoCardSaid : Prop := Claim7.holds Tryz.pinned (.plain (OpenSpec.upto diffTellsSpec)) diffTellsUptoCard

/-- THE SECOND FORM's CARD OF 'guillochelaw10.DiffBack'. -/
def diffBackUptoCard : Claim7 := { stood := { row := diffBackUptoRow, standIns := [], harness := (true, "ca975cbaf88a57180c6581da1a34838109c44da6645cc7d55dae79c808fd011d"), looks := true }, kinds := [], alts := [], laidByText := true, laidKinds := [.handle, .data], laidTests := true, laidLooks := .later }
def DiffBackUptoCardSaid : Prop := Claim7.holds Tryz.pinned (.plain (OpenSpec.upto diffBackSpec)) diffBackUptoCard

/-- THE SECOND FORM's CARD OF 'guillochelaw10.DiffAny'. -/
def diffAnyUptoCard : Claim7 := { stood := { row := diffAnyUptoRow, standIns := [], harness := (true, "ca975cbaf88a57180c6581da1a34838109c44da6645cc7d55dae79c808fd011d"), looks := true }, kinds := [], alts := [], laidByText := true, laidKinds := [.handle, .data], laidTests := true, laidLooks := .later }
def DiffAnyUptoCardSaid : Prop := Claim7.holds Tryz.pinned (.plain (OpenSpec.upto diffAnySpec)) diffAnyUptoCard

/-- THE SECOND FORM's CARD OF 'guillochelaw10.DiffSmall'. -/
def diffSmallUptoCard : Claim7 := { stood := { row := diffSmallUptoRow, standIns := [], harness := (true, "ca975cbaf88a57180c6581da1a34838109c44da6645cc7d55dae79c808fd011d"), looks := true }, kinds := [], alts := [], laidByText := true, laidKinds := [.handle, .data], laidTests := true, laidLooks := .later }
def DiffSmallUptoCardSaid : Prop := Claim7.holds Tryz.pinned (.plain (OpenSpec.upto diffSmallSpec)) diffSmallUptoCard

/-- THE SECOND FORM's CARD OF 'guillochelaw10.DiffUndoes'. -/
def diffUndoesUptoCard : Claim7 := { stood := { row := diffUndoesUptoRow, standIns := [], harness := (true, "ca975cbaf88a57180c6581da1a34838109c44da6645cc7d55dae79c808fd011d"), looks := true }, kinds := [], alts := [], laidByText := true, laidKinds := [.handle, .data], laidTests := true, laidLooks := .later }
def DiffUndoesUptoCardSaid : Prop := Claim7.holds Tryz.pinned (.plain (OpenSpec.upto diffUndoesSpec)) diffUndoesUptoCard

/-- THE SECOND FORM's CARD OF 'guillochelaw10.DiffTurned'. -/
def diffTurnedUptoCard : Claim7 := { stood := { row := diffTurnedUptoRow, standIns := [], harness := (true, "ca975cbaf88a57180c6581da1a34838109c44da6645cc7d55dae79c808fd011d"), looks := true }, kinds := [], alts := [], laidByText := true, laidKinds := [.handle, .data], laidTests := true, laidLooks := .later }
def DiffTurnedUptoCardSaid : Prop := Claim7.holds Tryz.pinned (.plain (OpenSpec.upto diffTurnedSpec)) diffTurnedUptoCard

/-- THE SECOND FORM's CARD OF 'guillochelaw10.DiffFresh'. -/
def diffFreshUptoCard : Claim7 := { stood := { row := diffFreshUptoRow, standIns := [], harness := (true, "ca975cbaf88a57180c6581da1a34838109c44da6645cc7d55dae79c808fd011d"), looks := true }, kinds := [], alts := [], laidByText := true, laidKinds := [.handle, .data], laidTests := true, laidLooks := .later }
def DiffFreshUptoCardSaid : Prop := Claim7.holds Tryz.pinned (.plain (OpenSpec.upto diffFreshSpec)) diffFreshUptoCard
end Rows
end Go.Proofs.YtmobgkphhbmhbaaGreatDoor
