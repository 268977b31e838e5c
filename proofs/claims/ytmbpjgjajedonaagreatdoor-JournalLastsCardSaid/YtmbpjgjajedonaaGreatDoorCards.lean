/-
  DERIVED. GIVEN WITH THE SEED: THE CARDS: each row of YtmbpjgjajedonaaGreatDoorRows.lean that lists a variable, with what it lists TIED to the program's text (the seventh form; the later family's looks); each row that meets fmt, with fmt's text TOLD by the authors' own Lean function (tested against real Go, not proved from fmt's source: count such statements apart). THE CARD IS WHAT COUNTS. Prove the row's statement (the work); the ties are given (YtmbpjgjajedonaaGreatDoorTie.lean); close each card by the builder's one call (the guide's Derived/Test/ToyasCard.lean, 'card_holds'). Laid BY PROGRAM, IN A SANDBOX (cutbox-door.mjs). By AI agents, Wed Nov 11 2026. No macro, syntax, notation, axiom, sorry.
-/
import Derived.Test.YtmbpjgjajedonaaGreatDoorRows
import GoSem.ClaimSeven
namespace Go.Proofs.YtmbpjgjajedonaaGreatDoor
namespace Rows

/-- THE TIED CARD OF 'castellanlaw06.JournalLasts'. -/
def journalLastsCard : Claim7 := { stood := { row := journalLastsRow, standIns := [], harness := (true, "8a26652ced9be6e80e0896cf191558cb554aac4cd90e1d4ef86807bfea3f1e9c"), looks := false }, kinds := [], alts := [], laidByText := true, laidKinds := [.data, .pinned], laidTests := true, laidLooks := .later }
def JournalLastsCardSaid : Prop := Claim7.holds Tryz.pinned (.plain (OpenSpec.ofChange journalLastsSpec)) journalLastsCard

/-- THE TIED CARD OF 'castellanlaw06.JournalResets'. -/
def journalResetsCard : Claim7 := { stood := { row := journalResetsRow, standIns := [], harness := (true, "8a26652ced9be6e80e0896cf191558cb554aac4cd90e1d4ef86807bfea3f1e9c"), looks := false }, kinds := [], alts := [], laidByText := true, laidKinds := [.data, .pinned], laidTests := true, laidLooks := .later }
def JournalResetsCardSaid : Prop := Claim7.holds Tryz.pinned (.plain (OpenSpec.ofChange journalResetsSpec)) journalResetsCard

/-- THE TIED CARD OF 'castellanlaw06.JournalPlays'. -/
def journalPlaysCard : Claim7 := { stood := { row := journalPlaysRow, standIns := [], harness := (true, "8a26652ced9be6e80e0896cf191558cb554aac4cd90e1d4ef86807bfea3f1e9c"), looks := false }, kinds := [], alts := [], laidByText := true, laidKinds := [.data, .pinned], laidTests := true, laidLooks := .later }
def JournalPlaysCardSaid : Prop := Claim7.holds Tryz.pinned (.plain (OpenSpec.ofChange journalPlaysSpec)) journalPlaysCard

/-- THE SECOND FORM's CARD OF 'castellanlaw06.JournalLasts'. -/
def journalLastsUptoCard : Claim7 := { stood := { row := journalLastsUptoRow, standIns := [], harness := (true, "8a26652ced9be6e80e0896cf191558cb554aac4cd90e1d4ef86807bfea3f1e9c"), looks := false }, kinds := [], alts := [], laidByText := true, laidKinds := [.data, .pinned], laidTests := true, laidLooks := .later }
def JournalLastsUptoCardSaid : Prop := Claim7.holds Tryz.pinned (.plain (OpenSpec.upto journalLastsSpec)) journalLastsUptoCard

/-- THE SECOND FORM's CARD OF 'castellanlaw06.JournalResets'. -/
def journalResetsUptoCard : Claim7 := { stood := { row := journalResetsUptoRow, standIns := [], harness := (true, "8a26652ced9be6e80e0896cf191558cb554aac4cd90e1d4ef86807bfea3f1e9c"), looks := false }, kinds := [], alts := [], laidByText := true, laidKinds := [.data, .pinned], laidTests := true, laidLooks := .later }
def JournalResetsUptoCardSaid : Prop := Claim7.holds Tryz.pinned (.plain (OpenSpec.upto journalResetsSpec)) journalResetsUptoCard

/-- THE SECOND FORM's CARD OF 'castellanlaw06.JournalPlays'. -/
def journalPlaysUptoCard : Claim7 := { stood := { row := journalPlaysUptoRow, standIns := [], harness := (true, "8a26652ced9be6e80e0896cf191558cb554aac4cd90e1d4ef86807bfea3f1e9c"), looks := false }, kinds := [], alts := [], laidByText := true, laidKinds := [.data, .pinned], laidTests := true, laidLooks := .later }
def JournalPlaysUptoCardSaid : Prop := Claim7.holds Tryz.pinned (.plain (OpenSpec.upto journalPlaysSpec)) journalPlaysUptoCard
end Rows
end Go.Proofs.YtmbpjgjajedonaaGreatDoor
