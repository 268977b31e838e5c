/-
  DERIVED. GIVEN WITH THE SEED: THE CARDS: each row of YtmbpjgjajedonaaDoorRows.lean that lists a variable, with what it lists TIED to the program's text (the seventh form; the later family's looks); each row that meets fmt, with fmt's text TOLD by the authors' own Lean function (tested against real Go, not proved from fmt's source: count such statements apart). THE CARD IS WHAT COUNTS. Prove the row's statement (the work); the ties are given (YtmbpjgjajedonaaDoorTie.lean); close each card by the builder's one call (the guide's Derived/Test/ToyasCard.lean, 'card_holds'). Laid BY PROGRAM, IN A SANDBOX (cutbox-door.mjs). By AI agents, Wed Nov 11 2026. No macro, syntax, notation, axiom, sorry.
-/
import Derived.Test.YtmbpjgjajedonaaDoorRows
import GoSem.ClaimSeven
namespace Go.Proofs.YtmbpjgjajedonaaDoor
namespace Rows

/-- THE TIED CARD OF 'castellanlaw06.JournalNeeds'. -/
def journalNeedsCard : Claim7 := { stood := { row := journalNeedsRow, standIns := [], harness := (true, "504efc2e3a441978ea096cfc8bf0d693e196b3157ce46cd908656bd67f11fd46"), looks := false }, kinds := [], alts := [], laidByText := true, laidKinds := [.data, .pinned], laidTests := true, laidLooks := .later }
def JournalNeedsCardSaid : Prop := Claim7.holds Tryd.pinned (.plain (OpenSpec.ofChange journalNeedsSpec)) journalNeedsCard

/-- THE TIED CARD OF 'castellanlaw06.JournalTwice'. -/
def journalTwiceCard : Claim7 := { stood := { row := journalTwiceRow, standIns := [], harness := (true, "504efc2e3a441978ea096cfc8bf0d693e196b3157ce46cd908656bd67f11fd46"), looks := false }, kinds := [], alts := [], laidByText := true, laidKinds := [.data, .pinned], laidTests := true, laidLooks := .later }
def JournalTwiceCardSaid : Prop := Claim7.holds Tryd.pinned (.plain (OpenSpec.ofChange journalTwiceSpec)) journalTwiceCard

/-- THE TIED CARD OF 'castellanlaw06.JournalNil'. -/
def journalNilCard : Claim7 := { stood := { row := journalNilRow, standIns := [], harness := (true, "504efc2e3a441978ea096cfc8bf0d693e196b3157ce46cd908656bd67f11fd46"), looks := false }, kinds := [], alts := [], laidByText := true, laidKinds := [.data, .pinned], laidTests := true, laidLooks := .later }
def JournalNilCardSaid : Prop := Claim7.holds Tryd.pinned (.plain (OpenSpec.ofChange journalNilSpec)) journalNilCard

/-- THE SECOND FORM's CARD OF 'castellanlaw06.JournalNeeds'. -/
def journalNeedsUptoCard : Claim7 := { stood := { row := journalNeedsUptoRow, standIns := [], harness := (true, "504efc2e3a441978ea096cfc8bf0d693e196b3157ce46cd908656bd67f11fd46"), looks := false }, kinds := [], alts := [], laidByText := true, laidKinds := [.data, .pinned], laidTests := true, laidLooks := .later }
def JournalNeedsUptoCardSaid : Prop := Claim7.holds Tryd.pinned (.plain (OpenSpec.upto journalNeedsSpec)) journalNeedsUptoCard

/-- THE SECOND FORM's CARD OF 'castellanlaw06.JournalTwice'. -/
def journalTwiceUptoCard : Claim7 := { stood := { row := journalTwiceUptoRow, standIns := [], harness := (true, "504efc2e3a441978ea096cfc8bf0d693e196b3157ce46cd908656bd67f11fd46"), looks := false }, kinds := [], alts := [], laidByText := true, laidKinds := [.data, .pinned], laidTests := true, laidLooks := .later }
def JournalTwiceUptoCardSaid : Prop := Claim7.holds Tryd.pinned (.plain (OpenSpec.upto journalTwiceSpec)) journalTwiceUptoCard

/-- THE SECOND FORM's CARD OF 'castellanlaw06.JournalNil'. -/
def journalNilUptoCard : Claim7 := { stood := { row := journalNilUptoRow, standIns := [], harness := (true, "504efc2e3a441978ea096cfc8bf0d693e196b3157ce46cd908656bd67f11fd46"), looks := false }, kinds := [], alts := [], laidByText := true, laidKinds := [.data, .pinned], laidTests := true, laidLooks := .later }
def JournalNilUptoCardSaid : Prop := Claim7.holds Tryd.pinned (.plain (OpenSpec.upto journalNilSpec)) journalNilUptoCard
end Rows
end Go.Proofs.YtmbpjgjajedonaaDoor
