/-
  DERIVED. GIVEN WITH THE SEED: THE CARDS: each row of YtibkffoeioidlaaDoorRows.lean that lists a variable, with what it lists TIED to the program's text (the seventh form; the later family's looks); each row that meets fmt, with fmt's text TOLD by the authors' own Lean function (tested against real Go, not proved from fmt's source: count such statements apart). THE CARD IS WHAT COUNTS. Prove the row's statement (the work); the ties are given (YtibkffoeioidlaaDoorTie.lean); close each card by the builder's one call (the guide's Derived/Test/ToyasCard.lean, 'card_holds'). Laid BY PROGRAM, IN A SANDBOX (cutbox-door.mjs). By AI agents, Wed Nov 11 2026. No macro, syntax, notation, axiom, sorry.
-/
import Derived.Test.YtibkffoeioidlaaDoorRows
import GoSem.ClaimSeven
namespace Go.Proofs.YtibkffoeioidlaaDoor
namespace Rows

/-- THE TIED CARD OF 'castellanlaw27.ConnParts'. -/
def connPartsCard : Claim7 := { stood := { row := connPartsRow, standIns := [], harness := (true, "29e40eb0e7712153bcd033a19a82e18e68f391922bc10e6c45ecd8f5096c376b"), looks := false }, kinds := [], alts := [], laidByText := true, laidKinds := [.data], laidTests := true, laidLooks := .later }
def ConnPartsCardSaid : Prop := Claim7.holds Tryd.pinned (.plain (OpenSpec.ofChange connPartsSpec)) connPartsCard

/-- THE TIED CARD OF 'castellanlaw27.ConnBinds'. -/
def connBindsCard : Claim7 := { stood := { row := connBindsRow, standIns := [], harness := (true, "29e40eb0e7712153bcd033a19a82e18e68f391922bc10e6c45ecd8f5096c376b"), looks := false }, kinds := [], alts := [], laidByText := true, laidKinds := [.data], laidTests := true, laidLooks := .later }
def ConnBindsCardSaid : Prop := Claim7.holds Tryd.pinned (.plain (OpenSpec.ofChange connBindsSpec)) connBindsCard

/-- THE TIED CARD OF 'castellanlaw27.ConnNil'. -/
def connNilCard : Claim7 := { stood := { row := connNilRow, standIns := [], harness := (true, "29e40eb0e7712153bcd033a19a82e18e68f391922bc10e6c45ecd8f5096c376b"), looks := false }, kinds := [], alts := [], laidByText := true, laidKinds := [.data], laidTests := true, laidLooks := .later }
def ConnNilCardSaid : Prop := Claim7.holds Tryd.pinned (.plain (OpenSpec.ofChange connNilSpec)) connNilCard

/-- THE TIED CARD OF 'castellanlaw11.WireWrites'. -/
def wireWritesCard : Claim7 := { stood := { row := wireWritesRow, standIns := [], harness := (true, "29e40eb0e7712153bcd033a19a82e18e68f391922bc10e6c45ecd8f5096c376b"), looks := false }, kinds := [], alts := [], laidByText := true, laidKinds := [.data], laidTests := true, laidLooks := .later }
def WireWritesCardSaid : Prop := Claim7.holds Tryd.pinned (.plain (OpenSpec.ofChange wireWritesSpec)) wireWritesCard

/-- THE TIED CARD OF 'castellanlaw11.WireBack'. -/
def wireBackCard : Claim7 := { stood := { row := wireBackRow, standIns := [], harness := (true, "29e40eb0e7712153bcd033a19a82e18e68f391922bc10e6c45ecd8f5096c376b"), looks := false }, kinds := [], alts := [], laidByText := true, laidKinds := [.data], laidTests := true, laidLooks := .later }
def WireBackCardSaid : Prop := Claim7.holds Tryd.pinned (.plain (OpenSpec.ofChange wireBackSpec)) wireBackCard

/-- THE TIED CARD OF 'castellanlaw11.WireResults'. -/
def wireResultsCard : Claim7 := { stood := { row := wireResultsRow, standIns := [], harness := (true, "29e40eb0e7712153bcd033a19a82e18e68f391922bc10e6c45ecd8f5096c376b"), looks := false }, kinds := [], alts := [], laidByText := true, laidKinds := [.data], laidTests := true, laidLooks := .later }
def WireResultsCardSaid : Prop := Claim7.holds Tryd.pinned (.plain (OpenSpec.ofChange wireResultsSpec)) wireResultsCard

/-- THE TIED CARD OF 'castellanlaw11.WireBares'. -/
def wireBaresCard : Claim7 := { stood := { row := wireBaresRow, standIns := [], harness := (true, "29e40eb0e7712153bcd033a19a82e18e68f391922bc10e6c45ecd8f5096c376b"), looks := false }, kinds := [], alts := [], laidByText := true, laidKinds := [.data], laidTests := true, laidLooks := .later }
def WireBaresCardSaid : Prop := Claim7.holds Tryd.pinned (.plain (OpenSpec.ofChange wireBaresSpec)) wireBaresCard

/-- THE TIED CARD OF 'castellanlaw11.WireAgain'. -/
def wireAgainCard : Claim7 := { stood := { row := wireAgainRow, standIns := [], harness := (true, "29e40eb0e7712153bcd033a19a82e18e68f391922bc10e6c45ecd8f5096c376b"), looks := false }, kinds := [], alts := [], laidByText := true, laidKinds := [.data], laidTests := true, laidLooks := .later }
def WireAgainCardSaid : Prop := Claim7.holds Tryd.pinned (.plain (OpenSpec.ofChange wireAgainSpec)) wireAgainCard

/-- THE TIED CARD OF 'castellanlaw27.ConnBack'. -/
def connBackCard : Claim7 := { stood := { row := connBackRow, standIns := [], harness := (true, "29e40eb0e7712153bcd033a19a82e18e68f391922bc10e6c45ecd8f5096c376b"), looks := false }, kinds := [], alts := [], laidByText := true, laidKinds := [.data], laidTests := true, laidLooks := .later }
def ConnBackCardSaid : Prop := Claim7.holds Tryd.pinned (.plain (OpenSpec.ofChange connBackSpec)) connBackCard

/-- THE TIED CARD OF 'castellanlaw27.ConnReplies'. -/
def connRepliesCard : Claim7 := { stood := { row := connRepliesRow, standIns := [], harness := (true, "29e40eb0e7712153bcd033a19a82e18e68f391922bc10e6c45ecd8f5096c376b"), looks := false }, kinds := [], alts := [], laidByText := true, laidKinds := [.data], laidTests := true, laidLooks := .later }
def ConnRepliesCardSaid : Prop := Claim7.holds Tryd.pinned (.plain (OpenSpec.ofChange connRepliesSpec)) connRepliesCard

/-- THE SECOND FORM's CARD OF 'castellanlaw27.ConnParts'. -/
def connPartsUptoCard : Claim7 := { stood := { row := connPartsUptoRow, standIns := [], harness := (true, "29e40eb0e7712153bcd033a19a82e18e68f391922bc10e6c45ecd8f5096c376b"), looks := false }, kinds := [], alts := [], laidByText := true, laidKinds := [.data], laidTests := true, laidLooks := .later }
def ConnPartsUptoCardSaid : Prop := Claim7.holds Tryd.pinned (.plain (OpenSpec.upto connPartsSpec)) connPartsUptoCard

/-- THE SECOND FORM's CARD OF 'castellanlaw27.ConnBinds'. -/
def connBindsUptoCard : Claim7 := { stood := { row := connBindsUptoRow, standIns := [], harness := (true, "29e40eb0e7712153bcd033a19a82e18e68f391922bc10e6c45ecd8f5096c376b"), looks := false }, kinds := [], alts := [], laidByText := true, laidKinds := [.data], laidTests := true, laidLooks := .later }
def ConnBindsUptoCardSaid : Prop := Claim7.holds Tryd.pinned (.plain (OpenSpec.upto connBindsSpec)) connBindsUptoCard

/-- THE SECOND FORM's CARD OF 'castellanlaw27.ConnNil'. -/
def connNilUptoCard : Claim7 := { stood := { row := connNilUptoRow, standIns := [], harness := (true, "29e40eb0e7712153bcd033a19a82e18e68f391922bc10e6c45ecd8f5096c376b"), looks := false }, kinds := [], alts := [], laidByText := true, laidKinds := [.data], laidTests := true, laidLooks := .later }
def ConnNilUptoCardSaid : Prop := Claim7.holds Tryd.pinned (.plain (OpenSpec.upto connNilSpec)) connNilUptoCard

/-- THE SECOND FORM's CARD OF 'castellanlaw11.WireWrites'. -/
def wireWritesUptoCard : Claim7 := { stood := { row := wireWritesUptoRow, standIns := [], harness := (true, "29e40eb0e7712153bcd033a19a82e18e68f391922bc10e6c45ecd8f5096c376b"), looks := false }, kinds := [], alts := [], laidByText := true, laidKinds := [.data], laidTests := true, laidLooks := .later }
def WireWritesUptoCardSaid : Prop := Claim7.holds Tryd.pinned (.plain (OpenSpec.upto wireWritesSpec)) wireWritesUptoCard

/-- THE SECOND FORM's CARD OF 'castellanlaw11.WireBack'. -/
def wireBackUptoCard : Claim7 := { stood := { row := wireBackUptoRow, standIns := [], harness := (true, "29e40eb0e7712153bcd033a19a82e18e68f391922bc10e6c45ecd8f5096c376b"), looks := false }, kinds := [], alts := [], laidByText := true, laidKinds := [.data], laidTests := true, laidLooks := .later }
def WireBackUptoCardSaid : Prop := Claim7.holds Tryd.pinned (.plain (OpenSpec.upto wireBackSpec)) wireBackUptoCard

/-- THE SECOND FORM's CARD OF 'castellanlaw11.WireResults'. -/
def wireResultsUptoCard : Claim7 := { stood := { row := wireResultsUptoRow, standIns := [], harness := (true, "29e40eb0e7712153bcd033a19a82e18e68f391922bc10e6c45ecd8f5096c376b"), looks := false }, kinds := [], alts := [], laidByText := true, laidKinds := [.data], laidTests := true, laidLooks := .later }
def WireResultsUptoCardSaid : Prop := Claim7.holds Tryd.pinned (.plain (OpenSpec.upto wireResultsSpec)) wireResultsUptoCard

/-- THE SECOND FORM's CARD OF 'castellanlaw11.WireBares'. -/
def wireBaresUptoCard : Claim7 := { stood := { row := wireBaresUptoRow, standIns := [], harness := (true, "29e40eb0e7712153bcd033a19a82e18e68f391922bc10e6c45ecd8f5096c376b"), looks := false }, kinds := [], alts := [], laidByText := true, laidKinds := [.data], laidTests := true, laidLooks := .later }
def WireBaresUptoCardSaid : Prop := Claim7.holds Tryd.pinned (.plain (OpenSpec.upto wireBaresSpec)) wireBaresUptoCard

/-- THE SECOND FORM's CARD OF 'castellanlaw11.WireAgain'. -/
def wireAgainUptoCard : Claim7 := { stood := { row := wireAgainUptoRow, standIns := [], harness := (true, "29e40eb0e7712153bcd033a19a82e18e68f391922bc10e6c45ecd8f5096c376b"), looks := false }, kinds := [], alts := [], laidByText := true, laidKinds := [.data], laidTests := true, laidLooks := .later }
def WireAgainUptoCardSaid : Prop := Claim7.holds Tryd.pinned (.plain (OpenSpec.upto wireAgainSpec)) wireAgainUptoCard

/-- THE SECOND FORM's CARD OF 'castellanlaw27.ConnBack'. -/
def connBackUptoCard : Claim7 := { stood := { row := connBackUptoRow, standIns := [], harness := (true, "29e40eb0e7712153bcd033a19a82e18e68f391922bc10e6c45ecd8f5096c376b"), looks := false }, kinds := [], alts := [], laidByText := true, laidKinds := [.data], laidTests := true, laidLooks := .later }
def ConnBackUptoCardSaid : Prop := Claim7.holds Tryd.pinned (.plain (OpenSpec.upto connBackSpec)) connBackUptoCard

/-- THE SECOND FORM's CARD OF 'castellanlaw27.ConnReplies'. -/
def connRepliesUptoCard : Claim7 := { stood := { row := connRepliesUptoRow, standIns := [], harness := (true, "29e40eb0e7712153bcd033a19a82e18e68f391922bc10e6c45ecd8f5096c376b"), looks := false }, kinds := [], alts := [], laidByText := true, laidKinds := [.data], laidTests := true, laidLooks := .later }
def ConnRepliesUptoCardSaid : Prop := Claim7.holds Tryd.pinned (.plain (OpenSpec.upto connRepliesSpec)) connRepliesUptoCard
end Rows
end Go.Proofs.YtibkffoeioidlaaDoor
