/-
  DERIVED. GIVEN WITH THE SEED: THE CARDS: each row of YtfmekdmpghhegaaDoorRows.lean that lists a variable, with what it lists TIED to the program's text (the seventh form; the later family's looks); each row that meets fmt, with fmt's text TOLD by the authors' own Lean function (tested against real Go, not proved from fmt's source: count such statements apart). THE CARD IS WHAT COUNTS. Prove the row's statement (the work); the ties are given (YtfmekdmpghhegaaDoorTie.lean); close each card by the builder's one call (the guide's Derived/Test/ToyasCard.lean, 'card_holds'). Laid BY PROGRAM, IN A SANDBOX (cutbox-door.mjs). By AI agents, Wed Nov 11 2026. No macro, syntax, notation, axiom, sorry.
-/
import Derived.Test.YtfmekdmpghhegaaDoorRows
import GoSem.ClaimSeven
namespace Go.Proofs.YtfmekdmpghhegaaDoor
namespace Rows

/-- THE TIED CARD OF 'castellanlaw13.SchemaLines'. -/
def schemaLinesCard : Claim7 := { stood := { row := schemaLinesRow, standIns := [], harness := (true, "571c48336ebe75b50449a2dc16e2914fe7e87e235d29d7087a4f7a9db9ef369b"), looks := false }, kinds := [], alts := [], laidByText := true, laidKinds := [.data, .data, .data], laidTests := true, laidLooks := .later }
def SchemaLinesCardSaid : Prop := Claim7.holds Tryd.pinned (.plain (OpenSpec.ofChange schemaLinesSpec)) schemaLinesCard

/-- THE SECOND FORM's CARD OF 'castellanlaw13.SchemaLines'. -/
def schemaLinesUptoCard : Claim7 := { stood := { row := schemaLinesUptoRow, standIns := [], harness := (true, "571c48336ebe75b50449a2dc16e2914fe7e87e235d29d7087a4f7a9db9ef369b"), looks := false }, kinds := [], alts := [], laidByText := true, laidKinds := [.data, .data, .data], laidTests := true, laidLooks := .later }
def SchemaLinesUptoCardSaid : Prop := Claim7.holds Tryd.pinned (.plain (OpenSpec.upto schemaLinesSpec)) schemaLinesUptoCard
end Rows
end Go.Proofs.YtfmekdmpghhegaaDoor
