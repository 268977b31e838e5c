/-
  NARROWER THAN 'FOR EVERY INPUT', by the rows' own cells (each row's printed sentence says how): ConnParts: laid · ConnBinds: laid · ConnNil: laid · WireWrites: loops, laid · WireBack: loops, laid · WireResults: laid · WireBares: loops, laid · WireAgain: laid · ConnBack: loops, laid · ConnReplies: loops, laid.
  DERIVED. THE GIVEN ROWS OF THIS SEAT. 10 by the template 'for every input the law returns true; each argument reads behind the call as it read before'; 0 by the template 'total and deterministic' (their statements: YtibkffoeioidlaaDoorTotals.lean).
  GIVEN WITH THE SEED: the statements are not yours to turn. If you find one false, say at which input.
  Laid BY PROGRAM, IN A SANDBOX (cutbox-rows.mjs): the forced cells as the released guide's own fill.sh prints them over the translation bda5b9f38ba2fc9f… (all of the seat's roots in one cut). By AI agents, Wed Nov 11 2026. No macro, syntax, notation, axiom, sorry.
-/
import Derived.Test.YtibkffoeioidlaaDoorChecked
import GoSem.Claim
import GoSem.ClaimJoined
import GoSem.ClaimMapViews
import Derived.JoinedTies
import Derived.KernelRfl
namespace Go.Proofs.YtibkffoeioidlaaDoor
/- THE CELL 'sum', in the pinned program and in every row, IS THE sha256 OF THE DUMP (.gsa) THAT YtibkffoeioidlaaDoorProg.lean LOADS. Nothing in Lean hashes anything: it is a label: what it is worth is what the hold of that sum in a sandbox is worth. -/
noncomputable def Tryd.pinned : Pinned := { name := "ytibkffoeioidlaadoor", sum := "bda5b9f38ba2fc9f311b8c5378653c20f86ba035a496003e7adf44fc925272b5", checked := Tryd.checked }
namespace Rows
def none {H : Type} : Left H := { results := [], args := [] }

/- WHAT THE LISTED PACKAGE-LEVEL VARIABLES READ AS WHEN THE CALL BEGINS. Each datum BY PROGRAM (the guide's laid-datum.mjs) off the statement by which the dump's own 'gosem.cut.vars' lays the variable. In a bare row this is a premise. The card (YtibkffoeioidlaaDoorCards.lean) ties it to the program's text. -/
def laid_castellan_wire_forms {H : Type} : DataW H := .agg [.agg [.lit (.int .i64 0), .lit (.int .i64 96)], .agg [.lit (.int .i64 1), .lit (.int .i64 97)], .agg [.lit (.int .i64 2), .lit (.int .i64 66)], .agg [.lit (.int .i64 3), .lit (.int .i64 99)], .agg [.lit (.int .i64 4), .lit (.int .i64 100)], .agg [.lit (.int .i64 5), .lit (.int .i64 101)], .agg [.lit (.int .i64 6), .lit (.int .i64 102)], .agg [.lit (.int .i64 7), .lit (.int .i64 103)], .agg [.lit (.int .i64 8), .lit (.int .i64 104)], .agg [.lit (.int .i64 9), .lit (.int .i64 105)], .agg [.lit (.int .i64 10), .lit (.int .i64 74)], .agg [.lit (.int .i64 11), .lit (.int .i64 107)], .agg [.lit (.int .i64 12), .lit (.int .i64 108)], .agg [.lit (.int .i64 13), .lit (.int .i64 109)], .agg [.lit (.int .i64 14), .lit (.int .i64 110)], .agg [.lit (.int .i64 15), .lit (.int .i64 111)], .agg [.lit (.int .i64 16), .lit (.int .i64 80)], .agg [.lit (.int .i64 23), .lit (.int .i64 119)], .agg [.lit (.int .i64 24), .lit (.int .i64 120)]]

/-- 'castellanlaw27.ConnParts': WHATEVER THE INPUT: true; the input reads as it did. -/
def connPartsSpec : ChangeSpec := { name := "connParts", fn := fun _ => fun
  | [d1, d2] => { results := [.lit (.bool true)], args := [d1, d2] }
  | _ => none }
def connPartsRow : OpenClaim := { program := "ytibkffoeioidlaadoor", sum := "bda5b9f38ba2fc9f311b8c5378653c20f86ba035a496003e7adf44fc925272b5", func := "castellan/castellanlaw27.ConnParts", spec := "connParts", recurses := true, named := ["castellan/wire.forms"], apart := false, laid := [("castellan/wire.forms", laid_castellan_wire_forms)] }
def ConnPartsSaid : Prop := connPartsRow.holds Tryd.pinned (OpenSpec.ofChange connPartsSpec)

/-- ITS FALSE NEIGHBOUR: 'it returns false'. Refute it at one input. -/
def connPartsWrong : ChangeSpec := { name := "connParts", fn := fun _ => fun
  | [d1, d2] => { results := [.lit (.bool false)], args := [d1, d2] }
  | _ => none }
def ConnPartsWrongFalsely : Prop := connPartsRow.holds Tryd.pinned (OpenSpec.ofChange connPartsWrong)

/-- 'castellanlaw27.ConnBinds': WHATEVER THE INPUT: true; the input reads as it did. -/
def connBindsSpec : ChangeSpec := { name := "connBinds", fn := fun _ => fun
  | [d1, d2] => { results := [.lit (.bool true)], args := [d1, d2] }
  | _ => none }
def connBindsRow : OpenClaim := { program := "ytibkffoeioidlaadoor", sum := "bda5b9f38ba2fc9f311b8c5378653c20f86ba035a496003e7adf44fc925272b5", func := "castellan/castellanlaw27.ConnBinds", spec := "connBinds", recurses := true, named := ["castellan/wire.forms"], apart := false, laid := [("castellan/wire.forms", laid_castellan_wire_forms)] }
def ConnBindsSaid : Prop := connBindsRow.holds Tryd.pinned (OpenSpec.ofChange connBindsSpec)

/-- ITS FALSE NEIGHBOUR: 'it returns false'. Refute it at one input. -/
def connBindsWrong : ChangeSpec := { name := "connBinds", fn := fun _ => fun
  | [d1, d2] => { results := [.lit (.bool false)], args := [d1, d2] }
  | _ => none }
def ConnBindsWrongFalsely : Prop := connBindsRow.holds Tryd.pinned (OpenSpec.ofChange connBindsWrong)

/-- 'castellanlaw27.ConnNil': WHATEVER THE INPUT: true; the input reads as it did. -/
def connNilSpec : ChangeSpec := { name := "connNil", fn := fun _ => fun
  | [] => { results := [.lit (.bool true)], args := [] }
  | _ => none }
def connNilRow : OpenClaim := { program := "ytibkffoeioidlaadoor", sum := "bda5b9f38ba2fc9f311b8c5378653c20f86ba035a496003e7adf44fc925272b5", func := "castellan/castellanlaw27.ConnNil", spec := "connNil", recurses := true, named := ["castellan/wire.forms"], apart := false, laid := [("castellan/wire.forms", laid_castellan_wire_forms)] }
def ConnNilSaid : Prop := connNilRow.holds Tryd.pinned (OpenSpec.ofChange connNilSpec)

/-- ITS FALSE NEIGHBOUR: 'it returns false'. Refute it at one input. -/
def connNilWrong : ChangeSpec := { name := "connNil", fn := fun _ => fun
  | [] => { results := [.lit (.bool false)], args := [] }
  | _ => none }
def ConnNilWrongFalsely : Prop := connNilRow.holds Tryd.pinned (OpenSpec.ofChange connNilWrong)

/-- 'castellanlaw11.WireWrites': WHATEVER THE INPUT: true; the input reads as it did. -/
def wireWritesSpec : ChangeSpec := { name := "wireWrites", fn := fun _ => fun
  | [d] => { results := [.lit (.bool true)], args := [d] }
  | _ => none }
def wireWritesRow : OpenClaim := { program := "ytibkffoeioidlaadoor", sum := "bda5b9f38ba2fc9f311b8c5378653c20f86ba035a496003e7adf44fc925272b5", func := "castellan/castellanlaw11.WireWrites", spec := "wireWrites", recurses := true, named := ["castellan/wire.forms"], loops := true, apart := false, laid := [("castellan/wire.forms", laid_castellan_wire_forms)] }
def WireWritesSaid : Prop := wireWritesRow.holds Tryd.pinned (OpenSpec.ofChange wireWritesSpec)

/-- ITS FALSE NEIGHBOUR: 'it returns false'. Refute it at one input. -/
def wireWritesWrong : ChangeSpec := { name := "wireWrites", fn := fun _ => fun
  | [d] => { results := [.lit (.bool false)], args := [d] }
  | _ => none }
def WireWritesWrongFalsely : Prop := wireWritesRow.holds Tryd.pinned (OpenSpec.ofChange wireWritesWrong)

/-- 'castellanlaw11.WireBack': WHATEVER THE INPUT: true; the input reads as it did. -/
def wireBackSpec : ChangeSpec := { name := "wireBack", fn := fun _ => fun
  | [d1, d2] => { results := [.lit (.bool true)], args := [d1, d2] }
  | _ => none }
def wireBackRow : OpenClaim := { program := "ytibkffoeioidlaadoor", sum := "bda5b9f38ba2fc9f311b8c5378653c20f86ba035a496003e7adf44fc925272b5", func := "castellan/castellanlaw11.WireBack", spec := "wireBack", recurses := true, named := ["castellan/wire.forms"], loops := true, apart := false, laid := [("castellan/wire.forms", laid_castellan_wire_forms)] }
def WireBackSaid : Prop := wireBackRow.holds Tryd.pinned (OpenSpec.ofChange wireBackSpec)

/-- ITS FALSE NEIGHBOUR: 'it returns false'. Refute it at one input. -/
def wireBackWrong : ChangeSpec := { name := "wireBack", fn := fun _ => fun
  | [d1, d2] => { results := [.lit (.bool false)], args := [d1, d2] }
  | _ => none }
def WireBackWrongFalsely : Prop := wireBackRow.holds Tryd.pinned (OpenSpec.ofChange wireBackWrong)

/-- 'castellanlaw11.WireResults': WHATEVER THE INPUT: true; the input reads as it did. -/
def wireResultsSpec : ChangeSpec := { name := "wireResults", fn := fun _ => fun
  | [d1, d2, d3] => { results := [.lit (.bool true)], args := [d1, d2, d3] }
  | _ => none }
def wireResultsRow : OpenClaim := { program := "ytibkffoeioidlaadoor", sum := "bda5b9f38ba2fc9f311b8c5378653c20f86ba035a496003e7adf44fc925272b5", func := "castellan/castellanlaw11.WireResults", spec := "wireResults", inPlace := ["internal/abi.NoEscape", "internal/bytealg.MakeNoZero"], recurses := true, named := ["castellan/wire.forms"], apart := false, laid := [("castellan/wire.forms", laid_castellan_wire_forms)] }
def WireResultsSaid : Prop := wireResultsRow.holds Tryd.pinned (OpenSpec.ofChange wireResultsSpec)

/-- ITS FALSE NEIGHBOUR: 'it returns false'. Refute it at one input. -/
def wireResultsWrong : ChangeSpec := { name := "wireResults", fn := fun _ => fun
  | [d1, d2, d3] => { results := [.lit (.bool false)], args := [d1, d2, d3] }
  | _ => none }
def WireResultsWrongFalsely : Prop := wireResultsRow.holds Tryd.pinned (OpenSpec.ofChange wireResultsWrong)

/-- 'castellanlaw11.WireBares': WHATEVER THE INPUT: true; the input reads as it did. -/
def wireBaresSpec : ChangeSpec := { name := "wireBares", fn := fun _ => fun
  | [d] => { results := [.lit (.bool true)], args := [d] }
  | _ => none }
def wireBaresRow : OpenClaim := { program := "ytibkffoeioidlaadoor", sum := "bda5b9f38ba2fc9f311b8c5378653c20f86ba035a496003e7adf44fc925272b5", func := "castellan/castellanlaw11.WireBares", spec := "wireBares", unfollowed := true, recurses := true, named := ["castellan/wire.forms"], loops := true, apart := false, laid := [("castellan/wire.forms", laid_castellan_wire_forms)] }
def WireBaresSaid : Prop := wireBaresRow.holds Tryd.pinned (OpenSpec.ofChange wireBaresSpec)

/-- ITS FALSE NEIGHBOUR: 'it returns false'. Refute it at one input. -/
def wireBaresWrong : ChangeSpec := { name := "wireBares", fn := fun _ => fun
  | [d] => { results := [.lit (.bool false)], args := [d] }
  | _ => none }
def WireBaresWrongFalsely : Prop := wireBaresRow.holds Tryd.pinned (OpenSpec.ofChange wireBaresWrong)

/-- 'castellanlaw11.WireAgain': WHATEVER THE INPUT: true; the input reads as it did. -/
def wireAgainSpec : ChangeSpec := { name := "wireAgain", fn := fun _ => fun
  | [d] => { results := [.lit (.bool true)], args := [d] }
  | _ => none }
def wireAgainRow : OpenClaim := { program := "ytibkffoeioidlaadoor", sum := "bda5b9f38ba2fc9f311b8c5378653c20f86ba035a496003e7adf44fc925272b5", func := "castellan/castellanlaw11.WireAgain", spec := "wireAgain", unfollowed := true, recurses := true, named := ["castellan/wire.forms"], apart := false, laid := [("castellan/wire.forms", laid_castellan_wire_forms)] }
def WireAgainSaid : Prop := wireAgainRow.holds Tryd.pinned (OpenSpec.ofChange wireAgainSpec)

/-- ITS FALSE NEIGHBOUR: 'it returns false'. Refute it at one input. -/
def wireAgainWrong : ChangeSpec := { name := "wireAgain", fn := fun _ => fun
  | [d] => { results := [.lit (.bool false)], args := [d] }
  | _ => none }
def WireAgainWrongFalsely : Prop := wireAgainRow.holds Tryd.pinned (OpenSpec.ofChange wireAgainWrong)

/-- 'castellanlaw27.ConnBack': WHATEVER THE INPUT: true; the input reads as it did. -/
def connBackSpec : ChangeSpec := { name := "connBack", fn := fun _ => fun
  | [d] => { results := [.lit (.bool true)], args := [d] }
  | _ => none }
def connBackRow : OpenClaim := { program := "ytibkffoeioidlaadoor", sum := "bda5b9f38ba2fc9f311b8c5378653c20f86ba035a496003e7adf44fc925272b5", func := "castellan/castellanlaw27.ConnBack", spec := "connBack", recurses := true, named := ["castellan/wire.forms"], loops := true, apart := false, laid := [("castellan/wire.forms", laid_castellan_wire_forms)] }
def ConnBackSaid : Prop := connBackRow.holds Tryd.pinned (OpenSpec.ofChange connBackSpec)

/-- ITS FALSE NEIGHBOUR: 'it returns false'. Refute it at one input. -/
def connBackWrong : ChangeSpec := { name := "connBack", fn := fun _ => fun
  | [d] => { results := [.lit (.bool false)], args := [d] }
  | _ => none }
def ConnBackWrongFalsely : Prop := connBackRow.holds Tryd.pinned (OpenSpec.ofChange connBackWrong)

/-- 'castellanlaw27.ConnReplies': WHATEVER THE INPUT: true; the input reads as it did. -/
def connRepliesSpec : ChangeSpec := { name := "connReplies", fn := fun _ => fun
  | [d] => { results := [.lit (.bool true)], args := [d] }
  | _ => none }
def connRepliesRow : OpenClaim := { program := "ytibkffoeioidlaadoor", sum := "bda5b9f38ba2fc9f311b8c5378653c20f86ba035a496003e7adf44fc925272b5", func := "castellan/castellanlaw27.ConnReplies", spec := "connReplies", recurses := true, named := ["castellan/wire.forms"], loops := true, apart := false, laid := [("castellan/wire.forms", laid_castellan_wire_forms)] }
def ConnRepliesSaid : Prop := connRepliesRow.holds Tryd.pinned (OpenSpec.ofChange connRepliesSpec)

/-- ITS FALSE NEIGHBOUR: 'it returns false'. Refute it at one input. -/
def connRepliesWrong : ChangeSpec := { name := "connReplies", fn := fun _ => fun
  | [d] => { results := [.lit (.bool false)], args := [d] }
  | _ => none }
def ConnRepliesWrongFalsely : Prop := connRepliesRow.holds Tryd.pinned (OpenSpec.ofChange connRepliesWrong)

/- THE SECOND FORM. 'bulk': how many values and letters a reading holds, each counted each time it is reached (what is shared counts as often as it is met; a slice's spare places count too). A statement '..UptoSaid' is the law's where the arguments, and the package variables that the reading takes, are together of bulk at most 1048576: NARROWER than '..Said'. Prove '..Said' where nothing that the law and all that it calls make is longer than what came in: it says more and counts as full. Else prove '..UptoSaid'. A law counts once. -/
mutual
def uptoBulk {H : Type} : DataW H → Nat
  | .lit (.string bytes) => bytes.length + 1
  | .lit _ => 1
  | .nil => 1
  | .ptr d => uptoBulk d + 1
  | .slice elems spare => uptoBulkAll elems + uptoBulkAll spare + 1
  | .agg parts => uptoBulkAll parts + 1
  | .iface _ d => uptoBulk d + 1
  | .map entries => uptoBulkEntries entries + 1
  | .held _ => 1
def uptoBulkAll {H : Type} : List (DataW H) → Nat
  | [] => 0
  | d :: r => uptoBulk d + uptoBulkAll r
def uptoBulkEntries {H : Type} : List (Lit × DataW H) → Nat
  | [] => 0
  | x :: r => uptoBulkEntry x + uptoBulkEntries r
def uptoBulkEntry {H : Type} : Lit × DataW H → Nat
  | (.string bytes, d) => bytes.length + uptoBulk d + 1
  | (_, d) => uptoBulk d + 1
 end
def uptoSmall : (H : Type) → List (DataW H) → Bool := fun _ ds => decide (uptoBulkAll ds ≤ 1048576)
def OpenSpec.upto (s : _root_.Go.ChangeSpec) : _root_.Go.OpenSpec := { _root_.Go.OpenSpec.ofChange s with cond := some uptoSmall }

/-- 'castellanlaw27.ConnParts', WHERE WHAT IT READS IS OF BULK AT MOST 1048576: true; the input reads as it did. -/
def connPartsUptoRow : OpenClaim := { program := "ytibkffoeioidlaadoor", sum := "bda5b9f38ba2fc9f311b8c5378653c20f86ba035a496003e7adf44fc925272b5", func := "castellan/castellanlaw27.ConnParts", spec := "connParts", recurses := true, named := ["castellan/wire.forms"], apart := false, laid := [("castellan/wire.forms", laid_castellan_wire_forms)], narrowed := true }
def ConnPartsUptoSaid : Prop := connPartsUptoRow.holds Tryd.pinned (OpenSpec.upto connPartsSpec)

/-- 'castellanlaw27.ConnBinds', WHERE WHAT IT READS IS OF BULK AT MOST 1048576: true; the input reads as it did. -/
def connBindsUptoRow : OpenClaim := { program := "ytibkffoeioidlaadoor", sum := "bda5b9f38ba2fc9f311b8c5378653c20f86ba035a496003e7adf44fc925272b5", func := "castellan/castellanlaw27.ConnBinds", spec := "connBinds", recurses := true, named := ["castellan/wire.forms"], apart := false, laid := [("castellan/wire.forms", laid_castellan_wire_forms)], narrowed := true }
def ConnBindsUptoSaid : Prop := connBindsUptoRow.holds Tryd.pinned (OpenSpec.upto connBindsSpec)

/-- 'castellanlaw27.ConnNil', WHERE WHAT IT READS IS OF BULK AT MOST 1048576: true; the input reads as it did. -/
def connNilUptoRow : OpenClaim := { program := "ytibkffoeioidlaadoor", sum := "bda5b9f38ba2fc9f311b8c5378653c20f86ba035a496003e7adf44fc925272b5", func := "castellan/castellanlaw27.ConnNil", spec := "connNil", recurses := true, named := ["castellan/wire.forms"], apart := false, laid := [("castellan/wire.forms", laid_castellan_wire_forms)], narrowed := true }
def ConnNilUptoSaid : Prop := connNilUptoRow.holds Tryd.pinned (OpenSpec.upto connNilSpec)

/-- 'castellanlaw11.WireWrites', WHERE WHAT IT READS IS OF BULK AT MOST 1048576: true; the input reads as it did. -/
def wireWritesUptoRow : OpenClaim := { program := "ytibkffoeioidlaadoor", sum := "bda5b9f38ba2fc9f311b8c5378653c20f86ba035a496003e7adf44fc925272b5", func := "castellan/castellanlaw11.WireWrites", spec := "wireWrites", recurses := true, named := ["castellan/wire.forms"], loops := true, apart := false, laid := [("castellan/wire.forms", laid_castellan_wire_forms)], narrowed := true }
def WireWritesUptoSaid : Prop := wireWritesUptoRow.holds Tryd.pinned (OpenSpec.upto wireWritesSpec)

/-- 'castellanlaw11.WireBack', WHERE WHAT IT READS IS OF BULK AT MOST 1048576: true; the input reads as it did. -/
def wireBackUptoRow : OpenClaim := { program := "ytibkffoeioidlaadoor", sum := "bda5b9f38ba2fc9f311b8c5378653c20f86ba035a496003e7adf44fc925272b5", func := "castellan/castellanlaw11.WireBack", spec := "wireBack", recurses := true, named := ["castellan/wire.forms"], loops := true, apart := false, laid := [("castellan/wire.forms", laid_castellan_wire_forms)], narrowed := true }
def WireBackUptoSaid : Prop := wireBackUptoRow.holds Tryd.pinned (OpenSpec.upto wireBackSpec)

/-- 'castellanlaw11.WireResults', WHERE WHAT IT READS IS OF BULK AT MOST 1048576: true; the input reads as it did. -/
def wireResultsUptoRow : OpenClaim := { program := "ytibkffoeioidlaadoor", sum := "bda5b9f38ba2fc9f311b8c5378653c20f86ba035a496003e7adf44fc925272b5", func := "castellan/castellanlaw11.WireResults", spec := "wireResults", inPlace := ["internal/abi.NoEscape", "internal/bytealg.MakeNoZero"], recurses := true, named := ["castellan/wire.forms"], apart := false, laid := [("castellan/wire.forms", laid_castellan_wire_forms)], narrowed := true }
def WireResultsUptoSaid : Prop := wireResultsUptoRow.holds Tryd.pinned (OpenSpec.upto wireResultsSpec)

/-- 'castellanlaw11.WireBares', WHERE WHAT IT READS IS OF BULK AT MOST 1048576: true; the input reads as it did. -/
def wireBaresUptoRow : OpenClaim := { program := "ytibkffoeioidlaadoor", sum := "bda5b9f38ba2fc9f311b8c5378653c20f86ba035a496003e7adf44fc925272b5", func := "castellan/castellanlaw11.WireBares", spec := "wireBares", unfollowed := true, recurses := true, named := ["castellan/wire.forms"], loops := true, apart := false, laid := [("castellan/wire.forms", laid_castellan_wire_forms)], narrowed := true }
def WireBaresUptoSaid : Prop := wireBaresUptoRow.holds Tryd.pinned (OpenSpec.upto wireBaresSpec)

/-- 'castellanlaw11.WireAgain', WHERE WHAT IT READS IS OF BULK AT MOST 1048576: true; the input reads as it did. -/
def wireAgainUptoRow : OpenClaim := { program := "ytibkffoeioidlaadoor", sum := "bda5b9f38ba2fc9f311b8c5378653c20f86ba035a496003e7adf44fc925272b5", func := "castellan/castellanlaw11.WireAgain", spec := "wireAgain", unfollowed := true, recurses := true, named := ["castellan/wire.forms"], apart := false, laid := [("castellan/wire.forms", laid_castellan_wire_forms)], narrowed := true }
def WireAgainUptoSaid : Prop := wireAgainUptoRow.holds Tryd.pinned (OpenSpec.upto wireAgainSpec)

/-- 'castellanlaw27.ConnBack', WHERE WHAT IT READS IS OF BULK AT MOST 1048576: true; the input reads as it did. -/
def connBackUptoRow : OpenClaim := { program := "ytibkffoeioidlaadoor", sum := "bda5b9f38ba2fc9f311b8c5378653c20f86ba035a496003e7adf44fc925272b5", func := "castellan/castellanlaw27.ConnBack", spec := "connBack", recurses := true, named := ["castellan/wire.forms"], loops := true, apart := false, laid := [("castellan/wire.forms", laid_castellan_wire_forms)], narrowed := true }
def ConnBackUptoSaid : Prop := connBackUptoRow.holds Tryd.pinned (OpenSpec.upto connBackSpec)

/-- 'castellanlaw27.ConnReplies', WHERE WHAT IT READS IS OF BULK AT MOST 1048576: true; the input reads as it did. -/
def connRepliesUptoRow : OpenClaim := { program := "ytibkffoeioidlaadoor", sum := "bda5b9f38ba2fc9f311b8c5378653c20f86ba035a496003e7adf44fc925272b5", func := "castellan/castellanlaw27.ConnReplies", spec := "connReplies", recurses := true, named := ["castellan/wire.forms"], loops := true, apart := false, laid := [("castellan/wire.forms", laid_castellan_wire_forms)], narrowed := true }
def ConnRepliesUptoSaid : Prop := connRepliesUptoRow.holds Tryd.pinned (OpenSpec.upto connRepliesSpec)

end Rows
end Go.Proofs.YtibkffoeioidlaaDoor
