/-
  No cell of these rows narrows 'for every input' (looked for: loops, veiled, ifaces, maps, wideKeys, modest, calm, conditions, laid).
  DERIVED. THE GIVEN ROWS OF THIS SEAT. 6 by the template 'for every input the law returns true; each argument reads behind the call as it read before'; 0 by the template 'total and deterministic' (their statements: YtahpemfnhepgoaaTotals.lean).
  GIVEN WITH THE SEED: the statements are not yours to turn. If you find one false, say at which input.
  Laid BY PROGRAM, IN A SANDBOX (cutbox-rows.mjs): the forced cells as the released guide's own fill.sh prints them over the translation 578084bd0f8f8563… (all of the seat's roots in one cut). By AI agents, Wed Nov 11 2026. No macro, syntax, notation, axiom, sorry.
-/
import Derived.Test.YtahpemfnhepgoaaChecked
import GoSem.Claim
import GoSem.ClaimJoined
import GoSem.ClaimMapViews
import Derived.JoinedTies
import Derived.KernelRfl
namespace Go.Proofs.Ytahpemfnhepgoaa
/- THE CELL 'sum', in the pinned program and in every row, IS THE sha256 OF THE DUMP (.gsa) THAT YtahpemfnhepgoaaProg.lean LOADS. Nothing in Lean hashes anything: it is a label: what it is worth is what the hold of that sum in a sandbox is worth. -/
noncomputable def Try.pinned : Pinned := { name := "ytahpemfnhepgoaa", sum := "578084bd0f8f8563f636f437aa9231d5b8826bb84c146cae1a9507a71f2e4eea", checked := Try.checked }
namespace Rows
def none {H : Type} : Left H := { results := [], args := [] }

/-- 'castellanlaw09.DnParses': WHATEVER THE INPUT: true; the input reads as it did. -/
def dnParsesSpec : ChangeSpec := { name := "dnParses", fn := fun _ => fun
  | [d] => { results := [.lit (.bool true)], args := [d] }
  | _ => none }
def dnParsesRow : OpenClaim := { program := "ytahpemfnhepgoaa", sum := "578084bd0f8f8563f636f437aa9231d5b8826bb84c146cae1a9507a71f2e4eea", func := "castellan/castellanlaw09.DnParses", spec := "dnParses", inPlace := ["internal/bytealg.IndexByteString", "internal/bytealg.IndexString", "internal/abi.NoEscape", "internal/bytealg.MakeNoZero"], unfollowed := true, recurses := true, named := ["internal/bytealg.MaxLen"], apart := false }
def DnParsesSaid : Prop := dnParsesRow.holds Try.pinned (OpenSpec.ofChange dnParsesSpec)

/-- ITS FALSE NEIGHBOUR: 'it returns false'. Refute it at one input. -/
def dnParsesWrong : ChangeSpec := { name := "dnParses", fn := fun _ => fun
  | [d] => { results := [.lit (.bool false)], args := [d] }
  | _ => none }
def DnParsesWrongFalsely : Prop := dnParsesRow.holds Try.pinned (OpenSpec.ofChange dnParsesWrong)

/-- 'castellanlaw09.DnPrints': WHATEVER THE INPUT: true; the input reads as it did. -/
def dnPrintsSpec : ChangeSpec := { name := "dnPrints", fn := fun _ => fun
  | [d] => { results := [.lit (.bool true)], args := [d] }
  | _ => none }
def dnPrintsRow : OpenClaim := { program := "ytahpemfnhepgoaa", sum := "578084bd0f8f8563f636f437aa9231d5b8826bb84c146cae1a9507a71f2e4eea", func := "castellan/castellanlaw09.DnPrints", spec := "dnPrints", inPlace := ["internal/bytealg.IndexByteString", "internal/abi.NoEscape", "internal/bytealg.MakeNoZero", "internal/bytealg.IndexString"], unfollowed := true, recurses := true, named := ["internal/bytealg.MaxLen"], apart := false }
def DnPrintsSaid : Prop := dnPrintsRow.holds Try.pinned (OpenSpec.ofChange dnPrintsSpec)

/-- ITS FALSE NEIGHBOUR: 'it returns false'. Refute it at one input. -/
def dnPrintsWrong : ChangeSpec := { name := "dnPrints", fn := fun _ => fun
  | [d] => { results := [.lit (.bool false)], args := [d] }
  | _ => none }
def DnPrintsWrongFalsely : Prop := dnPrintsRow.holds Try.pinned (OpenSpec.ofChange dnPrintsWrong)

/-- 'castellanlaw09.DnKeys': WHATEVER THE INPUT: true; the input reads as it did. -/
def dnKeysSpec : ChangeSpec := { name := "dnKeys", fn := fun _ => fun
  | [d] => { results := [.lit (.bool true)], args := [d] }
  | _ => none }
def dnKeysRow : OpenClaim := { program := "ytahpemfnhepgoaa", sum := "578084bd0f8f8563f636f437aa9231d5b8826bb84c146cae1a9507a71f2e4eea", func := "castellan/castellanlaw09.DnKeys", spec := "dnKeys", inPlace := ["internal/bytealg.IndexByteString", "internal/bytealg.IndexString", "internal/abi.NoEscape", "internal/bytealg.MakeNoZero"], unfollowed := true, recurses := true, named := ["internal/bytealg.MaxLen"], apart := false }
def DnKeysSaid : Prop := dnKeysRow.holds Try.pinned (OpenSpec.ofChange dnKeysSpec)

/-- ITS FALSE NEIGHBOUR: 'it returns false'. Refute it at one input. -/
def dnKeysWrong : ChangeSpec := { name := "dnKeys", fn := fun _ => fun
  | [d] => { results := [.lit (.bool false)], args := [d] }
  | _ => none }
def DnKeysWrongFalsely : Prop := dnKeysRow.holds Try.pinned (OpenSpec.ofChange dnKeysWrong)

/-- 'castellanlaw09.DnBack': WHATEVER THE INPUT: true; the input reads as it did. -/
def dnBackSpec : ChangeSpec := { name := "dnBack", fn := fun _ => fun
  | [d] => { results := [.lit (.bool true)], args := [d] }
  | _ => none }
def dnBackRow : OpenClaim := { program := "ytahpemfnhepgoaa", sum := "578084bd0f8f8563f636f437aa9231d5b8826bb84c146cae1a9507a71f2e4eea", func := "castellan/castellanlaw09.DnBack", spec := "dnBack", inPlace := ["internal/bytealg.IndexByteString", "internal/abi.NoEscape", "internal/bytealg.MakeNoZero", "internal/bytealg.IndexString"], unfollowed := true, recurses := true, named := ["internal/bytealg.MaxLen"], apart := false }
def DnBackSaid : Prop := dnBackRow.holds Try.pinned (OpenSpec.ofChange dnBackSpec)

/-- ITS FALSE NEIGHBOUR: 'it returns false'. Refute it at one input. -/
def dnBackWrong : ChangeSpec := { name := "dnBack", fn := fun _ => fun
  | [d] => { results := [.lit (.bool false)], args := [d] }
  | _ => none }
def DnBackWrongFalsely : Prop := dnBackRow.holds Try.pinned (OpenSpec.ofChange dnBackWrong)

/-- 'castellanlaw09.DnAgain': WHATEVER THE INPUT: true; the input reads as it did. -/
def dnAgainSpec : ChangeSpec := { name := "dnAgain", fn := fun _ => fun
  | [d] => { results := [.lit (.bool true)], args := [d] }
  | _ => none }
def dnAgainRow : OpenClaim := { program := "ytahpemfnhepgoaa", sum := "578084bd0f8f8563f636f437aa9231d5b8826bb84c146cae1a9507a71f2e4eea", func := "castellan/castellanlaw09.DnAgain", spec := "dnAgain", inPlace := ["internal/bytealg.IndexByteString", "internal/bytealg.IndexString", "internal/abi.NoEscape", "internal/bytealg.MakeNoZero"], unfollowed := true, recurses := true, named := ["internal/bytealg.MaxLen"], apart := false }
def DnAgainSaid : Prop := dnAgainRow.holds Try.pinned (OpenSpec.ofChange dnAgainSpec)

/-- ITS FALSE NEIGHBOUR: 'it returns false'. Refute it at one input. -/
def dnAgainWrong : ChangeSpec := { name := "dnAgain", fn := fun _ => fun
  | [d] => { results := [.lit (.bool false)], args := [d] }
  | _ => none }
def DnAgainWrongFalsely : Prop := dnAgainRow.holds Try.pinned (OpenSpec.ofChange dnAgainWrong)

/-- 'castellanlaw09.DnUnders': WHATEVER THE INPUT: true; the input reads as it did. -/
def dnUndersSpec : ChangeSpec := { name := "dnUnders", fn := fun _ => fun
  | [d1, d2, d3] => { results := [.lit (.bool true)], args := [d1, d2, d3] }
  | _ => none }
def dnUndersRow : OpenClaim := { program := "ytahpemfnhepgoaa", sum := "578084bd0f8f8563f636f437aa9231d5b8826bb84c146cae1a9507a71f2e4eea", func := "castellan/castellanlaw09.DnUnders", spec := "dnUnders", inPlace := ["internal/bytealg.IndexByteString", "internal/abi.NoEscape", "internal/bytealg.MakeNoZero", "internal/bytealg.IndexString"], unfollowed := true, recurses := true, named := ["internal/bytealg.MaxLen"], apart := false }
def DnUndersSaid : Prop := dnUndersRow.holds Try.pinned (OpenSpec.ofChange dnUndersSpec)

/-- ITS FALSE NEIGHBOUR: 'it returns false'. Refute it at one input. -/
def dnUndersWrong : ChangeSpec := { name := "dnUnders", fn := fun _ => fun
  | [d1, d2, d3] => { results := [.lit (.bool false)], args := [d1, d2, d3] }
  | _ => none }
def DnUndersWrongFalsely : Prop := dnUndersRow.holds Try.pinned (OpenSpec.ofChange dnUndersWrong)

/- THE SECOND FORM. 'bulk': how many values and letters a reading holds, each counted each time it is reached (what is shared counts as often as it is met; a slice's spare places count too). A statement '..UptoSaid' is the law's where the arguments, and the package variables that the reading takes, are together of bulk at most 1048576: NARROWER than '..Said'. Prove '..Said' where nothing that the law and all that it calls make is longer than what came in: it says more and counts as full. Else prove '..UptoSaid'. A law counts once. -/
mutual
def uptoBulk {H : Type} : DataW H → Nat
  | .lit (.string bytes) => bytes.length + 1
  | .lit _ => 1
  | .nil => 1
  | .ptr d => uptoBulk d + 1
  | .slice elems spare => uptoBulkAll elems + uptoBulkAll spare + 1
  | .agg parts => uptoBulkAll parts + 1
  | .iface _ d => uptoBulk d + 1
  | .map entries => uptoBulkEntries entries + 1
  | .held _ => 1
def uptoBulkAll {H : Type} : List (DataW H) → Nat
  | [] => 0
  | d :: r => uptoBulk d + uptoBulkAll r
def uptoBulkEntries {H : Type} : List (Lit × DataW H) → Nat
  | [] => 0
  | x :: r => uptoBulkEntry x + uptoBulkEntries r
def uptoBulkEntry {H : Type} : Lit × DataW H → Nat
  | (.string bytes, d) => bytes.length + uptoBulk d + 1
  | (_, d) => uptoBulk d + 1
 end
def uptoSmall : (H : Type) → List (DataW H) → Bool := fun _ ds => decide (uptoBulkAll ds ≤ 1048576)
def OpenSpec.upto (s : _root_.Go.ChangeSpec) : _root_.Go.OpenSpec := { _root_.Go.OpenSpec.ofChange s with cond := some uptoSmall }

/-- 'castellanlaw09.DnParses', WHERE WHAT IT READS IS OF BULK AT MOST 1048576: true; the input reads as it did. -/
def dnParsesUptoRow : OpenClaim := { program := "ytahpemfnhepgoaa", sum := "578084bd0f8f8563f636f437aa9231d5b8826bb84c146cae1a9507a71f2e4eea", func := "castellan/castellanlaw09.DnParses", spec := "dnParses", inPlace := ["internal/bytealg.IndexByteString", "internal/bytealg.IndexString", "internal/abi.NoEscape", "internal/bytealg.MakeNoZero"], unfollowed := true, recurses := true, named := ["internal/bytealg.MaxLen"], apart := false, narrowed := true }
def DnParsesUptoSaid : Prop := dnParsesUptoRow.holds Try.pinned (OpenSpec.upto dnParsesSpec)

/-- 'castellanlaw09.DnPrints', WHERE WHAT IT READS IS OF BULK AT MOST 1048576: true; the input reads as it did. -/
def dnPrintsUptoRow : OpenClaim := { program := "ytahpemfnhepgoaa", sum := "578084bd0f8f8563f636f437aa9231d5b8826bb84c146cae1a9507a71f2e4eea", func := "castellan/castellanlaw09.DnPrints", spec := "dnPrints", inPlace := ["internal/bytealg.IndexByteString", "internal/abi.NoEscape", "internal/bytealg.MakeNoZero", "internal/bytealg.IndexString"], unfollowed := true, recurses := true, named := ["internal/bytealg.MaxLen"], apart := false, narrowed := true }
def DnPrintsUptoSaid : Prop := dnPrintsUptoRow.holds Try.pinned (OpenSpec.upto dnPrintsSpec)

/-- 'castellanlaw09.DnKeys', WHERE WHAT IT READS IS OF BULK AT MOST 1048576: true; the input reads as it did. -/
def dnKeysUptoRow : OpenClaim := { program := "ytahpemfnhepgoaa", sum := "578084bd0f8f8563f636f437aa9231d5b8826bb84c146cae1a9507a71f2e4eea", func := "castellan/castellanlaw09.DnKeys", spec := "dnKeys", inPlace := ["internal/bytealg.IndexByteString", "internal/bytealg.IndexString", "internal/abi.NoEscape", "internal/bytealg.MakeNoZero"], unfollowed := true, recurses := true, named := ["internal/bytealg.MaxLen"], apart := false, narrowed := true }
def DnKeysUptoSaid : Prop := dnKeysUptoRow.holds Try.pinned (OpenSpec.upto dnKeysSpec)

/-- 'castellanlaw09.DnBack', WHERE WHAT IT READS IS OF BULK AT MOST 1048576: true; the input reads as it did. -/
def dnBackUptoRow : OpenClaim := { program := "ytahpemfnhepgoaa", sum := "578084bd0f8f8563f636f437aa9231d5b8826bb84c146cae1a9507a71f2e4eea", func := "castellan/castellanlaw09.DnBack", spec := "dnBack", inPlace := ["internal/bytealg.IndexByteString", "internal/abi.NoEscape", "internal/bytealg.MakeNoZero", "internal/bytealg.IndexString"], unfollowed := true, recurses := true, named := ["internal/bytealg.MaxLen"], apart := false, narrowed := true }
def DnBackUptoSaid : Prop := dnBackUptoRow.holds Try.pinned (OpenSpec.upto dnBackSpec)

/-- 'castellanlaw09.DnAgain', WHERE WHAT IT READS IS OF BULK AT MOST 1048576: true; the input reads as it did. -/
def dnAgainUptoRow : OpenClaim := { program := "ytahpemfnhepgoaa", sum := "578084bd0f8f8563f636f437aa9231d5b8826bb84c146cae1a9507a71f2e4eea", func := "castellan/castellanlaw09.DnAgain", spec := "dnAgain", inPlace := ["internal/bytealg.IndexByteString", "internal/bytealg.IndexString", "internal/abi.NoEscape", "internal/bytealg.MakeNoZero"], unfollowed := true, recurses := true, named := ["internal/bytealg.MaxLen"], apart := false, narrowed := true }
def DnAgainUptoSaid : Prop := dnAgainUptoRow.holds Try.pinned (OpenSpec.upto dnAgainSpec)

/-- 'castellanlaw09.DnUnders', WHERE WHAT IT READS IS OF BULK AT MOST 1048576: true; the input reads as it did. -/
def dnUndersUptoRow : OpenClaim := { program := "ytahpemfnhepgoaa", sum := "578084bd0f8f8563f636f437aa9231d5b8826bb84c146cae1a9507a71f2e4eea", func := "castellan/castellanlaw09.DnUnders", spec := "dnUnders", inPlace := ["internal/bytealg.IndexByteString", "internal/abi.NoEscape", "internal/bytealg.MakeNoZero", "internal/bytealg.IndexString"], unfollowed := true, recurses := true, named := ["internal/bytealg.MaxLen"], apart := false, narrowed := true }
def DnUndersUptoSaid : Prop := dnUndersUptoRow.holds Try.pinned (OpenSpec.upto dnUndersSpec)

end Rows
end Go.Proofs.Ytahpemfnhepgoaa
