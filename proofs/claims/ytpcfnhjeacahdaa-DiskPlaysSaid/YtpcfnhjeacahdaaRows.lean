/-
  No cell of these rows narrows 'for every input' (looked for: loops, veiled, ifaces, maps, wideKeys, modest, calm, conditions, laid).
  DERIVED. THE GIVEN ROWS OF THIS SEAT. 9 by the template 'for every input the law returns true; each argument reads behind the call as it read before'; 0 by the template 'total and deterministic' (their statements: YtpcfnhjeacahdaaTotals.lean).
  GIVEN WITH THE SEED: the statements are not yours to turn. If you find one false, say at which input.
  Laid BY PROGRAM, IN A SANDBOX (cutbox-rows.mjs): the forced cells as the released guide's own fill.sh prints them over the translation 40467445c9bc8427… (all of the seat's roots in one cut). By AI agents, Wed Nov 11 2026. No macro, syntax, notation, axiom, sorry.
-/
import Derived.Test.YtpcfnhjeacahdaaChecked
import GoSem.Claim
import GoSem.ClaimJoined
import GoSem.ClaimMapViews
import Derived.JoinedTies
import Derived.KernelRfl
namespace Go.Proofs.Ytpcfnhjeacahdaa
/- THE CELL 'sum', in the pinned program and in every row, IS THE sha256 OF THE DUMP (.gsa) THAT YtpcfnhjeacahdaaProg.lean LOADS. Nothing in Lean hashes anything: it is a label: what it is worth is what the hold of that sum in a sandbox is worth. -/
noncomputable def Try.pinned : Pinned := { name := "ytpcfnhjeacahdaa", sum := "40467445c9bc8427d8db3da35a806ae5e3160b9ac155bf5eef049a6151ec3773", checked := Try.checked }
namespace Rows
def none {H : Type} : Left H := { results := [], args := [] }

/-- 'castellanlaw26.PageOnce': WHATEVER THE INPUT: true; the input reads as it did. -/
def pageOnceSpec : ChangeSpec := { name := "pageOnce", fn := fun _ => fun
  | [d1, d2] => { results := [.lit (.bool true)], args := [d1, d2] }
  | _ => none }
def pageOnceRow : OpenClaim := { program := "ytpcfnhjeacahdaa", sum := "40467445c9bc8427d8db3da35a806ae5e3160b9ac155bf5eef049a6151ec3773", func := "castellan/castellanlaw26.PageOnce", spec := "pageOnce", unfollowed := true, recurses := true, apart := false }
def PageOnceSaid : Prop := pageOnceRow.holds Try.pinned (OpenSpec.ofChange pageOnceSpec)

/-- ITS FALSE NEIGHBOUR: 'it returns false'. Refute it at one input. -/
def pageOnceWrong : ChangeSpec := { name := "pageOnce", fn := fun _ => fun
  | [d1, d2] => { results := [.lit (.bool false)], args := [d1, d2] }
  | _ => none }
def PageOnceWrongFalsely : Prop := pageOnceRow.holds Try.pinned (OpenSpec.ofChange pageOnceWrong)

/-- 'castellanlaw26.PagePlays': WHATEVER THE INPUT: true; the input reads as it did. -/
def pagePlaysSpec : ChangeSpec := { name := "pagePlays", fn := fun _ => fun
  | [d] => { results := [.lit (.bool true)], args := [d] }
  | _ => none }
def pagePlaysRow : OpenClaim := { program := "ytpcfnhjeacahdaa", sum := "40467445c9bc8427d8db3da35a806ae5e3160b9ac155bf5eef049a6151ec3773", func := "castellan/castellanlaw26.PagePlays", spec := "pagePlays", unfollowed := true, recurses := true, apart := false }
def PagePlaysSaid : Prop := pagePlaysRow.holds Try.pinned (OpenSpec.ofChange pagePlaysSpec)

/-- ITS FALSE NEIGHBOUR: 'it returns false'. Refute it at one input. -/
def pagePlaysWrong : ChangeSpec := { name := "pagePlays", fn := fun _ => fun
  | [d] => { results := [.lit (.bool false)], args := [d] }
  | _ => none }
def PagePlaysWrongFalsely : Prop := pagePlaysRow.holds Try.pinned (OpenSpec.ofChange pagePlaysWrong)

/-- 'castellanlaw26.PageNil': WHATEVER THE INPUT: true; the input reads as it did. -/
def pageNilSpec : ChangeSpec := { name := "pageNil", fn := fun _ => fun
  | [] => { results := [.lit (.bool true)], args := [] }
  | _ => none }
def pageNilRow : OpenClaim := { program := "ytpcfnhjeacahdaa", sum := "40467445c9bc8427d8db3da35a806ae5e3160b9ac155bf5eef049a6151ec3773", func := "castellan/castellanlaw26.PageNil", spec := "pageNil", unfollowed := true, recurses := true, apart := false }
def PageNilSaid : Prop := pageNilRow.holds Try.pinned (OpenSpec.ofChange pageNilSpec)

/-- ITS FALSE NEIGHBOUR: 'it returns false'. Refute it at one input. -/
def pageNilWrong : ChangeSpec := { name := "pageNil", fn := fun _ => fun
  | [] => { results := [.lit (.bool false)], args := [] }
  | _ => none }
def PageNilWrongFalsely : Prop := pageNilRow.holds Try.pinned (OpenSpec.ofChange pageNilWrong)

/-- 'castellanlaw05.DiskSizes': WHATEVER THE INPUT: true; the input reads as it did. -/
def diskSizesSpec : ChangeSpec := { name := "diskSizes", fn := fun _ => fun
  | [d1, d2] => { results := [.lit (.bool true)], args := [d1, d2] }
  | _ => none }
def diskSizesRow : OpenClaim := { program := "ytpcfnhjeacahdaa", sum := "40467445c9bc8427d8db3da35a806ae5e3160b9ac155bf5eef049a6151ec3773", func := "castellan/castellanlaw05.DiskSizes", spec := "diskSizes", inPlace := ["internal/abi.NoEscape", "internal/bytealg.MakeNoZero"], apart := false }
def DiskSizesSaid : Prop := diskSizesRow.holds Try.pinned (OpenSpec.ofChange diskSizesSpec)

/-- ITS FALSE NEIGHBOUR: 'it returns false'. Refute it at one input. -/
def diskSizesWrong : ChangeSpec := { name := "diskSizes", fn := fun _ => fun
  | [d1, d2] => { results := [.lit (.bool false)], args := [d1, d2] }
  | _ => none }
def DiskSizesWrongFalsely : Prop := diskSizesRow.holds Try.pinned (OpenSpec.ofChange diskSizesWrong)

/-- 'castellanlaw05.DiskLasts': WHATEVER THE INPUT: true; the input reads as it did. -/
def diskLastsSpec : ChangeSpec := { name := "diskLasts", fn := fun _ => fun
  | [d1, d2, d3] => { results := [.lit (.bool true)], args := [d1, d2, d3] }
  | _ => none }
def diskLastsRow : OpenClaim := { program := "ytpcfnhjeacahdaa", sum := "40467445c9bc8427d8db3da35a806ae5e3160b9ac155bf5eef049a6151ec3773", func := "castellan/castellanlaw05.DiskLasts", spec := "diskLasts", inPlace := ["internal/abi.NoEscape", "internal/bytealg.MakeNoZero"], apart := false }
def DiskLastsSaid : Prop := diskLastsRow.holds Try.pinned (OpenSpec.ofChange diskLastsSpec)

/-- ITS FALSE NEIGHBOUR: 'it returns false'. Refute it at one input. -/
def diskLastsWrong : ChangeSpec := { name := "diskLasts", fn := fun _ => fun
  | [d1, d2, d3] => { results := [.lit (.bool false)], args := [d1, d2, d3] }
  | _ => none }
def DiskLastsWrongFalsely : Prop := diskLastsRow.holds Try.pinned (OpenSpec.ofChange diskLastsWrong)

/-- 'castellanlaw05.DiskPlays': WHATEVER THE INPUT: true; the input reads as it did. -/
def diskPlaysSpec : ChangeSpec := { name := "diskPlays", fn := fun _ => fun
  | [d1, d2] => { results := [.lit (.bool true)], args := [d1, d2] }
  | _ => none }
def diskPlaysRow : OpenClaim := { program := "ytpcfnhjeacahdaa", sum := "40467445c9bc8427d8db3da35a806ae5e3160b9ac155bf5eef049a6151ec3773", func := "castellan/castellanlaw05.DiskPlays", spec := "diskPlays", inPlace := ["internal/abi.NoEscape", "internal/bytealg.MakeNoZero"], apart := false }
def DiskPlaysSaid : Prop := diskPlaysRow.holds Try.pinned (OpenSpec.ofChange diskPlaysSpec)

/-- ITS FALSE NEIGHBOUR: 'it returns false'. Refute it at one input. -/
def diskPlaysWrong : ChangeSpec := { name := "diskPlays", fn := fun _ => fun
  | [d1, d2] => { results := [.lit (.bool false)], args := [d1, d2] }
  | _ => none }
def DiskPlaysWrongFalsely : Prop := diskPlaysRow.holds Try.pinned (OpenSpec.ofChange diskPlaysWrong)

/-- 'castellanlaw05.DiskNil': WHATEVER THE INPUT: true; the input reads as it did. -/
def diskNilSpec : ChangeSpec := { name := "diskNil", fn := fun _ => fun
  | [] => { results := [.lit (.bool true)], args := [] }
  | _ => none }
def diskNilRow : OpenClaim := { program := "ytpcfnhjeacahdaa", sum := "40467445c9bc8427d8db3da35a806ae5e3160b9ac155bf5eef049a6151ec3773", func := "castellan/castellanlaw05.DiskNil", spec := "diskNil", inPlace := ["internal/abi.NoEscape", "internal/bytealg.MakeNoZero"], apart := false }
def DiskNilSaid : Prop := diskNilRow.holds Try.pinned (OpenSpec.ofChange diskNilSpec)

/-- ITS FALSE NEIGHBOUR: 'it returns false'. Refute it at one input. -/
def diskNilWrong : ChangeSpec := { name := "diskNil", fn := fun _ => fun
  | [] => { results := [.lit (.bool false)], args := [] }
  | _ => none }
def DiskNilWrongFalsely : Prop := diskNilRow.holds Try.pinned (OpenSpec.ofChange diskNilWrong)

/-- 'castellanlaw26.PageAsks': WHATEVER THE INPUT: true; the input reads as it did. -/
def pageAsksSpec : ChangeSpec := { name := "pageAsks", fn := fun _ => fun
  | [d1, d2, d3] => { results := [.lit (.bool true)], args := [d1, d2, d3] }
  | _ => none }
def pageAsksRow : OpenClaim := { program := "ytpcfnhjeacahdaa", sum := "40467445c9bc8427d8db3da35a806ae5e3160b9ac155bf5eef049a6151ec3773", func := "castellan/castellanlaw26.PageAsks", spec := "pageAsks", unfollowed := true, recurses := true, apart := false }
def PageAsksSaid : Prop := pageAsksRow.holds Try.pinned (OpenSpec.ofChange pageAsksSpec)

/-- ITS FALSE NEIGHBOUR: 'it returns false'. Refute it at one input. -/
def pageAsksWrong : ChangeSpec := { name := "pageAsks", fn := fun _ => fun
  | [d1, d2, d3] => { results := [.lit (.bool false)], args := [d1, d2, d3] }
  | _ => none }
def PageAsksWrongFalsely : Prop := pageAsksRow.holds Try.pinned (OpenSpec.ofChange pageAsksWrong)

/-- 'castellanlaw26.PageBack': WHATEVER THE INPUT: true; the input reads as it did. -/
def pageBackSpec : ChangeSpec := { name := "pageBack", fn := fun _ => fun
  | [d1, d2] => { results := [.lit (.bool true)], args := [d1, d2] }
  | _ => none }
def pageBackRow : OpenClaim := { program := "ytpcfnhjeacahdaa", sum := "40467445c9bc8427d8db3da35a806ae5e3160b9ac155bf5eef049a6151ec3773", func := "castellan/castellanlaw26.PageBack", spec := "pageBack", unfollowed := true, recurses := true, apart := false }
def PageBackSaid : Prop := pageBackRow.holds Try.pinned (OpenSpec.ofChange pageBackSpec)

/-- ITS FALSE NEIGHBOUR: 'it returns false'. Refute it at one input. -/
def pageBackWrong : ChangeSpec := { name := "pageBack", fn := fun _ => fun
  | [d1, d2] => { results := [.lit (.bool false)], args := [d1, d2] }
  | _ => none }
def PageBackWrongFalsely : Prop := pageBackRow.holds Try.pinned (OpenSpec.ofChange pageBackWrong)

/- THE SECOND FORM. 'bulk': how many values and letters a reading holds, each counted each time it is reached (what is shared counts as often as it is met; a slice's spare places count too). A statement '..UptoSaid' is the law's where the arguments, and the package variables that the reading takes, are together of bulk at most 1048576: NARROWER than '..Said'. Prove '..Said' where nothing that the law and all that it calls make is longer than what came in: it says more and counts as full. Else prove '..UptoSaid'. A law counts once. -/
mutual
def uptoBulk {H : Type} : DataW H → Nat
  | .lit (.string bytes) => bytes.length + 1
  | .lit _ => 1
  | .nil => 1
  | .ptr d => uptoBulk d + 1
  | .slice elems spare => uptoBulkAll elems + uptoBulkAll spare + 1
  | .agg parts => uptoBulkAll parts + 1
  | .iface _ d => uptoBulk d + 1
  | .map entries => uptoBulkEntries entries + 1
  | .held _ => 1
def uptoBulkAll {H : Type} : List (DataW H) → Nat
  | [] => 0
  | d :: r => uptoBulk d + uptoBulkAll r
def uptoBulkEntries {H : Type} : List (Lit × DataW H) → Nat
  | [] => 0
  | x :: r => uptoBulkEntry x + uptoBulkEntries r
def uptoBulkEntry {H : Type} : Lit × DataW H → Nat
  | (.string bytes, d) => bytes.length + uptoBulk d + 1
  | (_, d) => uptoBulk d + 1
 end
def uptoSmall : (H : Type) → List (DataW H) → Bool := fun _ ds => decide (uptoBulkAll ds ≤ 1048576)
def OpenSpec.upto (s : _root_.Go.ChangeSpec) : _root_.Go.OpenSpec := { _root_.Go.OpenSpec.ofChange s with cond := some uptoSmall }

/-- 'castellanlaw26.PageOnce', WHERE WHAT IT READS IS OF BULK AT MOST 1048576: true; the input reads as it did. -/
def pageOnceUptoRow : OpenClaim := { program := "ytpcfnhjeacahdaa", sum := "40467445c9bc8427d8db3da35a806ae5e3160b9ac155bf5eef049a6151ec3773", func := "castellan/castellanlaw26.PageOnce", spec := "pageOnce", unfollowed := true, recurses := true, apart := false, narrowed := true }
def PageOnceUptoSaid : Prop := pageOnceUptoRow.holds Try.pinned (OpenSpec.upto pageOnceSpec)

/-- 'castellanlaw26.PagePlays', WHERE WHAT IT READS IS OF BULK AT MOST 1048576: true; the input reads as it did. -/
def pagePlaysUptoRow : OpenClaim := { program := "ytpcfnhjeacahdaa", sum := "40467445c9bc8427d8db3da35a806ae5e3160b9ac155bf5eef049a6151ec3773", func := "castellan/castellanlaw26.PagePlays", spec := "pagePlays", unfollowed := true, recurses := true, apart := false, narrowed := true }
def PagePlaysUptoSaid : Prop := pagePlaysUptoRow.holds Try.pinned (OpenSpec.upto pagePlaysSpec)

/-- 'castellanlaw26.PageNil', WHERE WHAT IT READS IS OF BULK AT MOST 1048576: true; the input reads as it did. -/
def pageNilUptoRow : OpenClaim := { program := "ytpcfnhjeacahdaa", sum := "40467445c9bc8427d8db3da35a806ae5e3160b9ac155bf5eef049a6151ec3773", func := "castellan/castellanlaw26.PageNil", spec := "pageNil", unfollowed := true, recurses := true, apart := false, narrowed := true }
def PageNilUptoSaid : Prop := pageNilUptoRow.holds Try.pinned (OpenSpec.upto pageNilSpec)

/-- 'castellanlaw05.DiskSizes', WHERE WHAT IT READS IS OF BULK AT MOST 1048576: true; the input reads as it did. -/
def diskSizesUptoRow : OpenClaim := { program := "ytpcfnhjeacahdaa", sum := "40467445c9bc8427d8db3da35a806ae5e3160b9ac155bf5eef049a6151ec3773", func := "castellan/castellanlaw05.DiskSizes", spec := "diskSizes", inPlace := ["internal/abi.NoEscape", "internal/bytealg.MakeNoZero"], apart := false, narrowed := true }
def DiskSizesUptoSaid : Prop := diskSizesUptoRow.holds Try.pinned (OpenSpec.upto diskSizesSpec)

/-- 'castellanlaw05.DiskLasts', WHERE WHAT IT READS IS OF BULK AT MOST 1048576: true; the input reads as it did. -/
def diskLastsUptoRow : OpenClaim := { program := "ytpcfnhjeacahdaa", sum := "40467445c9bc8427d8db3da35a806ae5e3160b9ac155bf5eef049a6151ec3773", func := "castellan/castellanlaw05.DiskLasts", spec := "diskLasts", inPlace := ["internal/abi.NoEscape", "internal/bytealg.MakeNoZero"], apart := false, narrowed := true }
def DiskLastsUptoSaid : Prop := diskLastsUptoRow.holds Try.pinned (OpenSpec.upto diskLastsSpec)

/-- 'castellanlaw05.DiskPlays', WHERE WHAT IT READS IS OF BULK AT MOST 1048576: true; the input reads as it did. -/
def diskPlaysUptoRow : OpenClaim := { program := "ytpcfnhjeacahdaa", sum := "40467445c9bc8427d8db3da35a806ae5e3160b9ac155bf5eef049a6151ec3773", func := "castellan/castellanlaw05.DiskPlays", spec := "diskPlays", inPlace := ["internal/abi.NoEscape", "internal/bytealg.MakeNoZero"], apart := false, narrowed := true }
def DiskPlaysUptoSaid : Prop := diskPlaysUptoRow.holds Try.pinned (OpenSpec.upto diskPlaysSpec)

/-- 'castellanlaw05.DiskNil', WHERE WHAT IT READS IS OF BULK AT MOST 1048576: true; the input reads as it did. -/
def diskNilUptoRow : OpenClaim := { program := "ytpcfnhjeacahdaa", sum := "40467445c9bc8427d8db3da35a806ae5e3160b9ac155bf5eef049a6151ec3773", func := "castellan/castellanlaw05.DiskNil", spec := "diskNil", inPlace := ["internal/abi.NoEscape", "internal/bytealg.MakeNoZero"], apart := false, narrowed := true }
def DiskNilUptoSaid : Prop := diskNilUptoRow.holds Try.pinned (OpenSpec.upto diskNilSpec)

/-- 'castellanlaw26.PageAsks', WHERE WHAT IT READS IS OF BULK AT MOST 1048576: true; the input reads as it did. -/
def pageAsksUptoRow : OpenClaim := { program := "ytpcfnhjeacahdaa", sum := "40467445c9bc8427d8db3da35a806ae5e3160b9ac155bf5eef049a6151ec3773", func := "castellan/castellanlaw26.PageAsks", spec := "pageAsks", unfollowed := true, recurses := true, apart := false, narrowed := true }
def PageAsksUptoSaid : Prop := pageAsksUptoRow.holds Try.pinned (OpenSpec.upto pageAsksSpec)

/-- 'castellanlaw26.PageBack', WHERE WHAT IT READS IS OF BULK AT MOST 1048576: true; the input reads as it did. -/
def pageBackUptoRow : OpenClaim := { program := "ytpcfnhjeacahdaa", sum := "40467445c9bc8427d8db3da35a806ae5e3160b9ac155bf5eef049a6151ec3773", func := "castellan/castellanlaw26.PageBack", spec := "pageBack", unfollowed := true, recurses := true, apart := false, narrowed := true }
def PageBackUptoSaid : Prop := pageBackUptoRow.holds Try.pinned (OpenSpec.upto pageBackSpec)

end Rows
end Go.Proofs.Ytpcfnhjeacahdaa
