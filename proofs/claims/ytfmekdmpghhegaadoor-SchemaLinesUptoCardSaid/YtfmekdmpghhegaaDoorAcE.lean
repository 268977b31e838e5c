/- The document's schema: castellanref13.types, Core, At; schema.like, book.kind, Find. -/
import Derived.Test.YtfmekdmpghhegaaDoorAcM
import Derived.Test.YtfmekdmpghhegaaDoorLtN
namespace Go.Proofs.YtfmekdmpghhegaaDoor
set_option linter.all false
set_option maxRecDepth 4000
open Go.RowKit

abbrev Ty4 := List UInt8 × Int × Bool × Bool
def tyR (l : List Ty4) : List (List Value) := l.map fun t => [str t.1, .int .i64 t.2.1, .bool t.2.2.1, .bool t.2.2.2]
theorem tyR_length (l : List Ty4) : (tyR l).length = l.length := by simp [tyR]
theorem tyR_app (a b : List Ty4) : tyR (a ++ b) = tyR a ++ tyR b := by simp [tyR]
theorem tyR_get {l : List Ty4} {i : Nat} {t : Ty4} (h : l[i]? = some t) : (tyR l)[i]? = some [str t.1, .int .i64 t.2.1, .bool t.2.2.1, .bool t.2.2.2] := by simp [tyR, h]
def TyOk4 (l : List Ty4) : Prop := ∀ t ∈ l, t.1.length <= 100000000
theorem callLike : Callable Tryd.prog 30 := ⟨_, Tryd.func30, by kernel_rfl, rfl⟩
theorem callKind1 : Callable Tryd.prog 35 := ⟨_, Tryd.func35, by kernel_rfl, rfl⟩
theorem callIdxTy : Callable Tryd.prog 34 := ⟨_, Tryd.func34, by kernel_rfl, rfl⟩
theorem callKind : Callable Tryd.prog 23 := ⟨_, Tryd.func23, by kernel_rfl, rfl⟩
theorem schema_like (a b : List UInt8) (ha : a.length <= 100000000) (hb : b.length <= 100000000) (h : Heap) : Spec Tryd.prog 30 [str a, str b] h [] (fun u _ H' => u = .bool (sameT a b) /\ H' = []) := by
  unfold sameT
  refine Spec.enter Tryd.func30 rfl rfl ?_; intro w0
  repeat' (first | (show G _ (.ops .seq _ (⟨some _, .call { callee := .value (.func 21), args := _, argTypes := _ }, _, _, _, none⟩ :: _) :: _) _ _ _; refine G.call callFold rfl rfl (octet_Fold a ha _) Ze ?_; rintro _ h2 H2 ⟨rfl, rfl⟩ hle2) | (show G _ (.ops .seq _ (⟨some _, .call { callee := .value (.func 21), args := _, argTypes := _ }, _, _, _, none⟩ :: _) :: _) _ _ _; refine G.call callFold rfl rfl (octet_Fold b hb _) Ze ?_; rintro _ h3 H3 ⟨rfl, rfl⟩ hle3) | (refine G.atCode ?_; first | refine G.seq ?_ | refine G.region ?_ | refine G.ret ?_) | refine G.endOps ?_ | (refine G.atBin ?_; first | (refine G.atEql ?_; first | refine G.eqStr rfl rfl rfl ?_)) | refine G.op rfl rfl ?_)
  all_goals exact G.done1 rfl rfl [] (SubH.nil _) ⟨rfl, rfl⟩
theorem schema_kind1 (t : Ty4) (w : List UInt8) (ht : t.1.length <= 100000000) (hw : w.length <= 100000000) (g : Nat) (h : Heap) :
    Spec Tryd.prog 35 [.agg #[str t.1, .int .i64 t.2.1, .bool t.2.2.1, .bool t.2.2.2], .pointer (some ⟨g, 0, none⟩)] h [.blk g [str w] 9] (fun u _ H' => u = .bool (sameT t.1 w) /\ H' = [.blk g [str w] 9]) := by
  refine Spec.enter Tryd.func35 rfl rfl ?_; intro w0
  repeat' (first | (show G _ (.ops .seq _ (⟨some _, .call { callee := .value (.func 30), args := _, argTypes := _ }, _, _, _, none⟩ :: _) :: _) _ _ _; refine G.call callLike rfl rfl (schema_like t.1 w ht hw _) Ze ?_; rintro _ h2 H2 ⟨rfl, rfl⟩ hle2) | (refine G.atCode ?_; first | refine G.seq ?_ | refine G.region ?_ | refine G.ret ?_) | refine G.endOps ?_ | refine G.op rfl rfl ?_ | (refine G.atLoad ?_; first | refine G.loadOwn1 rfl (tyy rfl) rfl rfl Za rfl rfl ?_) | (refine G.atFld ?_; first | refine G.fieldAddr rfl (tyy rfl) rfl rfl ?_) | (refine G.atBox ?_; refine G.box rfl rfl rfl ?_; intro _))
  all_goals (refine G.done1 rfl rfl _ ?_ ⟨rfl, rfl⟩; solve | (apply Takes.sub; (repeat (first | apply Takes.nil | apply Take.hd | apply Take.tl | apply Takes.cons))))
def tyB (syn : Int) (names : List (List UInt8)) : List Ty4 := names.map fun n => (n, syn, false, false)
end Go.Proofs.YtfmekdmpghhegaaDoor
namespace Go.Proofs.YtfmekdmpghhegaaDoor
set_option linter.all false
set_option maxRecDepth 4000
open Go.RowKit

abbrev Cls := List UInt8 × List UInt8 × Int × List (List UInt8) × List (List UInt8)
def ClsC (h : Heap) : List Cls -> List (List Value) -> Prop
  | [], rows => rows = []
  | x :: l, rows => ∃ vm vy rs, rows = [str x.1, str x.2.1, .int .i64 x.2.2.1, vm, vy] :: rs /\ HSl h vm 1 (strsR x.2.2.2.1) /\ HSl h vy 1 (strsR x.2.2.2.2) /\ ClsC h l rs
theorem ClsC.mono {h h' : Heap} (hl : Heap.le h h') : ∀ {l : List Cls} {rows : List (List Value)}, ClsC h l rows -> ClsC h' l rows
  | [], _, hr => hr
  | x :: l, _, hr => by
    obtain ⟨vm, vy, rs, e, h1, h2, h4⟩ := hr
    exact ⟨vm, vy, rs, e, h1.mono hl, h2.mono hl, h4.mono hl⟩
theorem ClsC.len {h : Heap} : ∀ {l : List Cls} {rows : List (List Value)}, ClsC h l rows -> rows.length = l.length
  | [], _, hr => by rw [show _ = ([] : List (List Value)) from hr]; rfl
  | x :: l, _, hr => by
    obtain ⟨vm, vy, rs, rfl, _, _, h4⟩ := hr
    simp [h4.len]
theorem ClsC.append {h : Heap} : ∀ {a b : List Cls} {ra rb : List (List Value)}, ClsC h a ra -> ClsC h b rb -> ClsC h (a ++ b) (ra ++ rb)
  | [], b, ra, rb, ha, hb => by rw [show ra = [] from ha]; exact hb
  | x :: l, b, ra, rb, ha, hb => by
    obtain ⟨vm, vy, rs, rfl, h1, h2, h4⟩ := ha
    exact ⟨vm, vy, rs ++ rb, rfl, h1, h2, h4.append hb⟩
theorem ClsC.one {h : Heap} {x : Cls} {vm vy : Value} (h1 : HSl h vm 1 (strsR x.2.2.2.1)) (h2 : HSl h vy 1 (strsR x.2.2.2.2)) : ClsC h [x] [[str x.1, str x.2.1, .int .i64 x.2.2.1, vm, vy]] := ⟨vm, vy, [], rfl, h1, h2, rfl⟩
def coreF : List (List UInt8) := [[99, 114, 101, 97, 116, 101, 100, 65, 116], [99, 104, 97, 110, 103, 101, 100, 65, 116], [112, 119, 100, 70, 97, 105, 108, 117, 114, 101], [112, 119, 100, 76, 111, 99, 107, 101, 100], [112, 119, 100, 67, 104, 97, 110, 103, 101, 100]]
def core0 : List Ty4 := [] ++ tyB 3 [[111, 98, 106, 101, 99, 116, 67, 108, 97, 115, 115]] ++ tyB 1 [[99, 110], [115, 110], [111, 117], [111]] ++ tyB 3 [[100, 99], [117, 105, 100], [109, 97, 105, 108]] ++ tyB 1 [[100, 101, 115, 99, 114, 105, 112, 116, 105, 111, 110]] ++ tyB 6 [[109, 101, 109, 98, 101, 114]] ++ tyB 7 [[117, 115, 101, 114, 80, 97, 115, 115, 119, 111, 114, 100]]
def coreA : List Ty4 := core0 ++ [([101, 109, 112, 108, 111, 121, 101, 101, 78, 117, 109, 98, 101, 114], 4, true, false)] ++ [([97, 99, 116, 105, 118, 101], 5, true, false)]
def coreOne (n : List UInt8) : Ty4 := if n = [112, 119, 100, 70, 97, 105, 108, 117, 114, 101] then (n, 3, false, true) else (n, 4, true, true)
def coreT : List Ty4 := coreA ++ coreF.map coreOne
def coreC0 : Cls := ([116, 111, 112], [], 0, [[111, 98, 106, 101, 99, 116, 67, 108, 97, 115, 115]], [[99, 114, 101, 97, 116, 101, 100, 65, 116], [99, 104, 97, 110, 103, 101, 100, 65, 116], [112, 119, 100, 70, 97, 105, 108, 117, 114, 101], [112, 119, 100, 76, 111, 99, 107, 101, 100], [112, 119, 100, 67, 104, 97, 110, 103, 101, 100]])
def coreC1 : Cls := ([100, 111, 109, 97, 105, 110], [116, 111, 112], 1, [[100, 99]], [[100, 101, 115, 99, 114, 105, 112, 116, 105, 111, 110]])
def coreC2 : Cls := ([111, 114, 103, 97, 110, 105, 122, 97, 116, 105, 111, 110], [116, 111, 112], 1, [[111]], [[100, 101, 115, 99, 114, 105, 112, 116, 105, 111, 110]])
def coreC3 : Cls := ([111, 114, 103, 97, 110, 105, 122, 97, 116, 105, 111, 110, 97, 108, 85, 110, 105, 116], [116, 111, 112], 1, [[111, 117]], [[100, 101, 115, 99, 114, 105, 112, 116, 105, 111, 110]])
def coreC4 : Cls := ([112, 101, 114, 115, 111, 110], [116, 111, 112], 1, [[99, 110], [115, 110]], [[100, 101, 115, 99, 114, 105, 112, 116, 105, 111, 110], [117, 115, 101, 114, 80, 97, 115, 115, 119, 111, 114, 100]])
def coreC5 : Cls := ([105, 110, 101, 116, 80, 101, 114, 115, 111, 110], [112, 101, 114, 115, 111, 110], 1, [], [[117, 105, 100], [109, 97, 105, 108], [101, 109, 112, 108, 111, 121, 101, 101, 78, 117, 109, 98, 101, 114], [97, 99, 116, 105, 118, 101]])
def coreC6 : Cls := ([103, 114, 111, 117, 112], [116, 111, 112], 1, [[99, 110], [109, 101, 109, 98, 101, 114]], [[100, 101, 115, 99, 114, 105, 112, 116, 105, 111, 110]])
def coreC7 : Cls := ([115, 101, 99, 117, 114, 101, 100], [116, 111, 112], 2, [[117, 115, 101, 114, 80, 97, 115, 115, 119, 111, 114, 100]], [])
def coreC8 : Cls := ([108, 97, 98, 101, 108, 108, 101, 100], [116, 111, 112], 2, [], [[117, 105, 100], [109, 97, 105, 108]])
def coreC : List Cls := [] ++ [coreC0] ++ [coreC1] ++ [coreC2] ++ [coreC3] ++ [coreC4] ++ [coreC5] ++ [coreC6] ++ [coreC7] ++ [coreC8]
end Go.Proofs.YtfmekdmpghhegaaDoor
