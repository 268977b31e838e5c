/- castellanref13.Core. -/
import Derived.Test.YtfmekdmpghhegaaAcA
namespace Go.Proofs.Ytfmekdmpghhegaa
set_option linter.all false
set_option maxRecDepth 4000
open Go.RowKit

abbrev Cls := List UInt8 × List UInt8 × Int × List (List UInt8) × List (List UInt8)
def ClsC (h : Heap) : List Cls -> List (List Value) -> Prop
  | [], rows => rows = []
  | x :: l, rows => ∃ vm vy rs, rows = [str x.1, str x.2.1, .int .i64 x.2.2.1, vm, vy] :: rs /\ HSl h vm 1 (strsR x.2.2.2.1) /\ HSl h vy 1 (strsR x.2.2.2.2) /\ ClsC h l rs
theorem ClsC.mono {h h' : Heap} (hl : Heap.le h h') : ∀ {l : List Cls} {rows : List (List Value)}, ClsC h l rows -> ClsC h' l rows
  | [], _, hr => hr
  | x :: l, _, hr => by
    obtain ⟨vm, vy, rs, e, h1, h2, h4⟩ := hr
    exact ⟨vm, vy, rs, e, h1.mono hl, h2.mono hl, h4.mono hl⟩
theorem ClsC.len {h : Heap} : ∀ {l : List Cls} {rows : List (List Value)}, ClsC h l rows -> rows.length = l.length
  | [], _, hr => by rw [show _ = ([] : List (List Value)) from hr]; rfl
  | x :: l, _, hr => by
    obtain ⟨vm, vy, rs, rfl, _, _, h4⟩ := hr
    simp [h4.len]
theorem ClsC.append {h : Heap} : ∀ {a b : List Cls} {ra rb : List (List Value)}, ClsC h a ra -> ClsC h b rb -> ClsC h (a ++ b) (ra ++ rb)
  | [], b, ra, rb, ha, hb => by rw [show ra = [] from ha]; exact hb
  | x :: l, b, ra, rb, ha, hb => by
    obtain ⟨vm, vy, rs, rfl, h1, h2, h4⟩ := ha
    exact ⟨vm, vy, rs ++ rb, rfl, h1, h2, h4.append hb⟩
theorem ClsC.one {h : Heap} {x : Cls} {vm vy : Value} (h1 : HSl h vm 1 (strsR x.2.2.2.1)) (h2 : HSl h vy 1 (strsR x.2.2.2.2)) : ClsC h [x] [[str x.1, str x.2.1, .int .i64 x.2.2.1, vm, vy]] := ⟨vm, vy, [], rfl, h1, h2, rfl⟩
def coreF : List (List UInt8) := [[99, 114, 101, 97, 116, 101, 100, 65, 116], [99, 104, 97, 110, 103, 101, 100, 65, 116], [112, 119, 100, 70, 97, 105, 108, 117, 114, 101], [112, 119, 100, 76, 111, 99, 107, 101, 100], [112, 119, 100, 67, 104, 97, 110, 103, 101, 100]]
def core0 : List Ty4 := [] ++ tyB 3 [[111, 98, 106, 101, 99, 116, 67, 108, 97, 115, 115]] ++ tyB 1 [[99, 110], [115, 110], [111, 117], [111]] ++ tyB 3 [[100, 99], [117, 105, 100], [109, 97, 105, 108]] ++ tyB 1 [[100, 101, 115, 99, 114, 105, 112, 116, 105, 111, 110]] ++ tyB 6 [[109, 101, 109, 98, 101, 114]] ++ tyB 7 [[117, 115, 101, 114, 80, 97, 115, 115, 119, 111, 114, 100]]
def coreA : List Ty4 := core0 ++ [([101, 109, 112, 108, 111, 121, 101, 101, 78, 117, 109, 98, 101, 114], 4, true, false)] ++ [([97, 99, 116, 105, 118, 101], 5, true, false)]
def coreOne (n : List UInt8) : Ty4 := if n = [112, 119, 100, 70, 97, 105, 108, 117, 114, 101] then (n, 3, false, true) else (n, 4, true, true)
def coreT : List Ty4 := coreA ++ coreF.map coreOne
def coreC0 : Cls := ([116, 111, 112], [], 0, [[111, 98, 106, 101, 99, 116, 67, 108, 97, 115, 115]], [[99, 114, 101, 97, 116, 101, 100, 65, 116], [99, 104, 97, 110, 103, 101, 100, 65, 116], [112, 119, 100, 70, 97, 105, 108, 117, 114, 101], [112, 119, 100, 76, 111, 99, 107, 101, 100], [112, 119, 100, 67, 104, 97, 110, 103, 101, 100]])
def coreC1 : Cls := ([100, 111, 109, 97, 105, 110], [116, 111, 112], 1, [[100, 99]], [[100, 101, 115, 99, 114, 105, 112, 116, 105, 111, 110]])
def coreC2 : Cls := ([111, 114, 103, 97, 110, 105, 122, 97, 116, 105, 111, 110], [116, 111, 112], 1, [[111]], [[100, 101, 115, 99, 114, 105, 112, 116, 105, 111, 110]])
def coreC3 : Cls := ([111, 114, 103, 97, 110, 105, 122, 97, 116, 105, 111, 110, 97, 108, 85, 110, 105, 116], [116, 111, 112], 1, [[111, 117]], [[100, 101, 115, 99, 114, 105, 112, 116, 105, 111, 110]])
def coreC4 : Cls := ([112, 101, 114, 115, 111, 110], [116, 111, 112], 1, [[99, 110], [115, 110]], [[100, 101, 115, 99, 114, 105, 112, 116, 105, 111, 110], [117, 115, 101, 114, 80, 97, 115, 115, 119, 111, 114, 100]])
def coreC5 : Cls := ([105, 110, 101, 116, 80, 101, 114, 115, 111, 110], [112, 101, 114, 115, 111, 110], 1, [], [[117, 105, 100], [109, 97, 105, 108], [101, 109, 112, 108, 111, 121, 101, 101, 78, 117, 109, 98, 101, 114], [97, 99, 116, 105, 118, 101]])
def coreC6 : Cls := ([103, 114, 111, 117, 112], [116, 111, 112], 1, [[99, 110], [109, 101, 109, 98, 101, 114]], [[100, 101, 115, 99, 114, 105, 112, 116, 105, 111, 110]])
def coreC7 : Cls := ([115, 101, 99, 117, 114, 101, 100], [116, 111, 112], 2, [[117, 115, 101, 114, 80, 97, 115, 115, 119, 111, 114, 100]], [])
def coreC8 : Cls := ([108, 97, 98, 101, 108, 108, 101, 100], [116, 111, 112], 2, [], [[117, 105, 100], [109, 97, 105, 108]])
def coreC : List Cls := [] ++ [coreC0] ++ [coreC1] ++ [coreC2] ++ [coreC3] ++ [coreC4] ++ [coreC5] ++ [coreC6] ++ [coreC7] ++ [coreC8]
theorem coreF_take {i : Nat} {s : List UInt8} (h : coreF[i]? = some s) : coreA ++ (coreF.take (i + 1)).map coreOne = coreA ++ (coreF.take i).map coreOne ++ [coreOne s] := by
  obtain ⟨hlt, he⟩ := List.getElem?_eq_some_iff.1 h
  rw [List.take_succ_eq_append_getElem hlt, he, List.map_append, List.append_assoc]; rfl
set_option maxHeartbeats 16000000 in
theorem ref13_Core (h : Heap) : Spec Try.prog 20 [] h [] (fun u h' H' => (∃ vT vC rc, u = .agg #[vT, vC] /\ HSl h' vT 4 (tyR coreT) /\ HSl h' vC 5 rc /\ ClsC h' coreC rc) /\ H' = []) := by
  refine Spec.enter Try.func20 rfl rfl ?_; intro w0
  refine G.nilRow 49 4 ?_
  refine G.nilRow 31 5 ?_
  repeat' (first | (refine G.atCode ?_; first | refine G.seq ?_ | refine G.region ?_) | refine G.endOps ?_ | (refine G.atLoad ?_; first | refine G.loadOwn1 rfl (tyy rfl) rfl rfl Za rfl rfl ?_) | (refine G.atFld ?_; first | refine G.fieldAddr rfl (tyy rfl) rfl rfl ?_) | (refine G.atAlc ?_; refine G.alloc (tyy rfl) rfl rfl ?_; intro _) | (refine G.atBsl ?_; refine G.buildSlice (tyy rfl) (tyy rfl) rfl rfl rfl rfl ?_; intro _))
  rename_i gO gS gN0
  show G _ (.ops .seq _ (⟨some _, .call { callee := .value (.func 41), args := _, argTypes := _ }, _, _, _, none⟩ :: _) :: _) _ _ _
  refine G.freezeBlk Take.hd ?_
  intro hf0 hle0 hc0
  refine G.call callTypes13 rfl rfl (ref13_types ([]) 3 [[111, 98, 106, 101, 99, 116, 67, 108, 97, 115, 115]] (by decide) _ _ _ (HSl.ofBlk1 (rows := strsR [[111, 98, 106, 101, 99, 116, 67, 108, 97, 115, 115]]) (n := 1) hc0 (rowed_strs _) rfl (by decide))) Ze ?_
  rintro v0 hz0 Hz0 rfl hlz0
  refine G.rowForm Take.hd ?_
  rintro A0 c0 rfl
  repeat' (first | (refine G.atCode ?_; first | refine G.seq ?_ | refine G.region ?_) | refine G.endOps ?_ | (refine G.atLoad ?_; first | refine G.loadOwn1 rfl (tyy rfl) rfl rfl Za rfl rfl ?_) | (refine G.atFld ?_; first | refine G.fieldAddr rfl (tyy rfl) rfl rfl ?_) | (refine G.atSto ?_; refine G.storeOwn rfl rfl (tyy rfl) Za rfl rfl rfl rfl ?_) | (refine G.atBsl ?_; refine G.buildSlice (tyy rfl) (tyy rfl) rfl rfl rfl rfl ?_; intro _))
  show G _ (.ops .seq _ (⟨some _, .call { callee := .value (.func 41), args := _, argTypes := _ }, _, _, _, none⟩ :: _) :: _) _ _ _
  refine G.freezeBlk Take.hd ?_
  intro hf1 hle1 hc1
  refine G.call callTypes13 rfl rfl (ref13_types ([] ++ tyB 3 [[111, 98, 106, 101, 99, 116, 67, 108, 97, 115, 115]]) 1 [[99, 110], [115, 110], [111, 117], [111]] (by decide) _ _ _ (HSl.ofBlk1 (rows := strsR [[99, 110], [115, 110], [111, 117], [111]]) (n := 4) hc1 (rowed_strs _) rfl (by decide))) Ze ?_
  rintro v1 hz1 Hz1 rfl hlz1
  refine G.rowForm Take.hd ?_
  rintro A1 c1 rfl
  repeat' (first | (refine G.atCode ?_; first | refine G.seq ?_ | refine G.region ?_) | refine G.endOps ?_ | (refine G.atLoad ?_; first | refine G.loadOwn1 rfl (tyy rfl) rfl rfl Za rfl rfl ?_) | (refine G.atFld ?_; first | refine G.fieldAddr rfl (tyy rfl) rfl rfl ?_) | (refine G.atSto ?_; refine G.storeOwn rfl rfl (tyy rfl) Za rfl rfl rfl rfl ?_) | (refine G.atBsl ?_; refine G.buildSlice (tyy rfl) (tyy rfl) rfl rfl rfl rfl ?_; intro _))
  show G _ (.ops .seq _ (⟨some _, .call { callee := .value (.func 41), args := _, argTypes := _ }, _, _, _, none⟩ :: _) :: _) _ _ _
  refine G.freezeBlk Take.hd ?_
  intro hf2 hle2 hc2
  refine G.call callTypes13 rfl rfl (ref13_types ([] ++ tyB 3 [[111, 98, 106, 101, 99, 116, 67, 108, 97, 115, 115]] ++ tyB 1 [[99, 110], [115, 110], [111, 117], [111]]) 3 [[100, 99], [117, 105, 100], [109, 97, 105, 108]] (by decide) _ _ _ (HSl.ofBlk1 (rows := strsR [[100, 99], [117, 105, 100], [109, 97, 105, 108]]) (n := 3) hc2 (rowed_strs _) rfl (by decide))) Ze ?_
  rintro v2 hz2 Hz2 rfl hlz2
  refine G.rowForm Take.hd ?_
  rintro A2 c2 rfl
  repeat' (first | (refine G.atCode ?_; first | refine G.seq ?_ | refine G.region ?_) | refine G.endOps ?_ | (refine G.atLoad ?_; first | refine G.loadOwn1 rfl (tyy rfl) rfl rfl Za rfl rfl ?_) | (refine G.atFld ?_; first | refine G.fieldAddr rfl (tyy rfl) rfl rfl ?_) | (refine G.atSto ?_; refine G.storeOwn rfl rfl (tyy rfl) Za rfl rfl rfl rfl ?_) | (refine G.atBsl ?_; refine G.buildSlice (tyy rfl) (tyy rfl) rfl rfl rfl rfl ?_; intro _))
  show G _ (.ops .seq _ (⟨some _, .call { callee := .value (.func 41), args := _, argTypes := _ }, _, _, _, none⟩ :: _) :: _) _ _ _
  refine G.freezeBlk Take.hd ?_
  intro hf3 hle3 hc3
  refine G.call callTypes13 rfl rfl (ref13_types ([] ++ tyB 3 [[111, 98, 106, 101, 99, 116, 67, 108, 97, 115, 115]] ++ tyB 1 [[99, 110], [115, 110], [111, 117], [111]] ++ tyB 3 [[100, 99], [117, 105, 100], [109, 97, 105, 108]]) 1 [[100, 101, 115, 99, 114, 105, 112, 116, 105, 111, 110]] (by decide) _ _ _ (HSl.ofBlk1 (rows := strsR [[100, 101, 115, 99, 114, 105, 112, 116, 105, 111, 110]]) (n := 1) hc3 (rowed_strs _) rfl (by decide))) Ze ?_
  rintro v3 hz3 Hz3 rfl hlz3
  refine G.rowForm Take.hd ?_
  rintro A3 c3 rfl
  repeat' (first | (refine G.atCode ?_; first | refine G.seq ?_ | refine G.region ?_) | refine G.endOps ?_ | (refine G.atLoad ?_; first | refine G.loadOwn1 rfl (tyy rfl) rfl rfl Za rfl rfl ?_) | (refine G.atFld ?_; first | refine G.fieldAddr rfl (tyy rfl) rfl rfl ?_) | (refine G.atSto ?_; refine G.storeOwn rfl rfl (tyy rfl) Za rfl rfl rfl rfl ?_) | (refine G.atBsl ?_; refine G.buildSlice (tyy rfl) (tyy rfl) rfl rfl rfl rfl ?_; intro _))
  show G _ (.ops .seq _ (⟨some _, .call { callee := .value (.func 41), args := _, argTypes := _ }, _, _, _, none⟩ :: _) :: _) _ _ _
  refine G.freezeBlk Take.hd ?_
  intro hf4 hle4 hc4
  refine G.call callTypes13 rfl rfl (ref13_types ([] ++ tyB 3 [[111, 98, 106, 101, 99, 116, 67, 108, 97, 115, 115]] ++ tyB 1 [[99, 110], [115, 110], [111, 117], [111]] ++ tyB 3 [[100, 99], [117, 105, 100], [109, 97, 105, 108]] ++ tyB 1 [[100, 101, 115, 99, 114, 105, 112, 116, 105, 111, 110]]) 6 [[109, 101, 109, 98, 101, 114]] (by decide) _ _ _ (HSl.ofBlk1 (rows := strsR [[109, 101, 109, 98, 101, 114]]) (n := 1) hc4 (rowed_strs _) rfl (by decide))) Ze ?_
  rintro v4 hz4 Hz4 rfl hlz4
  refine G.rowForm Take.hd ?_
  rintro A4 c4 rfl
  repeat' (first | (refine G.atCode ?_; first | refine G.seq ?_ | refine G.region ?_) | refine G.endOps ?_ | (refine G.atLoad ?_; first | refine G.loadOwn1 rfl (tyy rfl) rfl rfl Za rfl rfl ?_) | (refine G.atFld ?_; first | refine G.fieldAddr rfl (tyy rfl) rfl rfl ?_) | (refine G.atSto ?_; refine G.storeOwn rfl rfl (tyy rfl) Za rfl rfl rfl rfl ?_) | (refine G.atBsl ?_; refine G.buildSlice (tyy rfl) (tyy rfl) rfl rfl rfl rfl ?_; intro _))
  show G _ (.ops .seq _ (⟨some _, .call { callee := .value (.func 41), args := _, argTypes := _ }, _, _, _, none⟩ :: _) :: _) _ _ _
  refine G.freezeBlk Take.hd ?_
  intro hf5 hle5 hc5
  refine G.call callTypes13 rfl rfl (ref13_types ([] ++ tyB 3 [[111, 98, 106, 101, 99, 116, 67, 108, 97, 115, 115]] ++ tyB 1 [[99, 110], [115, 110], [111, 117], [111]] ++ tyB 3 [[100, 99], [117, 105, 100], [109, 97, 105, 108]] ++ tyB 1 [[100, 101, 115, 99, 114, 105, 112, 116, 105, 111, 110]] ++ tyB 6 [[109, 101, 109, 98, 101, 114]]) 7 [[117, 115, 101, 114, 80, 97, 115, 115, 119, 111, 114, 100]] (by decide) _ _ _ (HSl.ofBlk1 (rows := strsR [[117, 115, 101, 114, 80, 97, 115, 115, 119, 111, 114, 100]]) (n := 1) hc5 (rowed_strs _) rfl (by decide))) Ze ?_
  rintro v5 hz5 Hz5 rfl hlz5
  refine G.rowForm Take.hd ?_
  rintro A5 c5 rfl
  have e0 : [] ++ tyB 3 [[111, 98, 106, 101, 99, 116, 67, 108, 97, 115, 115]] ++ tyB 1 [[99, 110], [115, 110], [111, 117], [111]] ++ tyB 3 [[100, 99], [117, 105, 100], [109, 97, 105, 108]] ++ tyB 1 [[100, 101, 115, 99, 114, 105, 112, 116, 105, 111, 110]] ++ tyB 6 [[109, 101, 109, 98, 101, 114]] ++ tyB 7 [[117, 115, 101, 114, 80, 97, 115, 115, 119, 111, 114, 100]] = core0 := rfl
  rw [e0]
  have l0 : (tyR core0).length = 11 := rfl
  rw [l0]
  repeat' (first | (refine G.atApp ?_; refine G.append1 rfl rfl (tyy rfl) (tyy rfl) rfl rfl Za Za rfl rfl rfl (by rw [l0]; decide) ?_; intro _; refine G.rowForm Take.hd ?_; rintro _ _ rfl) | (refine G.atCode ?_; refine G.stopLoop ?_) | (refine G.atCode ?_; first | refine G.seq ?_ | refine G.region ?_ | refine G.block ?_) | refine G.endOps ?_ | refine G.op rfl rfl ?_ | (refine G.atLen ?_; first | refine G.lenSlice rfl (tyy rfl) rfl ?_) | (refine G.atLoad ?_; first | refine G.loadOwn1 rfl (tyy rfl) rfl rfl Za rfl rfl ?_) | (refine G.atFld ?_; first | refine G.fieldAddr rfl (tyy rfl) rfl rfl ?_) | (refine G.atSto ?_; refine G.storeOwn rfl rfl (tyy rfl) Za rfl rfl rfl rfl ?_) | (refine G.atBld ?_; refine G.build (tyy rfl) rfl rfl rfl ?_) | (refine G.atBsl ?_; refine G.buildSlice (tyy rfl) (tyy rfl) rfl rfl rfl rfl ?_; intro _) | (refine G.atApp ?_; first | (refine G.append1 rfl rfl (tyy rfl) (tyy rfl) rfl rfl Za Za rfl rfl rfl Zo ?_; intro _; refine G.rowForm Take.hd ?_; rintro _ _ rfl)))
  rename_i A7 c7 gN
  have eA : tyR core0 ++ [[.string ⟨#[101, 109, 112, 108, 111, 121, 101, 101, 78, 117, 109, 98, 101, 114]⟩, .int .i64 4, .bool true, .bool false]] ++ [[.string ⟨#[97, 99, 116, 105, 118, 101]⟩, .int .i64 5, .bool true, .bool false]] = tyR coreA := rfl
  simp only [eA]
  refine G.go ?_
  refine G.freezeBlk Take.hd ?_
  intro hfN hleN hcN
  have hN : HSl hfN (.slice (some ⟨gN, 0, none⟩) 5 5) 1 (strsR coreF) := HSl.ofBlk1 (rows := strsR coreF) (n := 5) hcN (rowed_strs _) rfl (by decide)
  refine G.loop (σ := Nat × Option Addr × Nat) (fun x => [(49, .int .i64 x.1), (48, .int .i64 5), (47, .slice (some ⟨gN, 0, none⟩) 5 5), (1, .pointer (some ⟨gS, 0, none⟩)), (0, .pointer (some ⟨gO, 0, none⟩))])
    (fun x => [.row (.slice x.2.1 (tyR (coreA ++ (coreF.take x.1).map coreOne)).length x.2.2) 49 4 (tyR (coreA ++ (coreF.take x.1).map coreOne)), .blk gS [.slice x.2.1 (tyR (coreA ++ (coreF.take x.1).map coreOne)).length x.2.2, .slice none 0 0] 25, .row (.slice none 0 0) 31 5 [], .blk gO [.slice none 0 0, .slice none 0 0] 25])
    (fun x _ => x.1 <= 5) (fun x => 5 - x.1) ⟨0, A7, c7⟩ ⟨rfl, rfl, rfl, rfl, rfl, trivial⟩ Zu (Nat.zero_le _) ?_
  rintro ⟨i, A9, c9⟩ h5 hle5 hi
  simp only at hi
  refine G.norm (by (try dsimp only) <;> exact rfl) (by (try dsimp only) <;> exact rfl) ?_
  have lF : (tyR (coreA ++ (coreF.take i).map coreOne)).length = 13 + i := by
    rw [tyR_length, List.length_append, List.length_map, List.length_take]
    show 13 + min i 5 = _
    omega
  by_cases hlt : i < 5
  . obtain ⟨s, hs⟩ : ∃ s, coreF[i]? = some s := ⟨coreF[i]'hlt, List.getElem?_eq_getElem hlt⟩
    have hget : (strsR coreF)[i]? = some [str s] := by simp [strsR, hs]
    have hT := coreF_take hs
    by_cases hp : s = [112, 119, 100, 70, 97, 105, 108, 117, 114, 101]
    . have h1 : coreOne s = (s, 3, false, true) := if_pos hp
      have eR : tyR (coreA ++ (coreF.take i).map coreOne) ++ [[str s, .int .i64 3, .bool false, .bool true]] = tyR (coreA ++ (coreF.take (i + 1)).map coreOne) := by rw [hT, tyR_app _ [coreOne s], h1]; rfl
      repeat' (first | (refine G.atIdx ?_; refine G.idxImm rfl rfl (tyy rfl) (tyy rfl) (hN.mono (by solve | repeat first | assumption | exact Zr _ | refine Zq ?_ Zp)) Zj rfl (by have : (strsR coreF).length = 5 := rfl; omega) ?_; intro pp rr hx9 hp9; (rw [hget] at hx9); (obtain rfl := Option.some.inj hx9)) | (refine G.atApp ?_; refine G.append1 rfl rfl (tyy rfl) (tyy rfl) rfl rfl Za Za rfl rfl rfl (by rw [lF]; omega) ?_; intro _; refine G.rowForm Take.hd ?_; rintro _ _ rfl) | (refine G.atCode ?_; first | refine G.seq ?_ | refine G.region ?_ | refine G.block ?_ | refine G.skip ?_ | (refine G.cond rfl ?_ ?_ <;> intro hc <;> (try simp only [tests, reduceCtorEq] at hc) <;> (try exact Zf))) | refine G.endOps ?_ | refine G.endBlk ?_ | (refine G.atBin ?_; first | (refine G.atAdd ?_; first | refine G.arith rfl rfl rfl rfl rfl Zi ?_) | (refine G.atEql ?_; first | refine G.eqStr rfl rfl rfl ?_) | refine G.op rfl rfl ?_) | refine G.op rfl rfl ?_ | (refine G.atLoad ?_; first | refine G.loadOwn1 rfl (tyy rfl) rfl rfl Za rfl rfl ?_ | refine G.loadOwnA rfl (tyy rfl) rfl rfl Za rfl rfl ?_ | refine G.loadImm1 rfl (tyy rfl) rfl rfl Zp rfl ?_) | (refine G.atFld ?_; first | refine G.fieldAddr rfl (tyy rfl) rfl rfl ?_) | (refine G.atSto ?_; refine G.storeOwn rfl rfl (tyy rfl) Za rfl rfl rfl rfl ?_) | (refine G.atAlc ?_; refine G.alloc (tyy rfl) rfl rfl ?_; intro _) | (refine G.atBld ?_; refine G.build (tyy rfl) rfl rfl rfl ?_) | (refine G.atBsl ?_; refine G.buildSlice (tyy rfl) (tyy rfl) rfl rfl rfl rfl ?_; intro _))
      all_goals first | (exfalso; omega) | (exfalso; contradiction) | skip
      all_goals
        rename_i A' c'
        rw [eR]
        exact G.again ⟨i + 1, A', c'⟩ ⟨sint (by simp), rfl, rfl, rfl, rfl, trivial⟩ Zu (by simp only; omega) (by solve | repeat first | assumption | exact Zr _ | refine Zq ?_ Zp) (by simp only; omega)
    . have h1 : coreOne s = (s, 4, true, true) := if_neg hp
      have eR : tyR (coreA ++ (coreF.take i).map coreOne) ++ [[str s, .int .i64 4, .bool true, .bool true]] = tyR (coreA ++ (coreF.take (i + 1)).map coreOne) := by rw [hT, tyR_app _ [coreOne s], h1]; rfl
      repeat' (first | (refine G.atIdx ?_; refine G.idxImm rfl rfl (tyy rfl) (tyy rfl) (hN.mono (by solve | repeat first | assumption | exact Zr _ | refine Zq ?_ Zp)) Zj rfl (by have : (strsR coreF).length = 5 := rfl; omega) ?_; intro pp rr hx9 hp9; (rw [hget] at hx9); (obtain rfl := Option.some.inj hx9)) | (refine G.atApp ?_; refine G.append1 rfl rfl (tyy rfl) (tyy rfl) rfl rfl Za Za rfl rfl rfl (by rw [lF]; omega) ?_; intro _; refine G.rowForm Take.hd ?_; rintro _ _ rfl) | (refine G.atCode ?_; first | refine G.seq ?_ | refine G.region ?_ | refine G.block ?_ | refine G.skip ?_ | (refine G.cond rfl ?_ ?_ <;> intro hc <;> (try simp only [tests, reduceCtorEq] at hc) <;> (try exact Zf))) | refine G.endOps ?_ | refine G.endBlk ?_ | (refine G.atBin ?_; first | (refine G.atAdd ?_; first | refine G.arith rfl rfl rfl rfl rfl Zi ?_) | (refine G.atEql ?_; first | refine G.eqStr rfl rfl rfl ?_) | refine G.op rfl rfl ?_) | refine G.op rfl rfl ?_ | (refine G.atLoad ?_; first | refine G.loadOwn1 rfl (tyy rfl) rfl rfl Za rfl rfl ?_ | refine G.loadOwnA rfl (tyy rfl) rfl rfl Za rfl rfl ?_ | refine G.loadImm1 rfl (tyy rfl) rfl rfl Zp rfl ?_) | (refine G.atFld ?_; first | refine G.fieldAddr rfl (tyy rfl) rfl rfl ?_) | (refine G.atSto ?_; refine G.storeOwn rfl rfl (tyy rfl) Za rfl rfl rfl rfl ?_) | (refine G.atAlc ?_; refine G.alloc (tyy rfl) rfl rfl ?_; intro _) | (refine G.atBld ?_; refine G.build (tyy rfl) rfl rfl rfl ?_) | (refine G.atBsl ?_; refine G.buildSlice (tyy rfl) (tyy rfl) rfl rfl rfl rfl ?_; intro _))
      all_goals first | (exfalso; omega) | (exfalso; contradiction) | skip
      all_goals
        rename_i A' c'
        rw [eR]
        exact G.again ⟨i + 1, A', c'⟩ ⟨sint (by simp), rfl, rfl, rfl, rfl, trivial⟩ Zu (by simp only; omega) (by solve | repeat first | assumption | exact Zr _ | refine Zq ?_ Zp) (by simp only; omega)
  . obtain rfl : i = 5 := by omega
    have e5 : coreA ++ (coreF.take 5).map coreOne = coreT := rfl
    rw [e5] at *
    repeat' (first | (refine G.atApp ?_; refine G.append1 rfl rfl (tyy rfl) (tyy rfl) rfl rfl Za Za rfl rfl rfl (by first | omega | (simp only [List.length_append, List.length_cons, List.length_nil]; omega) | simp) ?_; intro _; refine G.rowForm Take.hd ?_; rintro _ _ rfl) | (refine G.atCode ?_; first | refine G.seq ?_ | refine G.region ?_ | refine G.exit rfl ?_ | refine G.ret ?_ | (refine G.cond rfl ?_ ?_ <;> intro hc <;> (try simp only [tests, reduceCtorEq] at hc) <;> (try exact Zf))) | refine G.endOps ?_ | (refine G.atBin ?_; first | refine G.op rfl rfl ?_) | (refine G.atLoad ?_; first | refine G.loadOwn1 rfl (tyy rfl) rfl rfl Za rfl rfl ?_ | refine G.loadOwnA rfl (tyy rfl) rfl rfl Za rfl rfl ?_) | (refine G.atFld ?_; first | refine G.fieldAddr rfl (tyy rfl) rfl rfl ?_) | (refine G.atSto ?_; refine G.storeOwn rfl rfl (tyy rfl) Za rfl rfl rfl rfl ?_) | (refine G.atBld ?_; refine G.build (tyy rfl) rfl rfl rfl ?_) | (refine G.atBsl ?_; refine G.buildSlice (tyy rfl) (tyy rfl) rfl rfl rfl rfl ?_; intro _))
    all_goals first | (exfalso; omega) | skip
    rename_i gm0 gy0 gr0 Ak0 ck0 gm1 gy1 gr1 Ak1 ck1 gm2 gy2 gr2 Ak2 ck2 gm3 gy3 gr3 Ak3 ck3 gm4 gy4 gr4 Ak4 ck4 gy5 gr5 Ak5 ck5 gm6 gy6 gr6 Ak6 ck6 gm7 gr7 Ak7 ck7 gy8 gr8 Ak8 ck8
    refine G.freezeRow (v := .slice A9 (tyR coreT).length c9) Za ?_
    intro hT0 hleT0 hsT
    refine G.freezeRow (v := .slice Ak8 _ ck8) Za ?_
    intro hC0 hleC0 hsC
    refine G.freezeBlk (g := gm0) Za ?_
    intro hm0 hlem0 hcm0
    refine G.freezeBlk (g := gy0) Za ?_
    intro hy0 hley0 hcy0
    refine G.freezeBlk (g := gm1) Za ?_
    intro hm1 hlem1 hcm1
    refine G.freezeBlk (g := gy1) Za ?_
    intro hy1 hley1 hcy1
    refine G.freezeBlk (g := gm2) Za ?_
    intro hm2 hlem2 hcm2
    refine G.freezeBlk (g := gy2) Za ?_
    intro hy2 hley2 hcy2
    refine G.freezeBlk (g := gm3) Za ?_
    intro hm3 hlem3 hcm3
    refine G.freezeBlk (g := gy3) Za ?_
    intro hy3 hley3 hcy3
    refine G.freezeBlk (g := gm4) Za ?_
    intro hm4 hlem4 hcm4
    refine G.freezeBlk (g := gy4) Za ?_
    intro hy4 hley4 hcy4
    refine G.freezeBlk (g := gy5) Za ?_
    intro hy5 hley5 hcy5
    refine G.freezeBlk (g := gm6) Za ?_
    intro hm6 hlem6 hcm6
    refine G.freezeBlk (g := gy6) Za ?_
    intro hy6 hley6 hcy6
    refine G.freezeBlk (g := gm7) Za ?_
    intro hm7 hlem7 hcm7
    refine G.freezeBlk (g := gy8) Za ?_
    intro hy8 hley8 hcy8
    refine G.done (rs := [.cell 0 25]) rfl (.cellA rfl (tyy rfl) rfl rfl Za rfl .nil) rfl [] (SubH.nil _) ⟨⟨_, _, _, rfl, hsT.mono (by solve | repeat first | assumption | exact Zr _ | refine Zq ?_ Zp), hsC.mono (by solve | repeat first | assumption | exact Zr _ | refine Zq ?_ Zp), ?_⟩, rfl⟩
    exact (ClsC.append (ClsC.append (ClsC.append (ClsC.append (ClsC.append (ClsC.append (ClsC.append (ClsC.append (ClsC.append (show ClsC _ [] [] from rfl) (ClsC.one (x := coreC0) (HSl.ofBlk1 (rows := strsR coreC0.2.2.2.1) (hcm0.mono (by solve | repeat first | assumption | exact Zr _ | refine Zq ?_ Zp)) (rowed_strs _) rfl (by decide)) (HSl.ofBlk1 (rows := strsR coreC0.2.2.2.2) (hcy0.mono (by solve | repeat first | assumption | exact Zr _ | refine Zq ?_ Zp)) (rowed_strs _) rfl (by decide)))) (ClsC.one (x := coreC1) (HSl.ofBlk1 (rows := strsR coreC1.2.2.2.1) (hcm1.mono (by solve | repeat first | assumption | exact Zr _ | refine Zq ?_ Zp)) (rowed_strs _) rfl (by decide)) (HSl.ofBlk1 (rows := strsR coreC1.2.2.2.2) (hcy1.mono (by solve | repeat first | assumption | exact Zr _ | refine Zq ?_ Zp)) (rowed_strs _) rfl (by decide)))) (ClsC.one (x := coreC2) (HSl.ofBlk1 (rows := strsR coreC2.2.2.2.1) (hcm2.mono (by solve | repeat first | assumption | exact Zr _ | refine Zq ?_ Zp)) (rowed_strs _) rfl (by decide)) (HSl.ofBlk1 (rows := strsR coreC2.2.2.2.2) (hcy2.mono (by solve | repeat first | assumption | exact Zr _ | refine Zq ?_ Zp)) (rowed_strs _) rfl (by decide)))) (ClsC.one (x := coreC3) (HSl.ofBlk1 (rows := strsR coreC3.2.2.2.1) (hcm3.mono (by solve | repeat first | assumption | exact Zr _ | refine Zq ?_ Zp)) (rowed_strs _) rfl (by decide)) (HSl.ofBlk1 (rows := strsR coreC3.2.2.2.2) (hcy3.mono (by solve | repeat first | assumption | exact Zr _ | refine Zq ?_ Zp)) (rowed_strs _) rfl (by decide)))) (ClsC.one (x := coreC4) (HSl.ofBlk1 (rows := strsR coreC4.2.2.2.1) (hcm4.mono (by solve | repeat first | assumption | exact Zr _ | refine Zq ?_ Zp)) (rowed_strs _) rfl (by decide)) (HSl.ofBlk1 (rows := strsR coreC4.2.2.2.2) (hcy4.mono (by solve | repeat first | assumption | exact Zr _ | refine Zq ?_ Zp)) (rowed_strs _) rfl (by decide)))) (ClsC.one (x := coreC5) (HSl.nil _ _) (HSl.ofBlk1 (rows := strsR coreC5.2.2.2.2) (hcy5.mono (by solve | repeat first | assumption | exact Zr _ | refine Zq ?_ Zp)) (rowed_strs _) rfl (by decide)))) (ClsC.one (x := coreC6) (HSl.ofBlk1 (rows := strsR coreC6.2.2.2.1) (hcm6.mono (by solve | repeat first | assumption | exact Zr _ | refine Zq ?_ Zp)) (rowed_strs _) rfl (by decide)) (HSl.ofBlk1 (rows := strsR coreC6.2.2.2.2) (hcy6.mono (by solve | repeat first | assumption | exact Zr _ | refine Zq ?_ Zp)) (rowed_strs _) rfl (by decide)))) (ClsC.one (x := coreC7) (HSl.ofBlk1 (rows := strsR coreC7.2.2.2.1) (hcm7.mono (by solve | repeat first | assumption | exact Zr _ | refine Zq ?_ Zp)) (rowed_strs _) rfl (by decide)) (HSl.nil _ _))) (ClsC.one (x := coreC8) (HSl.nil _ _) (HSl.ofBlk1 (rows := strsR coreC8.2.2.2.2) (hcy8.mono (by solve | repeat first | assumption | exact Zr _ | refine Zq ?_ Zp)) (rowed_strs _) rfl (by decide))))
end Go.Proofs.Ytfmekdmpghhegaa
