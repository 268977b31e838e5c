/- Book.All, Book.Seen; castellanref22.Seen. -/
import Derived.Test.YtieibicgankemaaGreatAcH
import Derived.Test.YtieibicgankemaaGreatAcJ
namespace Go.Proofs.YtieibicgankemaaGreat
set_option linter.all false
set_option maxRecDepth 4000
open Go.RowKit

theorem callSeen22 : Callable Tryz.prog 11 := ⟨_, Tryz.func11, by kernel_rfl, rfl⟩
theorem all_no {α : Type} {p : α -> Bool} {l : List α} {a : α} {i : Nat} (h : l[i]? = some a) (hp : p a = false) : l.all p = false := by
  rw [Bool.eq_false_iff]
  intro hh
  rw [List.all_eq_true] at hh
  have := hh a (List.mem_of_getElem? h)
  rw [hp] at this; cases this
theorem strs_get {l : List (List UInt8)} {i : Nat} {s : List UInt8} (h : l[i]? = some s) : (strsR l)[i]? = some [str s] := by simp [strsR, h]
set_option maxHeartbeats 2000000 in
theorem book_All (adm who entry : Dn) (l : List RlD) (names : List (List UInt8)) (right : Int) (g : Nat) (v1 v2 vN : Value) (h0 : dnW adm <= 10000000) (h1 : dnW who <= 10000000) (h2 : dnW entry <= 10000000) (hn : names.length <= 10000000) (hns : ∀ n ∈ names, n.length <= 100000000) (h : Heap) (hb : BookC h adm l g) (hv1 : DnC h who v1) (hv2 : DnC h entry v2) (hN : HSl h vN 1 (strsR names)) :
    Spec Tryz.prog 14 [.pointer (some ⟨g, 0, none⟩), v1, v2, .int .i64 right, vN] h [] (fun u _ H' => u = .bool (([] :: names).all fun n => mayM adm l who entry n right) /\ H' = []) := by
  have s1 := fun n (hn : n.length <= 100000000) => book_May adm who entry l n right g v1 v2 h0 h1 h2 hn
  refine Spec.enter Tryz.func14 rfl rfl ?_; intro w0
  repeat' (first | (refine G.atApp ?_; refine G.blkRowS (s := []) Take.hd ?_; refine G.appendImmS (l := [[]]) (l' := names) rfl rfl (tyy rfl) (tyy rfl) rfl rfl Za (hN.mono (by solve | repeat first | assumption | exact Zr _ | refine Zq ?_ Zp)) rfl (by simp only [List.length_cons, List.length_nil]; omega) ?_; intro _; refine G.rowForm Take.hd ?_; rintro _ _ rfl) | (refine G.atCode ?_; refine G.stopLoop ?_) | (refine G.atCode ?_; first | refine G.seq ?_ | refine G.region ?_ | refine G.block ?_) | refine G.endOps ?_ | refine G.op rfl rfl ?_ | (refine G.atLen ?_; first | refine G.lenSlice rfl (tyy rfl) rfl ?_) | (refine G.atBsl ?_; refine G.buildSlice (tyy rfl) (tyy rfl) rfl rfl rfl rfl ?_; intro _))
  rename_i A8 c8
  refine G.go ?_
  refine G.freezeRow Take.hd ?_
  intro hF hleF hNF0
  rw [strsR_length] at hNF0
  have hNF : HSl hF (.slice A8 ([] :: names : List (List UInt8)).length c8) 1 (strsR ([] :: names)) := hNF0
  clear hNF0
  rw [show ([[]] ++ names : List (List UInt8)) = [] :: names from rfl]
  have hNl : ([] :: names : List (List UInt8)).length = names.length + 1 := rfl
  have hnsL : ∀ n ∈ ([] :: names : List (List UInt8)), n.length <= 100000000 := by
    intro n hn
    rcases List.mem_cons.1 hn with rfl | hn
    . simp
    . exact hns n hn
  rw [strsR_length]
  generalize ([] :: names : List (List UInt8)) = L at *
  refine G.loop (σ := Nat) (fun i => [(17, .int .i64 i), (16, .int .i64 L.length), (15, .slice A8 L.length c8), (0, .pointer (some ⟨g, 0, none⟩)), (1, v1), (2, v2), (3, .int .i64 right)])
    (fun _ => []) (fun i _ => i <= L.length /\ (L.take i).all (fun n => mayM adm l who entry n right) = true) (fun i => L.length - i) 0 ⟨rfl, rfl, rfl, rfl, rfl, rfl, rfl, trivial⟩ (SubH.nil _) ⟨Nat.zero_le _, rfl⟩ ?_
  rintro i h6 hle6 ⟨hi, hall⟩
  by_cases hlt : i < L.length
  . obtain ⟨n, hnn⟩ : ∃ n, L[i]? = some n := ⟨L[i], List.getElem?_eq_getElem hlt⟩
    have hget := strs_get hnn
    have s2 := s1 n (hnsL n (List.mem_of_getElem? hnn))
    cases hm : mayM adm l who entry n right with
    | true =>
      rw [hm] at s2
      repeat' (first | (refine G.atIdx ?_; refine G.idxImm rfl rfl (tyy rfl) (tyy rfl) (hNF.mono (by solve | repeat first | assumption | exact Zr _ | refine Zq ?_ Zp)) Zj rfl (by rw [strsR_length]; omega) ?_; intro pp rr hx9 hp9; (rw [hget] at hx9); (obtain rfl := Option.some.inj hx9)) | (show G _ (.ops .seq _ (⟨some _, .call { callee := .value (.func 22), args := _, argTypes := _ }, _, _, _, none⟩ :: _) :: _) _ _ _; refine G.call callMay rfl rfl (s2 _ (hb.mono (by solve | repeat first | assumption | exact Zr _ | refine Zq ?_ Zp)) (hv1.mono (by solve | repeat first | assumption | exact Zr _ | refine Zq ?_ Zp)) (hv2.mono (by solve | repeat first | assumption | exact Zr _ | refine Zq ?_ Zp))) Ze ?_; rintro _ h7 H7 ⟨rfl, rfl⟩ hle7) | (refine G.atCode ?_; first | refine G.seq ?_ | refine G.region ?_ | refine G.block ?_ | refine G.skip ?_ | (refine G.cond rfl ?_ ?_ <;> intro hc <;> (try simp only [tests, reduceCtorEq] at hc) <;> (try exact Zf))) | refine G.endOps ?_ | refine G.endBlk ?_ | (refine G.atBin ?_; first | (refine G.atAdd ?_; first | refine G.arith rfl rfl rfl rfl rfl Zi ?_) | refine G.op rfl rfl ?_) | refine G.op rfl rfl ?_ | (refine G.atLoad ?_; first | refine G.loadImm1 rfl (tyy rfl) rfl rfl Zp rfl ?_))
      all_goals first | (exfalso; omega) | exact G.again (i + 1) ⟨sint (by omega), rfl, rfl, rfl, rfl, rfl, rfl, trivial⟩ (SubH.nil _) ⟨by omega, by rw [take_get hnn, List.all_append, hall]; simp [hm]⟩ (by solve | repeat first | assumption | exact Zr _ | refine Zq ?_ Zp) (by omega) | skip
    | false =>
      rw [hm] at s2
      repeat' (first | (refine G.atIdx ?_; refine G.idxImm rfl rfl (tyy rfl) (tyy rfl) (hNF.mono (by solve | repeat first | assumption | exact Zr _ | refine Zq ?_ Zp)) Zj rfl (by rw [strsR_length]; omega) ?_; intro pp rr hx9 hp9; (rw [hget] at hx9); (obtain rfl := Option.some.inj hx9)) | (show G _ (.ops .seq _ (⟨some _, .call { callee := .value (.func 22), args := _, argTypes := _ }, _, _, _, none⟩ :: _) :: _) _ _ _; refine G.call callMay rfl rfl (s2 _ (hb.mono (by solve | repeat first | assumption | exact Zr _ | refine Zq ?_ Zp)) (hv1.mono (by solve | repeat first | assumption | exact Zr _ | refine Zq ?_ Zp)) (hv2.mono (by solve | repeat first | assumption | exact Zr _ | refine Zq ?_ Zp))) Ze ?_; rintro _ h7 H7 ⟨rfl, rfl⟩ hle7) | (refine G.atCode ?_; first | refine G.seq ?_ | refine G.region ?_ | refine G.block ?_ | refine G.skip ?_ | refine G.ret ?_ | (refine G.cond rfl ?_ ?_ <;> intro hc <;> (try simp only [tests, reduceCtorEq] at hc) <;> (try exact Zf))) | refine G.endOps ?_ | (refine G.atBin ?_; first | refine G.op rfl rfl ?_) | refine G.op rfl rfl ?_ | (refine G.atLoad ?_; first | refine G.loadImm1 rfl (tyy rfl) rfl rfl Zp rfl ?_))
      all_goals first | (exfalso; omega) | exact G.done1 rfl rfl [] (SubH.nil _) ⟨by rw [all_no hnn hm], rfl⟩ | skip
  . obtain rfl : i = L.length := by omega
    rw [List.take_length] at hall
    repeat' (first | (refine G.atCode ?_; first | refine G.seq ?_ | refine G.region ?_ | refine G.exit rfl ?_ | refine G.ret ?_ | (refine G.cond rfl ?_ ?_ <;> intro hc <;> (try simp only [tests, reduceCtorEq] at hc) <;> (try exact Zf))) | refine G.endOps ?_ | (refine G.atBin ?_; first | refine G.op rfl rfl ?_) | refine G.op rfl rfl ?_)
    all_goals first | (exfalso; omega) | exact G.done1 rfl rfl [] (SubH.nil _) ⟨by rw [hall], rfl⟩ | skip
theorem filter_take {α : Type} {p : α -> Bool} {l : List α} {i : Nat} {a : α} (h : l[i]? = some a) : (l.take (i + 1)).filter p = (l.take i).filter p ++ if p a = true then [a] else [] := by
  rw [take_get h, List.filter_append]
  by_cases hp : p a = true
  . rw [if_pos hp, List.filter_cons_of_pos hp, List.filter_nil]
  . rw [if_neg hp, List.filter_cons_of_neg hp, List.filter_nil]
set_option maxHeartbeats 2000000 in
theorem book_Seen (adm who entry : Dn) (l : List RlD) (ats : List Atr) (right : Int) (g : Nat) (v1 v2 vA : Value) (h0 : dnW adm <= 10000000) (h1 : dnW who <= 10000000) (h2 : dnW entry <= 10000000) (hB : AtrB ats) (h : Heap) (hb : BookC h adm l g) (hv1 : DnC h who v1) (hv2 : DnC h entry v2) (hA : AtrsC h ats vA) :
    Spec Tryz.prog 10 [.pointer (some ⟨g, 0, none⟩), v1, v2, vA, .int .i64 right] h [] (fun u h' H' => AtrsC h' (ats.filter fun a => mayM adm l who entry a.1 right) u /\ H' = []) := by
  have s1 := fun n (hn : n.length <= 100000000) => book_May adm who entry l n right g v1 v2 h0 h1 h2 hn
  obtain ⟨Av, cv, rfl, _, hm⟩ := hA.form
  obtain ⟨rows, hs, hrows⟩ := hA
  have hrl := hrows.len
  have hbl := hB.1
  refine Spec.enter Tryz.func10 rfl rfl ?_; intro w0
  repeat' (first | (refine G.atCode ?_; refine G.stopLoop ?_) | (refine G.atCode ?_; first | refine G.seq ?_ | refine G.region ?_ | refine G.block ?_) | refine G.endOps ?_ | refine G.op rfl rfl ?_ | (refine G.atLen ?_; first | refine G.lenSlice rfl (tyy rfl) rfl ?_))
  refine G.nilRow 45 2 ?_
  refine G.go ?_
  refine G.loop (σ := Nat × Value × List (List Value)) (fun x => [(16, .int .i64 x.1), (15, .int .i64 ats.length), (14, .slice Av ats.length cv), (11, x.2.1), (0, .pointer (some ⟨g, 0, none⟩)), (1, v1), (2, v2), (4, .int .i64 right)])
    (fun x => [.row x.2.1 45 2 x.2.2]) (fun x h1 => x.1 <= ats.length /\ LC AtrC h1 ((ats.take x.1).filter fun a => mayM adm l who entry a.1 right) x.2.2) (fun x => ats.length - x.1) ⟨0, .slice none 0 0, []⟩ ⟨rfl, rfl, rfl, rfl, rfl, rfl, rfl, rfl, trivial⟩ Zu ⟨Nat.zero_le _, rfl⟩ ?_
  rintro ⟨i, ov, orows⟩ h3 hle3 ⟨hi, horows⟩
  simp only at hi horows
  refine G.norm (by (try dsimp only) <;> exact rfl) (by (try dsimp only) <;> exact rfl) ?_
  have horl := horows.len
  have hfl := List.length_filter_le (fun a : Atr => mayM adm l who entry a.1 right) (ats.take i)
  rw [<- horl, List.length_take] at hfl
  by_cases hlt : i < ats.length
  . obtain ⟨⟨an, avs⟩, ha⟩ : ∃ a, ats[i]? = some a := ⟨ats[i], List.getElem?_eq_getElem hlt⟩
    obtain ⟨_, hget, va, rfl, hva⟩ := hrows.get ha
    obtain ⟨hb1, hb2⟩ := hB.2 _ (List.mem_of_getElem? ha)
    simp only at hget hva hb1 hb2
    obtain ⟨Aa, ca, rfl, _⟩ := hva.form
    rw [strsR_length] at *
    have hl2 : ([str an, .slice Aa avs.length ca] : List Value).length = 2 := rfl
    have s2 := s1 an (by omega)
    have hft := filter_take (p := fun a : Atr => mayM adm l who entry a.1 right) ha
    simp only at hft
    cases hm : mayM adm l who entry an right with
    | true =>
      rw [hm] at s2 hft
      rw [if_pos rfl] at hft
      repeat' (first | (refine G.atIdx ?_; refine G.idxImm rfl rfl (tyy rfl) (tyy rfl) (hs.mono (by solve | repeat first | assumption | exact Zr _ | refine Zq ?_ Zp)) Zj rfl (by rw [hrl]; omega) ?_; intro pp rr hx9 hp9; (rw [hget] at hx9); (obtain rfl := Option.some.inj hx9)) | (show G _ (.ops .seq _ (⟨some _, .call { callee := .value (.func 22), args := _, argTypes := _ }, _, _, _, none⟩ :: _) :: _) _ _ _; refine G.call callMay rfl rfl (s2 _ (hb.mono (by solve | repeat first | assumption | exact Zr _ | refine Zq ?_ Zp)) (hv1.mono (by solve | repeat first | assumption | exact Zr _ | refine Zq ?_ Zp)) (hv2.mono (by solve | repeat first | assumption | exact Zr _ | refine Zq ?_ Zp))) Ze ?_; rintro _ h7 H7 ⟨rfl, rfl⟩ hle7) | (refine G.atApp ?_; refine G.nilRow 9 1 ?_; refine G.appendImmS (l := []) (l' := avs) rfl rfl (tyy rfl) (tyy rfl) rfl rfl Take.hd (hva.mono (by solve | repeat first | assumption | exact Zr _ | refine Zq ?_ Zp)) rfl (by simp only [List.length_nil]; omega) ?_; intro v9; refine G.rowForm Take.hd ?_; rintro A9 c9 rfl) | (refine G.atApp ?_; refine G.append1 rfl rfl (tyy rfl) (tyy rfl) rfl rfl Za Za rfl rfl rfl Zo ?_; intro _; refine G.rowForm Take.hd ?_; rintro _ _ rfl) | (refine G.atCode ?_; first | refine G.seq ?_ | refine G.region ?_ | refine G.block ?_ | refine G.skip ?_ | refine G.anyIn mixedOk ?_ | (refine G.cond rfl ?_ ?_ <;> intro hc <;> (try simp only [tests, reduceCtorEq] at hc) <;> (try exact Zf))) | refine G.endOps ?_ | refine G.endHeld ?_ | refine G.back ?_ | refine G.endBlk ?_ | (refine G.atAny ?_; first | refine G.anyAutoX slB rfl rfl Zw Zg Zd ?_ | refine G.anyOne rfl Zw Zg Zu ?_ | refine G.anyEndX Zw ?_) | (refine G.atBin ?_; first | (refine G.atAdd ?_; first | refine G.arith rfl rfl rfl rfl rfl Zi ?_) | refine G.op rfl rfl ?_) | refine G.op rfl rfl ?_ | (refine G.atLoad ?_; first | refine G.loadOwn1 rfl (tyy rfl) rfl rfl Za rfl rfl ?_ | refine G.loadImmA rfl (tyy rfl) rfl rfl Zp Zp rfl ?_) | (refine G.atFld ?_; first | refine G.fieldAddr rfl (tyy rfl) rfl rfl ?_) | (refine G.atSto ?_; refine G.storeOwn rfl rfl (tyy rfl) Za rfl rfl rfl rfl ?_) | (refine G.atAlc ?_; refine G.alloc (tyy rfl) rfl rfl ?_; intro _) | (refine G.atBld ?_; refine G.build (tyy rfl) rfl rfl rfl ?_) | (refine G.atBsl ?_; refine G.buildSlice (tyy rfl) (tyy rfl) rfl rfl rfl rfl ?_; intro _))
      all_goals (
        refine G.freezeRow (Take.tl Take.hd) ?_
        intro h7 hle7 hs7
        exact G.again ⟨i + 1, _, _⟩ ⟨sint (by omega), rfl, rfl, rfl, rfl, rfl, rfl, rfl, trivial⟩ Zu ⟨by simp only; omega, by simp only [hft]; exact LC.append (horows.mono (fun x => x.mono (by solve | repeat first | assumption | exact Zr _ | refine Zq ?_ Zp))) (LC.one ⟨_, rfl, hs7⟩)⟩ (by solve | repeat first | assumption | exact Zr _ | refine Zq ?_ Zp) (by simp only; omega))
    | false =>
      rw [hm] at s2 hft
      rw [if_neg Bool.false_ne_true, List.append_nil] at hft
      repeat' (first | (refine G.atIdx ?_; refine G.idxImm rfl rfl (tyy rfl) (tyy rfl) (hs.mono (by solve | repeat first | assumption | exact Zr _ | refine Zq ?_ Zp)) Zj rfl (by rw [hrl]; omega) ?_; intro pp rr hx9 hp9; (rw [hget] at hx9); (obtain rfl := Option.some.inj hx9)) | (show G _ (.ops .seq _ (⟨some _, .call { callee := .value (.func 22), args := _, argTypes := _ }, _, _, _, none⟩ :: _) :: _) _ _ _; refine G.call callMay rfl rfl (s2 _ (hb.mono (by solve | repeat first | assumption | exact Zr _ | refine Zq ?_ Zp)) (hv1.mono (by solve | repeat first | assumption | exact Zr _ | refine Zq ?_ Zp)) (hv2.mono (by solve | repeat first | assumption | exact Zr _ | refine Zq ?_ Zp))) Ze ?_; rintro _ h7 H7 ⟨rfl, rfl⟩ hle7) | (refine G.atCode ?_; first | refine G.seq ?_ | refine G.region ?_ | refine G.block ?_ | refine G.skip ?_ | (refine G.cond rfl ?_ ?_ <;> intro hc <;> (try simp only [tests, reduceCtorEq] at hc) <;> (try exact Zf))) | refine G.endOps ?_ | refine G.endBlk ?_ | (refine G.atBin ?_; first | (refine G.atAdd ?_; first | refine G.arith rfl rfl rfl rfl rfl Zi ?_) | refine G.op rfl rfl ?_) | refine G.op rfl rfl ?_ | (refine G.atLoad ?_; first | refine G.loadOwn1 rfl (tyy rfl) rfl rfl Za rfl rfl ?_ | refine G.loadImmA rfl (tyy rfl) rfl rfl Zp Zp rfl ?_) | (refine G.atFld ?_; first | refine G.fieldAddr rfl (tyy rfl) rfl rfl ?_) | (refine G.atSto ?_; refine G.storeOwn rfl rfl (tyy rfl) Za rfl rfl rfl rfl ?_) | (refine G.atAlc ?_; refine G.alloc (tyy rfl) rfl rfl ?_; intro _))
      all_goals first | (exfalso; omega) | exact G.again ⟨i + 1, _, _⟩ ⟨sint (by omega), rfl, rfl, rfl, rfl, rfl, rfl, rfl, trivial⟩ Zu ⟨by simp only; omega, by simp only [hft]; exact horows.mono (fun x => x.mono (by solve | repeat first | assumption | exact Zr _ | refine Zq ?_ Zp))⟩ (by solve | repeat first | assumption | exact Zr _ | refine Zq ?_ Zp) (by simp only; omega)
  . obtain rfl : i = ats.length := by omega
    rw [List.take_length] at horows
    repeat' (first | (refine G.atCode ?_; first | refine G.seq ?_ | refine G.region ?_ | refine G.exit rfl ?_ | refine G.ret ?_ | (refine G.cond rfl ?_ ?_ <;> intro hc <;> (try simp only [tests, reduceCtorEq] at hc) <;> (try exact Zf))) | refine G.endOps ?_ | (refine G.atBin ?_; first | refine G.op rfl rfl ?_) | refine G.op rfl rfl ?_)
    refine G.freezeRow Take.hd ?_
    intro h8 hle8 hs8
    exact G.done1 rfl rfl _ (SubH.nil _) ⟨⟨_, hs8, horows.mono (fun x => x.mono hle8)⟩, rfl⟩
set_option maxHeartbeats 2000000 in
theorem ref22_Seen (T : List (List UInt8)) (adm who entry : Dn) (rs : List Rl) (l : List RlD) (hl : rusM T rs = .ok l) (hrb : RlB rs) (ats : List Atr) (right : Int) (v0 vR v1 v2 vA : Value) (h0 : dnW adm <= 10000000) (h1 : dnW who <= 10000000) (h2 : dnW entry <= 10000000) (hB : AtrB ats) (h : Heap) (hA0 : DnC h adm v0) (hR : HSl h vR 6 (rlR rs)) (hv1 : DnC h who v1) (hv2 : DnC h entry v2) (hA : AtrsC h ats vA) :
    Spec Tryz.prog 11 [v0, vR, v1, v2, vA, .int .i64 right] h [] (fun u h' H' => AtrsC h' (ats.filter fun a => mayM adm l who entry a.1 right) u /\ H' = []) := by
  have s1 := fun n (hn : n.length <= 100000000) => ref22_May T adm who entry rs l hl hrb n right v0 vR v1 v2 h0 h1 h2 hn
  obtain ⟨Av, cv, rfl, _, hm⟩ := hA.form
  obtain ⟨rows, hs, hrows⟩ := hA
  have hrl := hrows.len
  have hbl := hB.1
  refine Spec.enter Tryz.func11 rfl rfl ?_; intro w0
  repeat' (first | (refine G.atCode ?_; refine G.stopLoop ?_) | (refine G.atCode ?_; first | refine G.seq ?_ | refine G.region ?_ | refine G.block ?_) | refine G.endOps ?_ | refine G.op rfl rfl ?_ | (refine G.atLen ?_; first | refine G.lenSlice rfl (tyy rfl) rfl ?_))
  refine G.nilRow 45 2 ?_
  refine G.go ?_
  refine G.loop (σ := Nat × Value × List (List Value)) (fun x => [(18, .int .i64 x.1), (17, .int .i64 ats.length), (16, .slice Av ats.length cv), (13, x.2.1), (0, v0), (1, vR), (2, v1), (3, v2), (5, .int .i64 right)])
    (fun x => [.row x.2.1 45 2 x.2.2]) (fun x h1 => x.1 <= ats.length /\ LC AtrC h1 ((ats.take x.1).filter fun a => mayM adm l who entry a.1 right) x.2.2) (fun x => ats.length - x.1) ⟨0, .slice none 0 0, []⟩ ⟨rfl, rfl, rfl, rfl, rfl, rfl, rfl, rfl, rfl, trivial⟩ Zu ⟨Nat.zero_le _, rfl⟩ ?_
  rintro ⟨i, ov, orows⟩ h3 hle3 ⟨hi, horows⟩
  simp only at hi horows
  refine G.norm (by (try dsimp only) <;> exact rfl) (by (try dsimp only) <;> exact rfl) ?_
  have horl := horows.len
  have hfl := List.length_filter_le (fun a : Atr => mayM adm l who entry a.1 right) (ats.take i)
  rw [<- horl, List.length_take] at hfl
  by_cases hlt : i < ats.length
  . obtain ⟨⟨an, avs⟩, ha⟩ : ∃ a, ats[i]? = some a := ⟨ats[i], List.getElem?_eq_getElem hlt⟩
    obtain ⟨_, hget, va, rfl, hva⟩ := hrows.get ha
    obtain ⟨hb1, hb2⟩ := hB.2 _ (List.mem_of_getElem? ha)
    simp only at hget hva hb1 hb2
    obtain ⟨Aa, ca, rfl, _⟩ := hva.form
    rw [strsR_length] at *
    have hl2 : ([str an, .slice Aa avs.length ca] : List Value).length = 2 := rfl
    have s2 := s1 an (by omega)
    have hft := filter_take (p := fun a : Atr => mayM adm l who entry a.1 right) ha
    simp only at hft
    cases hm : mayM adm l who entry an right with
    | true =>
      rw [hm] at s2 hft
      rw [if_pos rfl] at hft
      repeat' (first | (refine G.atIdx ?_; refine G.idxImm rfl rfl (tyy rfl) (tyy rfl) (hs.mono (by solve | repeat first | assumption | exact Zr _ | refine Zq ?_ Zp)) Zj rfl (by rw [hrl]; omega) ?_; intro pp rr hx9 hp9; (rw [hget] at hx9); (obtain rfl := Option.some.inj hx9)) | (show G _ (.ops .seq _ (⟨some _, .call { callee := .value (.func 13), args := _, argTypes := _ }, _, _, _, none⟩ :: _) :: _) _ _ _; refine G.call callMay22 rfl rfl (s2 _ (hA0.mono (by solve | repeat first | assumption | exact Zr _ | refine Zq ?_ Zp)) (hR.mono (by solve | repeat first | assumption | exact Zr _ | refine Zq ?_ Zp)) (hv1.mono (by solve | repeat first | assumption | exact Zr _ | refine Zq ?_ Zp)) (hv2.mono (by solve | repeat first | assumption | exact Zr _ | refine Zq ?_ Zp))) Ze ?_; rintro _ h7 H7 ⟨rfl, rfl⟩ hle7) | (refine G.atApp ?_; refine G.append1 rfl rfl (tyy rfl) (tyy rfl) rfl rfl Za Za rfl rfl rfl Zo ?_; intro _; refine G.rowForm Take.hd ?_; rintro _ _ rfl) | (refine G.atCode ?_; first | refine G.seq ?_ | refine G.region ?_ | refine G.block ?_ | refine G.skip ?_ | (refine G.cond rfl ?_ ?_ <;> intro hc <;> (try simp only [tests, reduceCtorEq] at hc) <;> (try exact Zf))) | refine G.endOps ?_ | refine G.endBlk ?_ | (refine G.atBin ?_; first | (refine G.atAdd ?_; first | refine G.arith rfl rfl rfl rfl rfl Zi ?_) | refine G.op rfl rfl ?_) | refine G.op rfl rfl ?_ | (refine G.atLoad ?_; first | refine G.loadOwn1 rfl (tyy rfl) rfl rfl Za rfl rfl ?_ | refine G.loadOwnA rfl (tyy rfl) rfl rfl Za rfl rfl ?_ | refine G.loadImmA rfl (tyy rfl) rfl rfl Zp Zp rfl ?_) | (refine G.atFld ?_; first | refine G.fieldAddr rfl (tyy rfl) rfl rfl ?_) | (refine G.atSto ?_; refine G.storeOwn rfl rfl (tyy rfl) Za rfl rfl rfl rfl ?_) | (refine G.atAlc ?_; refine G.alloc (tyy rfl) rfl rfl ?_; intro _) | (refine G.atBsl ?_; refine G.buildSlice (tyy rfl) (tyy rfl) rfl rfl rfl rfl ?_; intro _))
      all_goals first | (exfalso; omega) | exact G.again ⟨i + 1, _, _⟩ ⟨sint (by omega), rfl, rfl, rfl, rfl, rfl, rfl, rfl, rfl, trivial⟩ Zu ⟨by simp only; omega, by simp only [hft]; exact LC.append (horows.mono (fun x => x.mono (by solve | repeat first | assumption | exact Zr _ | refine Zq ?_ Zp))) (LC.one ⟨_, rfl, hva.mono (by solve | repeat first | assumption | exact Zr _ | refine Zq ?_ Zp)⟩)⟩ (by solve | repeat first | assumption | exact Zr _ | refine Zq ?_ Zp) (by simp only; omega)
    | false =>
      rw [hm] at s2 hft
      rw [if_neg Bool.false_ne_true, List.append_nil] at hft
      repeat' (first | (refine G.atIdx ?_; refine G.idxImm rfl rfl (tyy rfl) (tyy rfl) (hs.mono (by solve | repeat first | assumption | exact Zr _ | refine Zq ?_ Zp)) Zj rfl (by rw [hrl]; omega) ?_; intro pp rr hx9 hp9; (rw [hget] at hx9); (obtain rfl := Option.some.inj hx9)) | (show G _ (.ops .seq _ (⟨some _, .call { callee := .value (.func 13), args := _, argTypes := _ }, _, _, _, none⟩ :: _) :: _) _ _ _; refine G.call callMay22 rfl rfl (s2 _ (hA0.mono (by solve | repeat first | assumption | exact Zr _ | refine Zq ?_ Zp)) (hR.mono (by solve | repeat first | assumption | exact Zr _ | refine Zq ?_ Zp)) (hv1.mono (by solve | repeat first | assumption | exact Zr _ | refine Zq ?_ Zp)) (hv2.mono (by solve | repeat first | assumption | exact Zr _ | refine Zq ?_ Zp))) Ze ?_; rintro _ h7 H7 ⟨rfl, rfl⟩ hle7) | (refine G.atCode ?_; first | refine G.seq ?_ | refine G.region ?_ | refine G.block ?_ | refine G.skip ?_ | (refine G.cond rfl ?_ ?_ <;> intro hc <;> (try simp only [tests, reduceCtorEq] at hc) <;> (try exact Zf))) | refine G.endOps ?_ | refine G.endBlk ?_ | (refine G.atBin ?_; first | (refine G.atAdd ?_; first | refine G.arith rfl rfl rfl rfl rfl Zi ?_) | refine G.op rfl rfl ?_) | refine G.op rfl rfl ?_ | (refine G.atLoad ?_; first | refine G.loadOwn1 rfl (tyy rfl) rfl rfl Za rfl rfl ?_ | refine G.loadImmA rfl (tyy rfl) rfl rfl Zp Zp rfl ?_) | (refine G.atFld ?_; first | refine G.fieldAddr rfl (tyy rfl) rfl rfl ?_) | (refine G.atSto ?_; refine G.storeOwn rfl rfl (tyy rfl) Za rfl rfl rfl rfl ?_) | (refine G.atAlc ?_; refine G.alloc (tyy rfl) rfl rfl ?_; intro _))
      all_goals first | (exfalso; omega) | exact G.again ⟨i + 1, _, _⟩ ⟨sint (by omega), rfl, rfl, rfl, rfl, rfl, rfl, rfl, rfl, trivial⟩ Zu ⟨by simp only; omega, by simp only [hft]; exact horows.mono (fun x => x.mono (by solve | repeat first | assumption | exact Zr _ | refine Zq ?_ Zp))⟩ (by solve | repeat first | assumption | exact Zr _ | refine Zq ?_ Zp) (by simp only; omega)
  . obtain rfl : i = ats.length := by omega
    rw [List.take_length] at horows
    repeat' (first | (refine G.atCode ?_; first | refine G.seq ?_ | refine G.region ?_ | refine G.exit rfl ?_ | refine G.ret ?_ | (refine G.cond rfl ?_ ?_ <;> intro hc <;> (try simp only [tests, reduceCtorEq] at hc) <;> (try exact Zf))) | refine G.endOps ?_ | (refine G.atBin ?_; first | refine G.op rfl rfl ?_) | refine G.op rfl rfl ?_)
    refine G.freezeRow Take.hd ?_
    intro h8 hle8 hs8
    exact G.done1 rfl rfl _ (SubH.nil _) ⟨⟨_, hs8, horows.mono (fun x => x.mono hle8)⟩, rfl⟩
end Go.Proofs.YtieibicgankemaaGreat
