/- A schema, line by line: schema.listed, Lines, the document's Lines; the law SchemaLines. -/
import Derived.Test.YtfmekdmpghhegaaDoorScY
import Derived.Test.YtfmekdmpghhegaaDoorScTie
import Derived.Test.YtfmekdmpghhegaaDoorLibH
namespace Go.Proofs.YtfmekdmpghhegaaDoor
set_option linter.all false
set_option maxRecDepth 4000
open Go.RowKit

theorem callListed : Callable Tryd.prog 13 := ⟨_, Tryd.func13, by kernel_rfl, rfl⟩
set_option maxRecDepth 8000 in
theorem schema_listed (w : List UInt8) (l : List (List UInt8)) (v : Value) (hw : w.length <= 100) (hl : lsW l <= 1000000000) (h : Heap) (hv : HSl h v 1 (strsR l)) :
    Spec Tryd.prog 13 [str w, v] h [] (fun u _ H' => u = str (listM w l) /\ H' = []) := by
  have hvl := hv.len
  have hj := join_lsW l
  have hll : l.length <= lsW l := by
    unfold lsW
    clear hv hvl hj hl
    induction l with
    | nil => simp
    | cons a r ih => simp only [List.map_cons, List.sum_cons, List.length_cons]; omega
  obtain ⟨A, c, rfl, _⟩ := hv.form
  rw [strsR_length] at hvl
  simp only [strsR_length] at hv ⊢
  by_cases hn : l = []
  . have e1 : listM w l = [] := by unfold listM; rw [if_pos hn]
    have hl0 : l.length = 0 := by rw [hn]; rfl
    rw [e1]
    refine Spec.enter Tryd.func13 rfl rfl ?_; intro w0
    repeat' (first | (refine G.atCode ?_; first | refine G.seq ?_ | refine G.region ?_ | refine G.ret ?_ | (refine G.cond rfl ?_ ?_ <;> intro hc <;> (try simp only [tests, reduceCtorEq] at hc) <;> (try exact Zf))) | refine G.endOps ?_ | (refine G.atBin ?_; first | (refine G.atEql ?_; first | refine G.op rfl rfl ?_)) | refine G.op rfl rfl ?_ | (refine G.atLen ?_; first | refine G.lenSlice rfl (tyy rfl) rfl ?_))
    all_goals first | (exfalso; omega) | exact G.done1 rfl rfl [] (SubH.nil _) ⟨rfl, rfl⟩ | skip
  . have hl0 : 0 < l.length := List.length_pos_iff.2 hn
    have e1 : listM w l = [32] ++ w ++ [32, 40, 32] ++ Lib.join l [32, 36, 32] ++ [32, 41] := by unfold listM; rw [if_neg hn]
    rw [e1]
    refine Spec.enter Tryd.func13 rfl rfl ?_; intro w0
    repeat' (first | (show G _ (.ops .seq _ (⟨some _, .call { callee := .value (.func 27), args := _, argTypes := _ }, _, _, _, none⟩ :: _) :: _) _ _ _; refine G.call callJoinS rfl rfl (strs_JoinH _ [32, 36, 32] l hn (by omega) (by omega) _ (hv.mono (by solve | repeat first | assumption | exact Zr _ | refine Zq ?_ Zp))) Ze ?_; rintro _ h2 H2 ⟨rfl, rfl⟩ hle2) | (refine G.atCode ?_; first | refine G.seq ?_ | refine G.region ?_ | refine G.skip ?_ | refine G.ret ?_ | (refine G.cond rfl ?_ ?_ <;> intro hc <;> (try simp only [tests, reduceCtorEq] at hc) <;> (try exact Zf))) | refine G.endOps ?_ | (refine G.atBin ?_; first | (refine G.atAdd ?_; first | refine G.catStr rfl rfl rfl Zo ?_) | (refine G.atEql ?_; first | refine G.op rfl rfl ?_)) | refine G.op rfl rfl ?_ | (refine G.atLen ?_; first | refine G.lenSlice rfl (tyy rfl) rfl ?_))
    all_goals first | (exfalso; omega) | exact G.done1 rfl rfl [] (SubH.nil _) ⟨rfl, rfl⟩ | skip

def tyL (t : Ty4) : List UInt8 :=
  let a := [40, 32] ++ t.1 ++ [32, 83, 89, 78, 84, 65, 88, 32] ++ Lib.itoa t.2.1
  let b := if t.2.2.1 = true then a ++ [32, 83, 73, 78, 71, 76, 69, 45, 86, 65, 76, 85, 69] else a
  let c := if t.2.2.2 = true then b ++ [32, 78, 79, 45, 85, 83, 69, 82, 45, 77, 79, 68, 73, 70, 73, 67, 65, 84, 73, 79, 78] else b
  c ++ [32, 41]
def clB (c : Cls) : List UInt8 := if c.2.1.length = 0 then [40, 32] ++ c.1 else [40, 32] ++ c.1 ++ ([32, 83, 85, 80, 32] ++ c.2.1)
def clD (c : Cls) : List UInt8 := if c.2.2.1 = 0 then clB c ++ [32, 65, 66, 83, 84, 82, 65, 67, 84] else if c.2.2.1 = 1 then clB c ++ [32, 83, 84, 82, 85, 67, 84, 85, 82, 65, 76] else if c.2.2.1 = 2 then clB c ++ [32, 65, 85, 88, 73, 76, 73, 65, 82, 89] else clB c
def clL (c : Cls) : List UInt8 := clD c ++ listM [77, 85, 83, 84] c.2.2.2.1 ++ listM [77, 65, 89] c.2.2.2.2 ++ [32, 41]
theorem listM_len (w : List UInt8) (l : List (List UInt8)) : (listM w l).length <= w.length + lsW l + 6 := by
  have := join_lsW l
  unfold listM
  split
  . simp
  . simp only [List.length_append, List.length_cons, List.length_nil]; omega
def LnB (C : List Cls) : Prop := ∀ c ∈ C, lsW c.2.2.2.1 <= 100000000 /\ lsW c.2.2.2.2 <= 100000000
theorem lsW_tx (l : List (List UInt8)) : lsW l <= 3 * txW l := by
  unfold lsW txW
  induction l with
  | nil => simp
  | cons a r ih => simp only [List.map_cons, List.sum_cons] at ih ⊢; omega
theorem lnB_of {T : List Ty4} {C : List Cls} (h : (T.map tyW).sum + (C.map clW).sum <= 1048576) : LnB C := fun c hc => by
  have h1 := memS_sum (m := clW) hc
  have h2 := lsW_tx c.2.2.2.1
  have h3 := lsW_tx c.2.2.2.2
  unfold clW at h1 h
  omega
def lnV (u : Value) (h' : Heap) (T : List Ty4) (C : List Cls) : Prop := ∃ v1 v2, u = .tuple #[v1, v2] /\ HSl h' v1 1 (strsR (T.map tyL)) /\ HSl h' v2 1 (strsR (C.map clL))
theorem callLinesS : Callable Tryd.prog 5 := ⟨_, Tryd.func5, by kernel_rfl, rfl⟩
set_option maxRecDepth 8000 in
set_option maxHeartbeats 8000000 in
theorem schema_Lines (T : List Ty4) (C : List Cls) (vT vC : Value) (rc : List (List Value)) (hB : ScB T C) (hL : LnB C) (hI : ∀ t ∈ T, inR .i64 t.2.1) (h : Heap) (hT : TabI h) (hvT : HSl h vT 4 (tyR T)) (hvC : HSl h vC 5 rc) (hrc : ClsC h C rc) :
    Spec Tryd.prog 5 [.agg #[vT, vC]] h [] (fun u h' H' => lnV u h' T C /\ H' = []) := by
  have hrl := hrc.len
  have hbt := hB.tn
  have hbc := hB.cn
  obtain ⟨AT, cT, rfl, hcT, hmT, _⟩ := hvT.form
  obtain ⟨AC, cC, rfl, hcC, hmC, _⟩ := hvC.form
  simp only [tyR_length, hrl] at hvT hvC ⊢
  refine Spec.enter Tryd.func5 rfl rfl ?_; intro w0
  repeat' (first | (refine G.atCode ?_; first | refine G.seq ?_ | refine G.region ?_ | refine G.block ?_) | refine G.endOps ?_ | refine G.op rfl rfl ?_ | (refine G.atLen ?_; first | refine G.lenSlice rfl (tyy rfl) rfl ?_) | (refine G.atLoad ?_; first | refine G.loadOwn1 rfl (tyy rfl) rfl rfl Za rfl rfl ?_) | (refine G.atFld ?_; first | refine G.fieldAddr rfl (tyy rfl) rfl rfl ?_) | (refine G.atBox ?_; refine G.box rfl rfl rfl ?_; intro _))
  rename_i gS
  repeat' (first | (refine G.atCode ?_; refine G.stopLoop ?_))
  refine G.go ?_
  refine G.nilRow 9 1 ?_
  refine G.loop (σ := Nat × Value) (fun x => [(15, .int .i64 x.1), (14, .int .i64 T.length), (13, .slice AT T.length cT), (4, x.2), (5, .slice none 0 0), (1, .pointer (some ⟨gS, 0, none⟩))])
    (fun x => [.row x.2 9 1 (strsR ((T.take x.1).map tyL)), .blk gS [.slice AT T.length cT, .slice AC C.length cC] 25]) (fun x _ => x.1 <= T.length) (fun x => T.length - x.1) ⟨0, .slice none 0 0⟩ ⟨rfl, rfl, rfl, rfl, rfl, rfl, trivial⟩ Zu (Nat.zero_le _) ?_
  rintro ⟨i, va⟩ h1 hle1 hi
  simp only at hi
  refine G.norm (by (try dsimp only) <;> exact rfl) (by (try dsimp only) <;> exact rfl) ?_
  by_cases hlt : i < T.length
  . obtain ⟨t, ht⟩ : ∃ t, T[i]? = some t := ⟨T[i], List.getElem?_eq_getElem hlt⟩
    have hget := tyR_get ht
    have htl := hB.tl _ (List.mem_of_getElem? ht)
    have hir := hI _ (List.mem_of_getElem? ht)
    have hil := itoa_len hir
    have hl4 : ([str t.1, .int .i64 t.2.1, .bool t.2.2.1, .bool t.2.2.2] : List Value).length = 4 := rfl
    have hn : (T.take (i + 1)).map tyL = (T.take i).map tyL ++ [tyL t] := by rw [take_get ht, List.map_append]; rfl
    obtain ⟨X, hX⟩ : ∃ X, X = tyL t := ⟨_, rfl⟩
    rw [<- hX] at hn
    have hPl : ((T.take i).map tyL).length <= i := by rw [List.length_map, List.length_take]; omega
    generalize (T.take i).map tyL = P at *
    obtain ⟨tn, tk, ts, to⟩ := t
    cases ts <;> cases to
    all_goals (unfold tyL at hX; simp only [if_true, if_false, Bool.false_eq_true] at hX; subst hX)
    all_goals (simp only at htl hir hil hget hl4)
    all_goals (repeat' (first | (refine G.atAny ?_; first | refine G.anyAutoX slB rfl rfl Zw (by solve | exact Heap.none_le _ | assumption | exact Zr _ | (repeat first | assumption | exact Zr _ | refine Zq ?_ Zp)) Zd ?_ | refine G.anyKeep slB rfl Zw (by solve | exact Heap.none_le _ | assumption | exact Zr _ | (repeat first | assumption | exact Zr _ | refine Zq ?_ Zp)) Zu ?_ | refine G.anyOne rfl Zw (by solve | exact Heap.none_le _ | assumption | exact Zr _ | (repeat first | assumption | exact Zr _ | refine Zq ?_ Zp)) Zu ?_ | refine G.anyEndX Zw ?_) | (refine G.atIdx ?_; refine G.idxImm rfl rfl (tyy rfl) (tyy rfl) (hvT.mono (by solve | repeat first | assumption | exact Zr _ | refine Zq ?_ Zp)) Zj rfl (by rw [tyR_length]; omega) ?_; intro pp rr hx9 hp9; (rw [hget] at hx9); (obtain rfl := Option.some.inj hx9)) | (show G _ (.ops .seq _ (⟨some _, .call { callee := .value (.func 12), args := _, argTypes := _ }, _, _, _, none⟩ :: _) :: _) _ _ _; refine G.call callItoa rfl rfl (strconv_ItoaS tk hir _ (hT.mono (by solve | repeat first | assumption | exact Zr _ | refine Zq ?_ Zp))) Ze ?_; rintro _ h2 H2 ⟨rfl, rfl⟩ hle2) | (refine G.atCode ?_; first | refine G.seq ?_ | refine G.region ?_ | refine G.block ?_ | refine G.skip ?_ | refine G.anyIn mixedOk ?_ | (refine G.cond rfl ?_ ?_ <;> intro hc <;> (try simp only [tests, reduceCtorEq] at hc) <;> (try exact Zf))) | refine G.endOps ?_ | refine G.endHeld ?_ | refine G.back ?_ | refine G.endBlk ?_ | (refine G.atBin ?_; first | (refine G.atAdd ?_; first | refine G.arith rfl rfl rfl rfl rfl Zi ?_ | refine G.catStr rfl rfl rfl Zo ?_) | refine G.op rfl rfl ?_) | refine G.op rfl rfl ?_ | (refine G.atLoad ?_; first | refine G.loadOwn1 rfl (tyy rfl) rfl rfl Za rfl rfl ?_ | refine G.loadImmA rfl (tyy rfl) rfl rfl Zp Zp rfl ?_) | (refine G.atFld ?_; first | refine G.fieldAddr rfl (tyy rfl) rfl rfl ?_) | (refine G.atSto ?_; refine G.storeOwn rfl rfl (tyy rfl) Za rfl rfl rfl rfl ?_) | (refine G.atAlc ?_; refine G.alloc (tyy rfl) rfl rfl ?_; intro _) | (refine G.atBsl ?_; refine G.buildSlice (tyy rfl) (tyy rfl) rfl rfl rfl rfl ?_; intro _) | (refine G.atApp ?_; first | (refine G.append1S rfl rfl (tyy rfl) (tyy rfl) rfl rfl Za Za rfl Zo ?_; intro _))))
    all_goals first | (exfalso; omega) | (refine G.again ⟨i + 1, _⟩ ⟨sint (by simp), rfl, rfl, rfl, rfl, rfl, trivial⟩ ?_ (by simp only; omega) (by solve | repeat first | assumption | exact Zr _ | refine Zq ?_ Zp) (by simp only; omega); simp only [hn]; exact Zu) | (exfalso; simp_all; done) | skip
  . obtain rfl : i = T.length := by omega
    rw [List.take_length]
    repeat' (first | (refine G.atCode ?_; refine G.stopLoop ?_) | (refine G.atCode ?_; first | refine G.seq ?_ | refine G.region ?_ | refine G.block ?_ | refine G.exit rfl ?_ | (refine G.cond rfl ?_ ?_ <;> intro hc <;> (try simp only [tests, reduceCtorEq] at hc) <;> (try exact Zf))) | refine G.endOps ?_ | (refine G.atBin ?_; first | refine G.op rfl rfl ?_) | refine G.op rfl rfl ?_ | (refine G.atLen ?_; first | refine G.lenSlice rfl (tyy rfl) rfl ?_) | (refine G.atLoad ?_; first | refine G.loadOwn1 rfl (tyy rfl) rfl rfl Za rfl rfl ?_) | (refine G.atFld ?_; first | refine G.fieldAddr rfl (tyy rfl) rfl rfl ?_))
    all_goals (try (exfalso; omega))
    refine G.go ?_
    refine G.nilRow 9 1 ?_
    refine G.loop (σ := Nat × Value) (fun x => [(44, .int .i64 x.1), (43, .int .i64 C.length), (42, .slice AC C.length cC), (4, va), (5, x.2)])
      (fun x => [.row x.2 9 1 (strsR ((C.take x.1).map clL)), .row va 9 1 (strsR (T.map tyL))]) (fun x _ => x.1 <= C.length) (fun x => C.length - x.1) ⟨0, .slice none 0 0⟩ ⟨rfl, rfl, rfl, rfl, rfl, trivial⟩ Zu (Nat.zero_le _) ?_
    rintro ⟨j, vb⟩ h5 hle5 hj
    simp only at hj
    refine G.norm (by (try dsimp only) <;> exact rfl) (by (try dsimp only) <;> exact rfl) ?_
    by_cases hjt : j < C.length
    . obtain ⟨c, hc⟩ : ∃ t, C[j]? = some t := ⟨C[j], List.getElem?_eq_getElem hjt⟩
      obtain ⟨vm, vy, hgetc, hm, hy⟩ := hrc.get hc
      obtain ⟨Am, cm, rfl, _⟩ := hm.form
      obtain ⟨Ay, cy, rfl, _⟩ := hy.form
      obtain ⟨b1, b2, b3, b4, b5, b6⟩ := hB.cl c (List.mem_of_getElem? hc)
      obtain ⟨l1, l2⟩ := hL c (List.mem_of_getElem? hc)
      have m1 := listM_len [77, 85, 83, 84] c.2.2.2.1
      have m2 := listM_len [77, 65, 89] c.2.2.2.2
      simp only [List.length_cons, List.length_nil] at m1 m2
      have hl5 : ([str c.1, str c.2.1, .int .i64 c.2.2.1, .slice Am (strsR c.2.2.2.1).length cm, .slice Ay (strsR c.2.2.2.2).length cy] : List Value).length = 5 := rfl
      have hn : (C.take (j + 1)).map clL = (C.take j).map clL ++ [clL c] := by rw [take_get hc, List.map_append]; rfl
      obtain ⟨X, hX⟩ : ∃ X, X = clL c := ⟨_, rfl⟩
      rw [<- hX] at hn
      have hPl : ((C.take j).map clL).length <= j := by rw [List.length_map, List.length_take]; omega
      generalize (C.take j).map clL = P at *
      have q1 := schema_listed [77, 85, 83, 84] c.2.2.2.1 (.slice Am (strsR c.2.2.2.1).length cm) (by decide) (by omega)
      have q2 := schema_listed [77, 65, 89] c.2.2.2.2 (.slice Ay (strsR c.2.2.2.2).length cy) (by decide) (by omega)
      have hkk : c.2.2.1 = 0 \/ c.2.2.1 = 1 \/ c.2.2.1 = 2 \/ (c.2.2.1 ≠ 0 /\ c.2.2.1 ≠ 1 /\ c.2.2.1 ≠ 2) := by omega
      unfold clL clD clB at hX
      generalize listM [77, 85, 83, 84] c.2.2.2.1 = M1 at *
      generalize listM [77, 65, 89] c.2.2.2.2 = M2 at *
      by_cases hz : c.2.1.length = 0
      all_goals (first | rw [if_pos hz] at hX | rw [if_neg hz] at hX)
      all_goals (rcases hkk with hk | hk | hk | ⟨k0, k1, k2⟩)
      all_goals first | rw [if_neg k0, if_neg k1, if_neg k2] at hX | rw [if_neg (show ¬ c.2.2.1 = 0 by omega), if_neg (show ¬ c.2.2.1 = 1 by omega), if_pos hk] at hX | rw [if_neg (show ¬ c.2.2.1 = 0 by omega), if_pos hk] at hX | rw [if_pos hk] at hX
      all_goals subst hX
      all_goals (repeat' (first | (refine G.atAny ?_; first | refine G.anyAutoX slB rfl rfl Zw (by solve | exact Heap.none_le _ | assumption | exact Zr _ | (repeat first | assumption | exact Zr _ | refine Zq ?_ Zp)) Zd ?_ | refine G.anyKeep slB rfl Zw (by solve | exact Heap.none_le _ | assumption | exact Zr _ | (repeat first | assumption | exact Zr _ | refine Zq ?_ Zp)) Zu ?_ | refine G.anyOne rfl Zw (by solve | exact Heap.none_le _ | assumption | exact Zr _ | (repeat first | assumption | exact Zr _ | refine Zq ?_ Zp)) Zu ?_ | refine G.anyEndX Zw ?_) | (refine G.atIdx ?_; refine G.idxImm rfl rfl (tyy rfl) (tyy rfl) (hvC.mono (by solve | repeat first | assumption | exact Zr _ | refine Zq ?_ Zp)) Zj rfl (by rw [hrl]; omega) ?_; intro pp rr hx9 hp9; (rw [hgetc] at hx9); (obtain rfl := Option.some.inj hx9)) | (show G _ (.ops .seq _ (⟨some _, .call { callee := .value (.func 13), args := _, argTypes := _ }, _, _, _, none⟩ :: _) :: _) _ _ _; refine G.call callListed rfl rfl (q1 _ (hm.mono (by solve | repeat first | assumption | exact Zr _ | refine Zq ?_ Zp))) Ze ?_; rintro _ h6 H6 ⟨rfl, rfl⟩ hle6) | (show G _ (.ops .seq _ (⟨some _, .call { callee := .value (.func 13), args := _, argTypes := _ }, _, _, _, none⟩ :: _) :: _) _ _ _; refine G.call callListed rfl rfl (q2 _ (hy.mono (by solve | repeat first | assumption | exact Zr _ | refine Zq ?_ Zp))) Ze ?_; rintro _ h7 H7 ⟨rfl, rfl⟩ hle7) | (refine G.atCode ?_; first | refine G.seq ?_ | refine G.region ?_ | refine G.block ?_ | refine G.skip ?_ | refine G.anyIn mixedOk ?_ | (refine G.cond rfl ?_ ?_ <;> intro hc <;> (try simp only [tests, reduceCtorEq] at hc) <;> (try exact Zf))) | refine G.endOps ?_ | refine G.endHeld ?_ | refine G.back ?_ | refine G.endBlk ?_ | (refine G.atBin ?_; first | (refine G.atAdd ?_; first | refine G.arith rfl rfl rfl rfl rfl Zi ?_ | refine G.catStr rfl rfl rfl Zo ?_) | (refine G.atEql ?_; first | refine G.op rfl rfl ?_) | (refine G.atNeq ?_; first | refine G.neStr0 rfl rfl rfl ?_) | refine G.op rfl rfl ?_) | refine G.op rfl rfl ?_ | (refine G.atLoad ?_; first | refine G.loadOwn1 rfl (tyy rfl) rfl rfl Za rfl rfl ?_ | refine G.loadImmA rfl (tyy rfl) rfl rfl Zp Zp rfl ?_) | (refine G.atFld ?_; first | refine G.fieldAddr rfl (tyy rfl) rfl rfl ?_) | (refine G.atSto ?_; refine G.storeOwn rfl rfl (tyy rfl) Za rfl rfl rfl rfl ?_) | (refine G.atAlc ?_; refine G.alloc (tyy rfl) rfl rfl ?_; intro _) | (refine G.atBsl ?_; refine G.buildSlice (tyy rfl) (tyy rfl) rfl rfl rfl rfl ?_; intro _) | (refine G.atApp ?_; first | (refine G.append1S rfl rfl (tyy rfl) (tyy rfl) rfl rfl Za Za rfl Zo ?_; intro _))))
      all_goals first | (exfalso; omega) | (refine G.again ⟨j + 1, _⟩ ⟨sint (by simp), rfl, rfl, rfl, rfl, trivial⟩ ?_ (by simp only; omega) (by solve | repeat first | assumption | exact Zr _ | refine Zq ?_ Zp) (by simp only; omega); simp only [hn]; exact Zu) | (exfalso; simp_all; done) | skip
    . obtain rfl : j = C.length := by omega
      rw [List.take_length]
      repeat' (first | (refine G.atCode ?_; first | refine G.seq ?_ | refine G.region ?_ | refine G.exit rfl ?_ | refine G.ret ?_ | (refine G.cond rfl ?_ ?_ <;> intro hc <;> (try simp only [tests, reduceCtorEq] at hc) <;> (try exact Zf))) | refine G.endOps ?_ | (refine G.atBin ?_; first | refine G.op rfl rfl ?_) | refine G.op rfl rfl ?_)
      all_goals (try (exfalso; omega))
      refine G.freezeRow Take.hd ?_
      intro h8 hle8 hs8
      refine G.freezeRow Take.hd ?_
      intro h9 hle9 hs9
      exact G.done (rs := [.tmp 2, .tmp 3]) rfl (.tmp rfl (.tmp rfl .nil)) rfl [] (SubH.nil _) ⟨⟨_, _, rfl, hs9, hs8.mono hle9⟩, rfl⟩
theorem callLinesR : Callable Tryd.prog 6 := ⟨_, Tryd.func6, by kernel_rfl, rfl⟩
set_option maxRecDepth 8000 in
set_option maxHeartbeats 8000000 in
theorem ref13_Lines (T : List Ty4) (C : List Cls) (vT vC : Value) (rc : List (List Value)) (hB : ScB T C) (hL : LnB C) (hI : ∀ t ∈ T, inR .i64 t.2.1) (h : Heap) (hvT : HSl h vT 4 (tyR T)) (hvC : HSl h vC 5 rc) (hrc : ClsC h C rc) :
    Spec Tryd.prog 6 [.agg #[vT, vC]] h [] (fun u h' H' => lnV u h' T C /\ H' = []) := by
  have hrl := hrc.len
  have hbt := hB.tn
  have hbc := hB.cn
  obtain ⟨AT, cT, rfl, hcT, hmT, _⟩ := hvT.form
  obtain ⟨AC, cC, rfl, hcC, hmC, _⟩ := hvC.form
  simp only [tyR_length, hrl] at hvT hvC ⊢
  refine Spec.enter Tryd.func6 rfl rfl ?_; intro w0
  repeat' (first | (refine G.atCode ?_; first | refine G.seq ?_ | refine G.region ?_ | refine G.block ?_) | refine G.endOps ?_ | refine G.op rfl rfl ?_ | (refine G.atLen ?_; first | refine G.lenSlice rfl (tyy rfl) rfl ?_) | (refine G.atLoad ?_; first | refine G.loadOwn1 rfl (tyy rfl) rfl rfl Za rfl rfl ?_) | (refine G.atFld ?_; first | refine G.fieldAddr rfl (tyy rfl) rfl rfl ?_) | (refine G.atBox ?_; refine G.box rfl rfl rfl ?_; intro _))
  rename_i gS
  repeat' (first | (refine G.atCode ?_; refine G.stopLoop ?_))
  refine G.go ?_
  refine G.nilRow 9 1 ?_
  refine G.loop (σ := Nat × Value) (fun x => [(15, .int .i64 x.1), (14, .int .i64 T.length), (13, .slice AT T.length cT), (4, x.2), (5, .slice none 0 0), (1, .pointer (some ⟨gS, 0, none⟩))])
    (fun x => [.row x.2 9 1 (strsR ((T.take x.1).map tyL)), .blk gS [.slice AT T.length cT, .slice AC C.length cC] 25]) (fun x _ => x.1 <= T.length) (fun x => T.length - x.1) ⟨0, .slice none 0 0⟩ ⟨rfl, rfl, rfl, rfl, rfl, rfl, trivial⟩ Zu (Nat.zero_le _) ?_
  rintro ⟨i, va⟩ h1 hle1 hi
  simp only at hi
  refine G.norm (by (try dsimp only) <;> exact rfl) (by (try dsimp only) <;> exact rfl) ?_
  by_cases hlt : i < T.length
  . obtain ⟨t, ht⟩ : ∃ t, T[i]? = some t := ⟨T[i], List.getElem?_eq_getElem hlt⟩
    have hget := tyR_get ht
    have htl := hB.tl _ (List.mem_of_getElem? ht)
    have hir := hI _ (List.mem_of_getElem? ht)
    have hil := itoa_len hir
    have hl4 : ([str t.1, .int .i64 t.2.1, .bool t.2.2.1, .bool t.2.2.2] : List Value).length = 4 := rfl
    have hn : (T.take (i + 1)).map tyL = (T.take i).map tyL ++ [tyL t] := by rw [take_get ht, List.map_append]; rfl
    obtain ⟨X, hX⟩ : ∃ X, X = tyL t := ⟨_, rfl⟩
    rw [<- hX] at hn
    have hPl : ((T.take i).map tyL).length <= i := by rw [List.length_map, List.length_take]; omega
    generalize (T.take i).map tyL = P at *
    obtain ⟨tn, tk, ts, to⟩ := t
    cases ts <;> cases to
    all_goals (unfold tyL at hX; simp only [if_true, if_false, Bool.false_eq_true] at hX; subst hX)
    all_goals (simp only at htl hir hil hget hl4)
    all_goals (repeat' (first | (refine G.atAny ?_; first | refine G.anyAutoX slB rfl rfl Zw (by solve | exact Heap.none_le _ | assumption | exact Zr _ | (repeat first | assumption | exact Zr _ | refine Zq ?_ Zp)) Zd ?_ | refine G.anyKeep slB rfl Zw (by solve | exact Heap.none_le _ | assumption | exact Zr _ | (repeat first | assumption | exact Zr _ | refine Zq ?_ Zp)) Zu ?_ | refine G.anyOne rfl Zw (by solve | exact Heap.none_le _ | assumption | exact Zr _ | (repeat first | assumption | exact Zr _ | refine Zq ?_ Zp)) Zu ?_ | refine G.anyEndX Zw ?_) | (refine G.atIdx ?_; refine G.idxImm rfl rfl (tyy rfl) (tyy rfl) (hvT.mono (by solve | repeat first | assumption | exact Zr _ | refine Zq ?_ Zp)) Zj rfl (by rw [tyR_length]; omega) ?_; intro pp rr hx9 hp9; (rw [hget] at hx9); (obtain rfl := Option.some.inj hx9)) | (show G _ (.ops .seq _ (⟨some _, .call { callee := .value (.func 14), args := _, argTypes := _ }, _, _, _, none⟩ :: _) :: _) _ _ _; refine G.call callDigits rfl rfl (ref13_digits tk hir _) Ze ?_; rintro _ h2 H2 ⟨rfl, rfl⟩ hle2) | (refine G.atCode ?_; first | refine G.seq ?_ | refine G.region ?_ | refine G.block ?_ | refine G.skip ?_ | refine G.anyIn mixedOk ?_ | (refine G.cond rfl ?_ ?_ <;> intro hc <;> (try simp only [tests, reduceCtorEq] at hc) <;> (try exact Zf))) | refine G.endOps ?_ | refine G.endHeld ?_ | refine G.back ?_ | refine G.endBlk ?_ | (refine G.atBin ?_; first | (refine G.atAdd ?_; first | refine G.arith rfl rfl rfl rfl rfl Zi ?_ | refine G.catStr rfl rfl rfl Zo ?_) | refine G.op rfl rfl ?_) | refine G.op rfl rfl ?_ | (refine G.atLoad ?_; first | refine G.loadOwn1 rfl (tyy rfl) rfl rfl Za rfl rfl ?_ | refine G.loadImmA rfl (tyy rfl) rfl rfl Zp Zp rfl ?_) | (refine G.atFld ?_; first | refine G.fieldAddr rfl (tyy rfl) rfl rfl ?_) | (refine G.atSto ?_; refine G.storeOwn rfl rfl (tyy rfl) Za rfl rfl rfl rfl ?_) | (refine G.atAlc ?_; refine G.alloc (tyy rfl) rfl rfl ?_; intro _) | (refine G.atBsl ?_; refine G.buildSlice (tyy rfl) (tyy rfl) rfl rfl rfl rfl ?_; intro _) | (refine G.atApp ?_; first | (refine G.append1S rfl rfl (tyy rfl) (tyy rfl) rfl rfl Za Za rfl Zo ?_; intro _))))
    all_goals first | (exfalso; omega) | (refine G.again ⟨i + 1, _⟩ ⟨sint (by simp), rfl, rfl, rfl, rfl, rfl, trivial⟩ ?_ (by simp only; omega) (by solve | repeat first | assumption | exact Zr _ | refine Zq ?_ Zp) (by simp only; omega); simp only [hn]; exact Zu) | (exfalso; simp_all; done) | skip
  . obtain rfl : i = T.length := by omega
    rw [List.take_length]
    repeat' (first | (refine G.atCode ?_; refine G.stopLoop ?_) | (refine G.atCode ?_; first | refine G.seq ?_ | refine G.region ?_ | refine G.block ?_ | refine G.exit rfl ?_ | (refine G.cond rfl ?_ ?_ <;> intro hc <;> (try simp only [tests, reduceCtorEq] at hc) <;> (try exact Zf))) | refine G.endOps ?_ | (refine G.atBin ?_; first | refine G.op rfl rfl ?_) | refine G.op rfl rfl ?_ | (refine G.atLen ?_; first | refine G.lenSlice rfl (tyy rfl) rfl ?_) | (refine G.atLoad ?_; first | refine G.loadOwn1 rfl (tyy rfl) rfl rfl Za rfl rfl ?_) | (refine G.atFld ?_; first | refine G.fieldAddr rfl (tyy rfl) rfl rfl ?_))
    all_goals (try (exfalso; omega))
    refine G.go ?_
    refine G.nilRow 9 1 ?_
    refine G.loop (σ := Nat × Value) (fun x => [(44, .int .i64 x.1), (43, .int .i64 C.length), (42, .slice AC C.length cC), (4, va), (5, x.2)])
      (fun x => [.row x.2 9 1 (strsR ((C.take x.1).map clL)), .row va 9 1 (strsR (T.map tyL))]) (fun x _ => x.1 <= C.length) (fun x => C.length - x.1) ⟨0, .slice none 0 0⟩ ⟨rfl, rfl, rfl, rfl, rfl, trivial⟩ Zu (Nat.zero_le _) ?_
    rintro ⟨j, vb⟩ h5 hle5 hj
    simp only at hj
    refine G.norm (by (try dsimp only) <;> exact rfl) (by (try dsimp only) <;> exact rfl) ?_
    by_cases hjt : j < C.length
    . obtain ⟨c, hc⟩ : ∃ t, C[j]? = some t := ⟨C[j], List.getElem?_eq_getElem hjt⟩
      obtain ⟨vm, vy, hgetc, hm, hy⟩ := hrc.get hc
      obtain ⟨Am, cm, rfl, _⟩ := hm.form
      obtain ⟨Ay, cy, rfl, _⟩ := hy.form
      obtain ⟨b1, b2, b3, b4, b5, b6⟩ := hB.cl c (List.mem_of_getElem? hc)
      obtain ⟨l1, l2⟩ := hL c (List.mem_of_getElem? hc)
      have m1 := listM_len [77, 85, 83, 84] c.2.2.2.1
      have m2 := listM_len [77, 65, 89] c.2.2.2.2
      simp only [List.length_cons, List.length_nil] at m1 m2
      have hl5 : ([str c.1, str c.2.1, .int .i64 c.2.2.1, .slice Am (strsR c.2.2.2.1).length cm, .slice Ay (strsR c.2.2.2.2).length cy] : List Value).length = 5 := rfl
      have hn : (C.take (j + 1)).map clL = (C.take j).map clL ++ [clL c] := by rw [take_get hc, List.map_append]; rfl
      obtain ⟨X, hX⟩ : ∃ X, X = clL c := ⟨_, rfl⟩
      rw [<- hX] at hn
      have hPl : ((C.take j).map clL).length <= j := by rw [List.length_map, List.length_take]; omega
      generalize (C.take j).map clL = P at *
      have q1 := ref13_list [77, 85, 83, 84] c.2.2.2.1 (.slice Am (strsR c.2.2.2.1).length cm) (by decide) (by omega)
      have q2 := ref13_list [77, 65, 89] c.2.2.2.2 (.slice Ay (strsR c.2.2.2.2).length cy) (by decide) (by omega)
      have hkk : c.2.2.1 = 0 \/ c.2.2.1 = 1 \/ c.2.2.1 = 2 \/ (c.2.2.1 ≠ 0 /\ c.2.2.1 ≠ 1 /\ c.2.2.1 ≠ 2) := by omega
      unfold clL clD clB at hX
      generalize listM [77, 85, 83, 84] c.2.2.2.1 = M1 at *
      generalize listM [77, 65, 89] c.2.2.2.2 = M2 at *
      by_cases hz : c.2.1.length = 0
      all_goals (first | rw [if_pos hz] at hX | rw [if_neg hz] at hX)
      all_goals (rcases hkk with hk | hk | hk | ⟨k0, k1, k2⟩)
      all_goals first | rw [if_neg k0, if_neg k1, if_neg k2] at hX | rw [if_neg (show ¬ c.2.2.1 = 0 by omega), if_neg (show ¬ c.2.2.1 = 1 by omega), if_pos hk] at hX | rw [if_neg (show ¬ c.2.2.1 = 0 by omega), if_pos hk] at hX | rw [if_pos hk] at hX
      all_goals subst hX
      all_goals (repeat' (first | (refine G.atAny ?_; first | refine G.anyAutoX slB rfl rfl Zw (by solve | exact Heap.none_le _ | assumption | exact Zr _ | (repeat first | assumption | exact Zr _ | refine Zq ?_ Zp)) Zd ?_ | refine G.anyKeep slB rfl Zw (by solve | exact Heap.none_le _ | assumption | exact Zr _ | (repeat first | assumption | exact Zr _ | refine Zq ?_ Zp)) Zu ?_ | refine G.anyOne rfl Zw (by solve | exact Heap.none_le _ | assumption | exact Zr _ | (repeat first | assumption | exact Zr _ | refine Zq ?_ Zp)) Zu ?_ | refine G.anyEndX Zw ?_) | (refine G.atIdx ?_; refine G.idxImm rfl rfl (tyy rfl) (tyy rfl) (hvC.mono (by solve | repeat first | assumption | exact Zr _ | refine Zq ?_ Zp)) Zj rfl (by rw [hrl]; omega) ?_; intro pp rr hx9 hp9; (rw [hgetc] at hx9); (obtain rfl := Option.some.inj hx9)) | (show G _ (.ops .seq _ (⟨some _, .call { callee := .value (.func 15), args := _, argTypes := _ }, _, _, _, none⟩ :: _) :: _) _ _ _; refine G.call callList rfl rfl (q1 _ (hm.mono (by solve | repeat first | assumption | exact Zr _ | refine Zq ?_ Zp))) Ze ?_; rintro _ h6 H6 ⟨rfl, rfl⟩ hle6) | (show G _ (.ops .seq _ (⟨some _, .call { callee := .value (.func 15), args := _, argTypes := _ }, _, _, _, none⟩ :: _) :: _) _ _ _; refine G.call callList rfl rfl (q2 _ (hy.mono (by solve | repeat first | assumption | exact Zr _ | refine Zq ?_ Zp))) Ze ?_; rintro _ h7 H7 ⟨rfl, rfl⟩ hle7) | (refine G.atCode ?_; first | refine G.seq ?_ | refine G.region ?_ | refine G.block ?_ | refine G.skip ?_ | refine G.anyIn mixedOk ?_ | (refine G.cond rfl ?_ ?_ <;> intro hc <;> (try simp only [tests, reduceCtorEq] at hc) <;> (try exact Zf))) | refine G.endOps ?_ | refine G.endHeld ?_ | refine G.back ?_ | refine G.endBlk ?_ | (refine G.atBin ?_; first | (refine G.atAdd ?_; first | refine G.arith rfl rfl rfl rfl rfl Zi ?_ | refine G.catStr rfl rfl rfl Zo ?_) | (refine G.atEql ?_; first | refine G.op rfl rfl ?_) | (refine G.atNeq ?_; first | refine G.neStr0 rfl rfl rfl ?_) | refine G.op rfl rfl ?_) | refine G.op rfl rfl ?_ | (refine G.atLoad ?_; first | refine G.loadOwn1 rfl (tyy rfl) rfl rfl Za rfl rfl ?_ | refine G.loadImmA rfl (tyy rfl) rfl rfl Zp Zp rfl ?_) | (refine G.atFld ?_; first | refine G.fieldAddr rfl (tyy rfl) rfl rfl ?_) | (refine G.atSto ?_; refine G.storeOwn rfl rfl (tyy rfl) Za rfl rfl rfl rfl ?_) | (refine G.atAlc ?_; refine G.alloc (tyy rfl) rfl rfl ?_; intro _) | (refine G.atBsl ?_; refine G.buildSlice (tyy rfl) (tyy rfl) rfl rfl rfl rfl ?_; intro _) | (refine G.atApp ?_; first | (refine G.append1S rfl rfl (tyy rfl) (tyy rfl) rfl rfl Za Za rfl Zo ?_; intro _))))
      all_goals first | (exfalso; omega) | (refine G.again ⟨j + 1, _⟩ ⟨sint (by simp), rfl, rfl, rfl, rfl, trivial⟩ ?_ (by simp only; omega) (by solve | repeat first | assumption | exact Zr _ | refine Zq ?_ Zp) (by simp only; omega); simp only [hn, List.append_assoc, List.cons_append, List.nil_append]; exact Zu) | (exfalso; simp_all; done) | skip
    . obtain rfl : j = C.length := by omega
      rw [List.take_length]
      repeat' (first | (refine G.atCode ?_; first | refine G.seq ?_ | refine G.region ?_ | refine G.exit rfl ?_ | refine G.ret ?_ | (refine G.cond rfl ?_ ?_ <;> intro hc <;> (try simp only [tests, reduceCtorEq] at hc) <;> (try exact Zf))) | refine G.endOps ?_ | (refine G.atBin ?_; first | refine G.op rfl rfl ?_) | refine G.op rfl rfl ?_)
      all_goals (try (exfalso; omega))
      refine G.freezeRow Take.hd ?_
      intro h8 hle8 hs8
      refine G.freezeRow Take.hd ?_
      intro h9 hle9 hs9
      exact G.done (rs := [.tmp 2, .tmp 3]) rfl (.tmp rfl (.tmp rfl .nil)) rfl [] (SubH.nil _) ⟨⟨_, _, rfl, hs9, hs8.mono hle9⟩, rfl⟩
set_option maxRecDepth 8000 in
set_option maxHeartbeats 8000000 in
theorem law_SchemaLines (T : List Ty4) (C : List Cls) (vT vC : Value) (rc : List (List Value)) (hB : ScB T C) (hL : LnB C) (hI : ∀ t ∈ T, inR .i64 t.2.1) (h : Heap) (hT : TabI h) (hvT : HSl h vT 4 (tyR T)) (hvC : HSl h vC 5 rc) (hrc : ClsC h C rc) :
    Spec Tryd.prog 3 [.agg #[vT, vC]] h [] (fun u _ _ => u = .bool true) := by
  have hrl := hrc.len
  have hbt := hB.tn
  have hbc := hB.cn
  obtain ⟨AT, cT, rfl, hcT, hmT, _⟩ := hvT.form
  obtain ⟨AC, cC, rfl, hcC, hmC, _⟩ := hvC.form
  simp only [tyR_length, hrl] at hvT hvC ⊢
  have s1 := schema_Lines T C (.slice AT T.length cT) (.slice AC C.length cC) rc hB hL hI
  have s2 := ref13_Lines T C (.slice AT T.length cT) (.slice AC C.length cC) rc hB hL hI
  unfold lnV at s1 s2
  generalize T.map tyL = L1 at *
  generalize C.map clL = L2 at *
  refine Spec.enter Tryd.func3 rfl rfl ?_; intro w0
  repeat' (first | (refine G.atCode ?_; first | refine G.seq ?_ | refine G.region ?_ | refine G.block ?_) | refine G.endOps ?_ | refine G.op rfl rfl ?_ | (refine G.atLen ?_; first | refine G.lenSlice rfl (tyy rfl) rfl ?_) | (refine G.atLoad ?_; first | refine G.loadOwn1 rfl (tyy rfl) rfl rfl Za rfl rfl ?_) | (refine G.atFld ?_; first | refine G.fieldAddr rfl (tyy rfl) rfl rfl ?_) | (refine G.atBox ?_; refine G.box rfl rfl rfl ?_; intro _))
  rename_i gS
  repeat' (first | (refine G.atCode ?_; refine G.stopLoop ?_))
  refine G.go ?_
  refine G.loop (σ := Nat × Int) (fun x => [(13, .int .i64 x.1), (12, .int .i64 C.length), (11, .slice AC C.length cC), (3, .int .i64 x.2), (1, .pointer (some ⟨gS, 0, none⟩))])
    (fun _ => [.blk gS [.slice AT T.length cT, .slice AC C.length cC] 25]) (fun x _ => x.1 <= C.length /\ 0 <= x.2 /\ x.2 <= 3000) (fun x => C.length - x.1) ⟨0, 0⟩ ⟨rfl, rfl, rfl, rfl, rfl, trivial⟩ Zu ⟨Nat.zero_le _, by decide, by decide⟩ ?_
  rintro ⟨i, n⟩ h1 hle1 ⟨hi, hn0, hn1⟩
  simp only at hi hn0 hn1
  refine G.norm (by (try dsimp only) <;> exact rfl) (by (try dsimp only) <;> exact rfl) ?_
  by_cases hlt : i < C.length
  . obtain ⟨c, hc⟩ : ∃ t, C[i]? = some t := ⟨C[i], List.getElem?_eq_getElem hlt⟩
    obtain ⟨vm, vy, hget, hm, hy⟩ := hrc.get hc
    obtain ⟨b1, b2, b3, b4, b5, b6⟩ := hB.cl c (List.mem_of_getElem? hc)
    obtain ⟨Am, cm, rfl, _⟩ := hm.form
    obtain ⟨Ay, cy, rfl, _⟩ := hy.form
    have e1 := strsR_length c.2.2.2.1
    have e2 := strsR_length c.2.2.2.2
    have hl5 : ([str c.1, str c.2.1, .int .i64 c.2.2.1, .slice Am (strsR c.2.2.2.1).length cm, .slice Ay (strsR c.2.2.2.2).length cy] : List Value).length = 5 := rfl
    repeat' (first | (refine G.minI rfl rfl rfl ?_) | (refine G.atIdx ?_; refine G.idxImm rfl rfl (tyy rfl) (tyy rfl) (hvC.mono (by solve | repeat first | assumption | exact Zr _ | refine Zq ?_ Zp)) Zj rfl (by rw [hrl]; omega) ?_; intro pp rr hx9 hp9; (rw [hget] at hx9); (obtain rfl := Option.some.inj hx9)) | (show G _ (.ops .seq _ (⟨some _, .call { callee := .value (.func 4), args := _, argTypes := _ }, _, _, _, none⟩ :: _) :: _) _ _ _; refine G.call callAwake13 rfl rfl (law13_awake _) Ze ?_; rintro _ haw Haw ⟨rfl, rfl⟩ hleaw) | (refine G.atCode ?_; first | refine G.seq ?_ | refine G.region ?_ | refine G.block ?_ | refine G.skip ?_ | refine G.ret ?_ | (refine G.cond rfl ?_ ?_ <;> intro hc <;> (try simp only [tests, reduceCtorEq] at hc) <;> (try exact Zf))) | refine G.endOps ?_ | refine G.endBlk ?_ | (refine G.atGd ?_; first | refine G.guardYes rfl rfl ?_ | refine G.guardNoS rfl rfl rfl ?_ | (refine G.guardS rfl rfl rfl ?_ ?_ <;> intro hc <;> (try simp only [tests, reduceCtorEq] at hc) <;> (try exact Zf))) | (refine G.atBin ?_; first | (refine G.atAdd ?_; first | refine G.arith rfl rfl rfl rfl rfl Zi ?_) | refine G.op rfl rfl ?_) | refine G.op rfl rfl ?_ | (refine G.atLen ?_; first | refine G.lenSlice rfl (tyy rfl) rfl ?_) | (refine G.atLoad ?_; first | refine G.loadOwn1 rfl (tyy rfl) rfl rfl Za rfl rfl ?_ | refine G.loadImmA rfl (tyy rfl) rfl rfl Zp Zp rfl ?_) | (refine G.atFld ?_; first | refine G.fieldAddr rfl (tyy rfl) rfl rfl ?_) | (refine G.atSto ?_; refine G.storeOwn rfl rfl (tyy rfl) Za rfl rfl rfl rfl ?_) | (refine G.atAlc ?_; refine G.alloc (tyy rfl) rfl rfl ?_; intro _))
    all_goals first | (exfalso; omega) | exact G.done1 rfl rfl [] (SubH.nil _) rfl | exact G.again ⟨i + 1, _⟩ ⟨sint (by simp), rfl, rfl, rfl, rfl, trivial⟩ Zu ⟨by simp only; omega, by simp only; omega, by simp only; omega⟩ (by solve | repeat first | assumption | exact Zr _ | refine Zq ?_ Zp) (by simp only; omega) | skip
  . obtain rfl : i = C.length := by omega
    repeat' (first | (show G _ (.ops .seq _ (⟨some _, .call { callee := .value (.func 4), args := _, argTypes := _ }, _, _, _, none⟩ :: _) :: _) _ _ _; refine G.call callAwake13 rfl rfl (law13_awake _) Ze ?_; rintro _ haw Haw ⟨rfl, rfl⟩ hleaw) | (show G _ (.ops .seq _ (⟨some _, .call { callee := .value (.func 5), args := _, argTypes := _ }, _, _, _, none⟩ :: _) :: _) _ _ _; refine G.call callLinesS rfl rfl (s1 _ (hT.mono (by solve | repeat first | assumption | exact Zr _ | refine Zq ?_ Zp)) (hvT.mono (by solve | repeat first | assumption | exact Zr _ | refine Zq ?_ Zp)) (hvC.mono (by solve | repeat first | assumption | exact Zr _ | refine Zq ?_ Zp)) (hrc.mono (by solve | repeat first | assumption | exact Zr _ | refine Zq ?_ Zp))) Ze ?_; rintro _ h3 H3 ⟨⟨a1, a2, rfl, ha1, ha2⟩, rfl⟩ hle3) | (show G _ (.ops .seq _ (⟨some _, .call { callee := .value (.func 6), args := _, argTypes := _ }, _, _, _, none⟩ :: _) :: _) _ _ _; refine G.call callLinesR rfl rfl (s2 _ (hvT.mono (by solve | repeat first | assumption | exact Zr _ | refine Zq ?_ Zp)) (hvC.mono (by solve | repeat first | assumption | exact Zr _ | refine Zq ?_ Zp)) (hrc.mono (by solve | repeat first | assumption | exact Zr _ | refine Zq ?_ Zp))) Ze ?_; rintro _ h4 H4 ⟨⟨e1, e2, rfl, he1, he2⟩, rfl⟩ hle4) | (show G _ (.ops .seq _ (⟨some _, .call { callee := .value (.func 7), args := _, argTypes := _ }, _, _, _, none⟩ :: _) :: _) _ _ _; refine G.call callSame13 rfl rfl (law13_same L1 a1 e1 _ (ha1.mono (by solve | repeat first | assumption | exact Zr _ | refine Zq ?_ Zp)) (he1.mono (by solve | repeat first | assumption | exact Zr _ | refine Zq ?_ Zp))) Ze ?_; rintro _ h7 H7 ⟨rfl, rfl⟩ hle7) | (show G _ (.ops .seq _ (⟨some _, .call { callee := .value (.func 7), args := _, argTypes := _ }, _, _, _, none⟩ :: _) :: _) _ _ _; refine G.call callSame13 rfl rfl (law13_same L2 a2 e2 _ (ha2.mono (by solve | repeat first | assumption | exact Zr _ | refine Zq ?_ Zp)) (he2.mono (by solve | repeat first | assumption | exact Zr _ | refine Zq ?_ Zp))) Ze ?_; rintro _ h8 H8 ⟨rfl, rfl⟩ hle8) | (refine G.atCode ?_; first | refine G.seq ?_ | refine G.region ?_ | refine G.skip ?_ | refine G.exit rfl ?_ | refine G.ret ?_ | (refine G.cond rfl ?_ ?_ <;> intro hc <;> (try simp only [tests, reduceCtorEq] at hc) <;> (try exact Zf))) | refine G.endOps ?_ | (refine G.atGd ?_; first | refine G.guardYes rfl rfl ?_) | (refine G.atBin ?_; first | refine G.op rfl rfl ?_) | refine G.op rfl rfl ?_ | (refine G.atLen ?_; first | refine G.lenSlice rfl (tyy rfl) rfl ?_) | (refine G.atLoad ?_; first | refine G.loadOwn1 rfl (tyy rfl) rfl rfl Za rfl rfl ?_ | refine G.loadOwnA rfl (tyy rfl) rfl rfl Za rfl rfl ?_) | (refine G.atFld ?_; first | refine G.fieldAddr rfl (tyy rfl) rfl rfl ?_))
    all_goals first | (exfalso; omega) | exact G.done1 rfl rfl [] (SubH.nil _) rfl | (exfalso; simp_all; done) | skip
end Go.Proofs.YtfmekdmpghhegaaDoor
