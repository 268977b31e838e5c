/- castellanlaw27.ConnBinds. -/
import Derived.Test.YtibkffoeioidlaaDoorCoK
namespace Go.Proofs.YtibkffoeioidlaaDoor
set_option linter.all false
set_option maxRecDepth 4000
open Go.RowKit

def AnH (M : List (Value × List (List Value))) : List Chunk := M.map fun x => .row x.1 40 2 x.2
theorem AvH_AnH (L : List (Value × Rdn)) : AvH L = AnH (L.map fun x => (x.1, avaR x.2)) := by
  unfold AvH AnH
  rw [List.map_map]; rfl
theorem AnH_split (P Q : List (Value × List (List Value))) (x : Value × List (List Value)) : AnH (P ++ x :: Q) = AnH P ++ .row x.1 40 2 x.2 :: AnH Q := by
  unfold AnH
  rw [List.map_append, List.map_cons]
theorem sub_out (C A B : List Chunk) (x : Chunk) : SubH (x :: (C ++ (A ++ B))) (C ++ (A ++ x :: B)) := ⟨[], by
  simp only [List.append_nil]
  rw [<- List.append_assoc, ← List.append_assoc]
  exact List.perm_middle⟩
theorem sub_in (C A B : List Chunk) (x : Chunk) : SubH (C ++ (A ++ x :: B)) (x :: (C ++ (A ++ B))) := ⟨[], by
  simp only [List.append_nil]
  rw [<- List.append_assoc, ← List.append_assoc]
  exact List.perm_middle.symm⟩
set_option maxRecDepth 8000 in
set_option maxHeartbeats 16000000 in
theorem law_ConnBinds (d1 d2 : Dn) (v1 v2 : Value) (hd1 : dnW d1 <= 10000000) (hd2 : dnW d2 <= 10000000) (h : Heap) (hT : TabW h) (hv1 : DnC h d1 v1) (hv2 : DnC h d2 v2) :
    Spec Tryd.prog 4 [v1, v2] h [] (fun u _ _ => u = .bool true) := by
  have hB1 := fun gc wv pv h hv => conn_Bind gc wv pv false d1 v1 hd1 h hv
  have hB2 := fun gc wv pv h hv => conn_Bind gc wv pv false d2 v2 hd2 h hv
  have hTw := fun h hv => ref09_Twin d1 v1 hd1 h hv
  obtain ⟨A1, n1, c1, rfl⟩ : ∃ A n c, v1 = .slice A n c := by
    obtain ⟨rows, hs, _⟩ := hv1
    obtain ⟨A, c, e, _⟩ := hs.form
    exact ⟨_, _, _, e⟩
  obtain ⟨A2, n2, c2, rfl⟩ : ∃ A n c, v2 = .slice A n c := by
    obtain ⟨rows, hs, _⟩ := hv2
    obtain ⟨A, c, e, _⟩ := hs.form
    exact ⟨_, _, _, e⟩
  by_cases hn : 40 < n1 \/ 40 < n2
  . refine Spec.enter Tryd.func4 rfl rfl ?_; intro w0
    repeat' (first | (show G _ (.ops .seq _ (⟨some _, .call { callee := .value (.func 13), args := _, argTypes := _ }, _, _, _, none⟩ :: _) :: _) _ _ _; refine G.call callAwake27 rfl rfl (law27_awake _ (hT.mono (by solve | repeat first | assumption | exact Zr _ | refine Zq ?_ (by assumption)))) (by solve | repeat first | apply Zn | apply Zh | apply Zt | apply Zc) ?_; rintro _ h6 H6 ⟨rfl, rfl⟩ hle6) | (refine G.atCode ?_; first | refine G.seq ?_ | refine G.region ?_ | refine G.ret ?_ | (refine G.cond rfl ?_ ?_ <;> intro hc <;> (try simp only [tests, reduceCtorEq] at hc) <;> (try (exfalso; first | omega | exact Zx hc | exact Zy hc | exact Zb hc | exact hc | exact hc trivial)))) | refine G.endOps ?_ | (refine G.atGd ?_; first | refine G.guardYes rfl rfl ?_ | refine G.guardNoS rfl rfl rfl ?_ | (refine G.guardS rfl rfl rfl ?_ ?_ <;> intro hc <;> (try simp only [tests, reduceCtorEq] at hc) <;> (try (exfalso; first | omega | exact Zx hc | exact Zy hc | exact Zb hc | exact hc | exact hc trivial)))) | (refine G.atBin ?_; first | refine G.op rfl rfl ?_) | refine G.op rfl rfl ?_ | (refine G.atLen ?_; first | refine G.lenSlice rfl (tyy rfl) rfl ?_))
    all_goals first | (exfalso; omega) | exact G.done1 rfl rfl [] (SubH.nil _) rfl | skip
  refine Spec.enter Tryd.func4 rfl rfl ?_; intro w0
  repeat' (first | (show G _ (.ops .seq _ (⟨some _, .call { callee := .value (.func 14), args := _, argTypes := _ }, _, _, _, none⟩ :: _) :: _) _ _ _; refine G.call callCnNew rfl rfl (conn_New _) (by solve | repeat first | apply Zn | apply Zh | apply Zt | apply Zc) ?_; rintro _ h4 H4 ⟨gc, gb, rfl, rfl⟩ hle4) | (show G _ (.ops .seq _ (⟨some _, .call { callee := .value (.func 18), args := _, argTypes := _ }, _, _, _, none⟩ :: _) :: _) _ _ _; refine Hold.out ?_) | (refine G.atCode ?_; first | refine G.seq ?_ | refine G.region ?_ | refine G.skip ?_ | (refine G.cond rfl ?_ ?_ <;> intro hc <;> (try simp only [tests, reduceCtorEq] at hc) <;> (try (exfalso; first | omega | exact Zx hc | exact Zy hc | exact Zb hc | exact hc | exact hc trivial)))) | refine G.endOps ?_ | (refine G.atGd ?_; first | refine G.guardYes rfl rfl ?_ | (refine G.guardS rfl rfl rfl ?_ ?_ <;> intro hc <;> (try simp only [tests, reduceCtorEq] at hc) <;> (try (exfalso; first | omega | exact Zx hc | exact Zy hc | exact Zb hc | exact hc | exact hc trivial)))) | (refine G.atBin ?_; first | refine G.op rfl rfl ?_) | refine G.op rfl rfl ?_ | (refine G.atLen ?_; first | refine G.lenSlice rfl (tyy rfl) rfl ?_))
  all_goals first | (exfalso; omega) | skip
  refine ⟨?_⟩
  refine G.call callCnWho rfl rfl (conn_Who gc _ _ [] (by decide) _ (DnC.nil _)) (by solve | repeat first | apply Zn | apply Zh | apply Zt | apply Zc) ?_
  rintro u0 h5 H5 ⟨hw0, rfl⟩ hle5
  obtain ⟨A0, c0, rfl⟩ : ∃ A c, u0 = .slice A 0 c := by
    obtain ⟨rows, hs, hr⟩ := hw0
    obtain ⟨A, c, e, _⟩ := hs.form
    have : rows.length = 0 := hr.len
    rw [this] at e
    exact ⟨A, c, e⟩
  repeat' (first | (show G _ (.ops .seq _ (⟨some _, .call { callee := .value (.func 17), args := _, argTypes := _ }, _, _, _, none⟩ :: _) :: _) _ _ _; refine G.call callCnClosed rfl rfl (conn_Closed gc _ _ _ _) (by solve | repeat first | apply Zn | apply Zh | apply Zt | apply Zc) ?_; rintro _ h6 H6 ⟨rfl, rfl⟩ hle6) | (show G _ (.ops .seq _ (⟨some _, .call { callee := .value (.func 19), args := _, argTypes := _ }, _, _, _, none⟩ :: _) :: _) _ _ _; refine G.call callTwin9 rfl rfl (hTw _ (hv1.mono (by solve | repeat first | assumption | exact Zr _ | refine Zq ?_ (by assumption)))) (by solve | repeat first | apply Zn | apply Zh | apply Zt | apply Zc) ?_; rintro was h7 H7 ⟨hwas, rfl⟩ hle7) | (show G _ (.ops .seq _ (⟨some _, .call { callee := .value (.func 20), args := _, argTypes := _ }, _, _, _, none⟩ :: _) :: _) _ _ _; refine G.call callCnBind rfl rfl (hB1 gc _ _ _ (hv1.mono (by solve | repeat first | assumption | exact Zr _ | refine Zq ?_ (by assumption)))) (by solve | repeat first | apply Zn | apply Zh | apply Zt | apply Zc) ?_; rintro _ h8 H8 ⟨rfl, wv1, hwv1, rfl⟩ hle8) | (show G _ (.ops .seq _ (⟨some _, .call { callee := .value (.func 18), args := _, argTypes := _ }, _, _, _, none⟩ :: _) :: _) _ _ _; refine Hold.out ?_) | (refine G.atCode ?_; first | refine G.seq ?_ | refine G.region ?_ | refine G.skip ?_ | (refine G.cond rfl ?_ ?_ <;> intro hc <;> (try simp only [tests, reduceCtorEq] at hc) <;> (try (exfalso; first | omega | exact Zx hc | exact Zy hc | exact Zb hc | exact hc | exact hc trivial)))) | refine G.endOps ?_ | (refine G.atGd ?_; first | refine G.guardYes rfl rfl ?_) | (refine G.atBin ?_; first | (refine G.atNeq ?_; first | refine G.op rfl rfl ?_)) | refine G.op rfl rfl ?_ | (refine G.atLen ?_; first | refine G.lenSlice rfl (tyy rfl) rfl ?_))
  all_goals first | (exfalso; omega) | (exfalso; simp_all; done) | skip
  refine ⟨?_⟩
  refine G.call callCnWho rfl rfl (conn_WhoOwn gc _ _ d1 hd1 _ (hwv1.mono (by solve | repeat first | assumption | exact Zr _ | refine Zq ?_ (by assumption)))) (by solve | repeat first | apply Zn | apply Zh | apply Zt | apply Zc) ?_
  rintro u1 h9 H9 ⟨_, ⟨L, hLd, hLs, hLf, rfl⟩, rfl⟩ hle9
  obtain ⟨Au, cu, rfl, _⟩ := hLs.form
  have hLb := hLs.len
  rw [List.length_map, List.length_reverse] at hLs hLb ⊢
  rw [AvH_AnH]
  repeat' (first | (refine G.atCode ?_; refine G.stopLoop ?_) | (refine G.atCode ?_; first | refine G.block ?_) | refine G.endOps ?_ | refine G.op rfl rfl ?_ | (refine G.atLen ?_; first | refine G.lenSlice rfl (tyy rfl) rfl ?_))
  all_goals first | (exfalso; omega) | skip
  refine G.go ?_
  refine G.loop (σ := Nat × List (Value × List (List Value))) (fun x => [(39, .int .i64 x.1), (38, .int .i64 L.length), (37, .slice Au L.length cu), (6, was), (5, .pointer (some ⟨gc, 0, none⟩)), (1, .slice A2 n2 c2), (0, .slice A1 n1 c1)])
    (fun x => .blk gc [wv1, .pointer (some ⟨gb, 0, none⟩), .bool false] 79 :: .blk gb [str [], .int .i64 0] 125 :: AnH x.2)
    (fun x _ => x.1 <= L.length /\ x.2.reverse.map Prod.fst = L.reverse.map Prod.fst /\ ∀ y ∈ x.2, ∃ A c, y.1 = Value.slice A y.2.length c /\ y.2.length <= 10000000) (fun x => L.length - x.1) ⟨0, L.map fun x => (x.1, avaR x.2)⟩
    ⟨rfl, rfl, rfl, rfl, rfl, rfl, rfl, trivial⟩ ⟨[], by simp only [List.append_nil]; exact List.Perm.cons _ (List.perm_append_singleton _ _)⟩ ⟨Nat.zero_le _, by simp [← List.map_reverse, Function.comp_def], fun y hy => by
      obtain ⟨x, hx, rfl⟩ := List.mem_map.1 hy
      obtain ⟨A, c, e⟩ := hLf x hx
      refine ⟨A, c, e, ?_⟩
      have hm : x.2 ∈ d1 := by
        rw [show d1 = L.reverse.map Prod.snd from hLd.symm]
        exact List.mem_map_of_mem (List.mem_reverse.2 hx)
      have h1 := rdnW_le hm
      have h2 := rdn_len_le x.2
      simp only [avaR_length]
      omega⟩ ?_
  rintro ⟨i, M⟩ h10 hle10 ⟨hi, hM, hMf⟩
  simp only at hi hM hMf
  refine G.norm (by (try dsimp only) <;> exact rfl) (by (try dsimp only) <;> exact rfl) ?_
  have hMl : M.length = L.length := by
    have := congrArg List.length hM
    simpa using this
  by_cases hlt : i < L.length
  . have hil : i < M.reverse.length := by rw [List.length_reverse]; omega
    obtain ⟨x, hx⟩ : ∃ x, M.reverse[i]? = some x := ⟨_, List.getElem?_eq_getElem hil⟩
    have hget : (L.reverse.map fun y => [y.1])[i]? = some [x.1] := by
      rw [show (L.reverse.map fun y => [y.1]) = (L.reverse.map Prod.fst).map (fun v => [v]) by rw [List.map_map]; rfl, ← hM, List.getElem?_map, List.getElem?_map, hx]; rfl
    obtain ⟨P, Q, hPQ⟩ : ∃ P Q, M = Q ++ x :: P := by
      refine ⟨(M.reverse.take i).reverse, (M.reverse.drop (i + 1)).reverse, ?_⟩
      have e : M.reverse = M.reverse.take i ++ x :: M.reverse.drop (i + 1) := by
        have h1 := (List.getElem?_eq_some_iff.1 hx).2
        rw [<- h1, ← List.drop_eq_getElem_cons hil, List.take_append_drop]
      have e2 := congrArg List.reverse e
      rw [List.reverse_reverse, List.reverse_append, List.reverse_cons, List.append_assoc] at e2
      exact e2
    subst hPQ
    obtain ⟨u, rws⟩ := x
    obtain ⟨Ar, cr, hu, hrb⟩ := hMf (u, rws) (by simp)
    simp only at hu hget hrb
    subst hu
    rw [AnH_split]
    have hl1 : ([.slice Ar rws.length cr] : List Value).length = 1 := rfl
    repeat' (first | (refine G.atIdx ?_; refine G.idxImm rfl rfl (tyy rfl) (tyy rfl) (hLs.mono (by solve | repeat first | assumption | exact Zr _ | refine Zq ?_ (by assumption))) (by first | (simp only [Int.reduceToNat]; rfl) | with_reducible apply Int.toNat_natCast | exact Eq.refl _) rfl (by simp only [List.length_map, List.length_reverse]; omega) ?_; intro p1 r1 hx1 hp1; (rw [hget] at hx1); (obtain rfl := Option.some.inj hx1)) | (refine G.atCode ?_; refine G.stopLoop ?_) | (refine G.atCode ?_; first | refine G.seq ?_ | refine G.region ?_ | refine G.block ?_ | refine G.skip ?_ | (refine G.cond rfl ?_ ?_ <;> intro hc <;> (try simp only [tests, reduceCtorEq] at hc) <;> (try (exfalso; first | omega | exact Zx hc | exact Zy hc | exact Zb hc | exact hc | exact hc trivial)))) | refine G.endOps ?_ | (refine G.atBin ?_; first | refine G.op rfl rfl ?_) | refine G.op rfl rfl ?_ | (refine G.atLen ?_; first | refine G.lenSlice rfl (tyy rfl) rfl ?_) | (refine G.atLoad ?_; first | refine G.loadImm1 rfl (tyy rfl) rfl rfl (by assumption) rfl ?_))
    all_goals first | (exfalso; omega) | skip
    refine G.go ?_
    refine G.loop (σ := Nat × List (List Value)) (fun x => [(45, .int .i64 x.1), (44, .int .i64 rws.length), (8, .slice Ar rws.length cr), (39, .int .i64 i), (38, .int .i64 L.length), (37, .slice Au L.length cu), (6, was), (5, .pointer (some ⟨gc, 0, none⟩)), (1, .slice A2 n2 c2), (0, .slice A1 n1 c1)])
      (fun x => .row (.slice Ar rws.length cr) 40 2 x.2 :: ([.blk gc [wv1, .pointer (some ⟨gb, 0, none⟩), .bool false] 79, .blk gb [str [], .int .i64 0] 125] ++ (AnH Q ++ AnH P)))
      (fun x _ => x.1 <= rws.length /\ x.2.length = rws.length) (fun x => rws.length - x.1) ⟨0, rws⟩ ⟨rfl, rfl, rfl, rfl, rfl, rfl, rfl, rfl, rfl, rfl, trivial⟩ (sub_out _ _ _ _) ⟨Nat.zero_le _, rfl⟩ ?_
    rintro ⟨j, rw2⟩ h11 hle11 ⟨hj, hjl⟩
    simp only at hj hjl
    refine G.norm (by (try dsimp only) <;> exact rfl) (by (try dsimp only) <;> exact rfl) ?_
    by_cases hlj : j < rws.length
    . repeat' (first | (refine G.atIdx ?_; refine G.idxRow' rfl rfl (tyy rfl) (tyy rfl) (by solve | repeat first | apply Zh | apply Zt) (by first | (simp only [Int.reduceToNat]; rfl) | with_reducible apply Int.toNat_natCast | exact Eq.refl _) rfl (by omega) ?_; intro _ _) | (refine G.atSto ?_; refine G.storeRowAt rfl rfl (tyy rfl) (by assumption) (by solve | repeat first | apply Zh | apply Zt) rfl rfl (by decide) (by omega) ?_) | (refine G.atCode ?_; first | refine G.seq ?_ | refine G.region ?_ | refine G.block ?_ | refine G.skip ?_ | (refine G.cond rfl ?_ ?_ <;> intro hc <;> (try simp only [tests, reduceCtorEq] at hc) <;> (try (exfalso; first | omega | exact Zx hc | exact Zy hc | exact Zb hc | exact hc | exact hc trivial)))) | refine G.endOps ?_ | refine G.endBlk ?_ | (refine G.atBin ?_; first | (refine G.atAdd ?_; first | refine G.arith rfl rfl rfl rfl rfl (by simp only [inR]; omega) ?_) | refine G.op rfl rfl ?_) | refine G.op rfl rfl ?_ | (refine G.atFld ?_; first | refine G.fieldAddrP rfl (tyy rfl) rfl rfl ?_))
      all_goals first | (exfalso; omega) | skip
      all_goals exact G.again ⟨j + 1, _⟩ ⟨sint (by simp only; omega), rfl, rfl, rfl, rfl, rfl, rfl, rfl, rfl, rfl, trivial⟩ (SubH.rfl_ _) ⟨by simp only; omega, by simp only [List.length_set]; exact hjl⟩ (by solve | repeat first | assumption | exact Zr _ | refine Zq ?_ (by assumption)) (by simp only; omega)
    . obtain rfl : j = rws.length := by omega
      repeat' (first | (refine G.atCode ?_; first | refine G.seq ?_ | refine G.region ?_ | refine G.exit rfl ?_ | (refine G.cond rfl ?_ ?_ <;> intro hc <;> (try simp only [tests, reduceCtorEq] at hc) <;> (try (exfalso; first | omega | exact Zx hc | exact Zy hc | exact Zb hc | exact hc | exact hc trivial)))) | refine G.endOps ?_ | refine G.endBlk ?_ | (refine G.atBin ?_; first | (refine G.atAdd ?_; first | refine G.arith rfl rfl rfl rfl rfl (by simp only [inR]; omega) ?_) | refine G.op rfl rfl ?_) | refine G.op rfl rfl ?_)
      all_goals first | (exfalso; omega) | skip
      all_goals (
        refine G.again ⟨i + 1, Q ++ (.slice Ar rws.length cr, rw2) :: P⟩ ⟨sint (by simp only; omega), rfl, rfl, rfl, rfl, rfl, rfl, trivial⟩ ?_ ⟨by simp only; omega, ?_, ?_⟩ (by solve | repeat first | assumption | exact Zr _ | refine Zq ?_ (by assumption)) (by simp only; omega)
        . simp only
          rw [AnH_split]
          exact sub_in [_, _] _ _ _
        . simp only
          rw [<- hM]
          simp only [List.reverse_append, List.reverse_cons, List.map_append, List.map_cons, List.map_nil]
        . intro y hy
          simp only [List.mem_append, List.mem_cons] at hy
          rcases hy with hy | rfl | hy
          . exact hMf y (by simp [hy])
          . exact ⟨Ar, cr, by rw [hjl], by rw [hjl]; exact hrb⟩
          . exact hMf y (by simp [hy]))
  . obtain rfl : i = L.length := by omega
    refine G.weak (g := [(6, was), (5, .pointer (some ⟨gc, 0, none⟩)), (1, .slice A2 n2 c2), (0, .slice A1 n1 c1), (39, .int .i64 L.length), (38, .int .i64 L.length), (37, .slice Au L.length cu)]) (H' := .blk gc [wv1, .pointer (some ⟨gb, 0, none⟩), .bool false] 79 :: [.blk gb [str [], .int .i64 0] 125]) ⟨rfl, rfl, rfl, rfl, rfl, rfl, rfl, trivial⟩ ⟨AnH M, by exact List.Perm.refl _⟩ ?_
    repeat' (first | (show G _ (.ops .seq _ (⟨some _, .call { callee := .value (.func 18), args := _, argTypes := _ }, _, _, _, none⟩ :: _) :: _) _ _ _; refine G.call callCnWho rfl rfl (conn_Who gc wv1 _ d1 hd1 _ (hwv1.mono (by solve | repeat first | assumption | exact Zr _ | refine Zq ?_ (by assumption)))) (by solve | repeat first | apply Zn | apply Zh | apply Zt | apply Zc) ?_; rintro u2 h12 H12 ⟨hu2, rfl⟩ hle12) | (show G _ (.ops .seq _ (⟨some _, .call { callee := .value (.func 18), args := _, argTypes := _ }, _, _, _, none⟩ :: _) :: _) _ _ _; refine G.call callCnWho rfl rfl (conn_Who gc wv2 _ d2 hd2 _ (hwv2.mono (by solve | repeat first | assumption | exact Zr _ | refine Zq ?_ (by assumption)))) (by solve | repeat first | apply Zn | apply Zh | apply Zt | apply Zc) ?_; rintro u3 h13 H13 ⟨hu3, rfl⟩ hle13) | (show G _ (.ops .seq _ (⟨some _, .call { callee := .value (.func 18), args := _, argTypes := _ }, _, _, _, none⟩ :: _) :: _) _ _ _; refine G.call callCnWho rfl rfl (conn_WhoC gc _ _ _) (by solve | repeat first | apply Zn | apply Zh | apply Zt | apply Zc) ?_; rintro _ h14 H14 ⟨rfl, rfl⟩ hle14) | (show G _ (.ops .seq _ (⟨some _, .call { callee := .value (.func 21), args := _, argTypes := _ }, _, _, _, none⟩ :: _) :: _) _ _ _; refine G.call callSame9 rfl rfl (ref09_Same d1 _ _ _ (hu2.mono (by solve | repeat first | assumption | exact Zr _ | refine Zq ?_ (by assumption))) (hwas.mono (by solve | repeat first | assumption | exact Zr _ | refine Zq ?_ (by assumption)))) (by solve | repeat first | apply Zn | apply Zh | apply Zt | apply Zc) ?_; rintro _ h15 H15 ⟨rfl, rfl⟩ hle15) | (show G _ (.ops .seq _ (⟨some _, .call { callee := .value (.func 21), args := _, argTypes := _ }, _, _, _, none⟩ :: _) :: _) _ _ _; refine G.call callSame9 rfl rfl (ref09_Same d1 _ _ _ (hv1.mono (by solve | repeat first | assumption | exact Zr _ | refine Zq ?_ (by assumption))) (hwas.mono (by solve | repeat first | assumption | exact Zr _ | refine Zq ?_ (by assumption)))) (by solve | repeat first | apply Zn | apply Zh | apply Zt | apply Zc) ?_; rintro _ h15 H15 ⟨rfl, rfl⟩ hle15) | (show G _ (.ops .seq _ (⟨some _, .call { callee := .value (.func 21), args := _, argTypes := _ }, _, _, _, none⟩ :: _) :: _) _ _ _; refine G.call callSame9 rfl rfl (ref09_Same d2 _ _ _ (hu3.mono (by solve | repeat first | assumption | exact Zr _ | refine Zq ?_ (by assumption))) (hv2.mono (by solve | repeat first | assumption | exact Zr _ | refine Zq ?_ (by assumption)))) (by solve | repeat first | apply Zn | apply Zh | apply Zt | apply Zc) ?_; rintro _ h15 H15 ⟨rfl, rfl⟩ hle15) | (show G _ (.ops .seq _ (⟨some _, .call { callee := .value (.func 20), args := _, argTypes := _ }, _, _, _, none⟩ :: _) :: _) _ _ _; refine G.call callCnBind rfl rfl (hB2 gc _ _ _ (hv2.mono (by solve | repeat first | assumption | exact Zr _ | refine Zq ?_ (by assumption)))) (by solve | repeat first | apply Zn | apply Zh | apply Zt | apply Zc) ?_; rintro _ h16 H16 ⟨rfl, wv2, hwv2, rfl⟩ hle16) | (show G _ (.ops .seq _ (⟨some _, .call { callee := .value (.func 22), args := _, argTypes := _ }, _, _, _, none⟩ :: _) :: _) _ _ _; refine G.call callCnClose rfl rfl (conn_Close gc _ _ _ _) (by solve | repeat first | apply Zn | apply Zh | apply Zt | apply Zc) ?_; rintro _ h17 H17 ⟨rfl, rfl⟩ hle17) | (show G _ (.ops .seq _ (⟨some _, .call { callee := .value (.func 15), args := _, argTypes := _ }, _, _, _, none⟩ :: _) :: _) _ _ _; refine G.call callCnFeed rfl rfl (conn_FeedC gc _ _ _ _) (by solve | repeat first | apply Zn | apply Zh | apply Zt | apply Zc) ?_; rintro _ h18 H18 ⟨rfl, rfl⟩ hle18) | (show G _ (.ops .seq _ (⟨some _, .call { callee := .value (.func 17), args := _, argTypes := _ }, _, _, _, none⟩ :: _) :: _) _ _ _; refine G.call callCnClosed rfl rfl (conn_Closed gc _ _ _ _) (by solve | repeat first | apply Zn | apply Zh | apply Zt | apply Zc) ?_; rintro _ h19 H19 ⟨rfl, rfl⟩ hle19) | (show G _ (.ops .seq _ (⟨some _, .call { callee := .value (.func 13), args := _, argTypes := _ }, _, _, _, none⟩ :: _) :: _) _ _ _; refine G.call callAwake27 rfl rfl (law27_awake _ (hT.mono (by solve | repeat first | assumption | exact Zr _ | refine Zq ?_ (by assumption)))) (by solve | repeat first | apply Zn | apply Zh | apply Zt | apply Zc) ?_; rintro _ h20 H20 ⟨rfl, rfl⟩ hle20) | (refine G.atCode ?_; first | refine G.seq ?_ | refine G.region ?_ | refine G.exit rfl ?_ | refine G.ret ?_ | (refine G.cond rfl ?_ ?_ <;> intro hc <;> (try simp only [tests, reduceCtorEq] at hc) <;> (try (exfalso; first | omega | exact Zx hc | exact Zy hc | exact Zb hc | exact hc | exact hc trivial)))) | refine G.endOps ?_ | (refine G.atGd ?_; first | refine G.guardYes rfl rfl ?_) | (refine G.atBin ?_; first | (refine G.atEql ?_; first | refine G.op rfl rfl ?_) | refine G.op rfl rfl ?_) | refine G.op rfl rfl ?_ | (refine G.atLen ?_; first | refine G.lenSlice rfl (tyy rfl) rfl ?_) | (refine G.atBsl ?_; refine G.buildSlice (tyy rfl) (tyy rfl) rfl rfl rfl rfl ?_; intro _))
    all_goals first | (exfalso; omega) | (exfalso; simp_all; done) | exact G.done1 rfl rfl [] (SubH.nil _) (by first | rfl | simp) | skip
    all_goals trace_state
end Go.Proofs.YtibkffoeioidlaaDoor
