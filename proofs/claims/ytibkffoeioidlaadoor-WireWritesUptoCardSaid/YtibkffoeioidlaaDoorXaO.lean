/- castellanref11.Write. -/
import Derived.Test.YtibkffoeioidlaaDoorXaM
import Derived.Test.YtibkffoeioidlaaDoorXaN
import Derived.Test.YtibkffoeioidlaaDoorTlvT
namespace Go.Proofs.YtibkffoeioidlaaDoor
set_option linter.all false
set_option maxRecDepth 4000
open Go.RowKit

theorem callWrite11 : Callable Tryd.prog 25 := ⟨_, Tryd.func25, by kernel_rfl, rfl⟩
theorem ref11_Op {op : Int} (ht : tagM op ≠ 0) : Op11 op := by
  rcases op_cases ht with rfl | rfl | rfl | rfl | rfl | rfl | rfl | rfl | rfl | rfl | rfl | rfl | rfl | rfl | rfl | rfl | rfl | rfl | rfl
  . exact ref11_op0
  . exact ref11_opS (by decide)
  . exact ref11_op2
  . exact ref11_op3
  . exact ref11_op4
  . exact ref11_opS (by decide)
  . exact ref11_op6
  . exact ref11_opS (by decide)
  . exact ref11_op8
  . exact ref11_opS (by decide)
  . exact ref11_opL (by decide)
  . exact ref11_opS (by decide)
  . exact ref11_opS (by decide)
  . exact ref11_opS (by decide)
  . exact ref11_opS (by decide)
  . exact ref11_opS (by decide)
  . exact ref11_opL (by decide)
  . exact ref11_opS (by decide)
  . exact ref11_opS (by decide)
theorem G.named {E : Env} {k : List It} {f : Fr} {h : Heap} {H : List Chunk} {g : Nat} (s : Nat) (_ : Fr.get f s = some (.pointer (some ⟨g, 0, none⟩))) (n : ∀ g', g' = g -> G E k f h H) : G E k f h H := n g rfl
theorem G.namedS {E : Env} {k : List It} {f : Fr} {h : Heap} {H : List Chunk} {g n c : Nat} (s : Nat) (_ : Fr.get f s = some (.slice (some ⟨g, 0, none⟩) n c)) (nx : ∀ g', g' = g -> G E k f h H) : G E k f h H := nx g rfl
set_option maxRecDepth 8000 in
set_option maxHeartbeats 8000000 in
theorem ref11_WriteP (m : Ms) (hI : MsI m) (hO : tagM m.op ≠ 0 -> Op11 m.op) (hw : m.wt <= 10000000) (pv kv nv av mv cv : Value) (h : Heap) (hV : MsV h m pv kv nv av mv cv) :
    Spec Tryd.prog 25 [.agg (msR m pv kv nv av mv cv).toArray] h [] (fun u _ H' => u = .tuple #[str (writeM m).1, .int .i64 (writeM m).2] /\ H' = []) := by
  have hforms := hV.forms
  have hid := hI.id
  have hwn := wt_node m
  have hct := hV.ctls
  have hcl := ctlsW_len m.ctls
  have hcw := wt_ctls m.ctls
  have hcm : ctlsW m.ctls <= m.wt := by unfold Ms.wt; omega
  unfold writeM
  by_cases hi : inM m.id 0 2147483647 = false
  . rw [if_pos hi]
    have hi2 : ¬(0 <= m.id /\ m.id <= 2147483647) := of_decide_eq_false hi
    obtain ⟨⟨pA, pn, pc, rfl⟩, ⟨kA, kn, kc, rfl⟩, ⟨nA, nn, nc, rfl⟩, ⟨aA, an, ac, rfl⟩, ⟨mA, mn, mc, rfl⟩, ⟨cA, cn, cc, rfl⟩⟩ := hforms
    refine Spec.enter Tryd.func25 rfl rfl ?_; intro w0
    repeat' (first | (refine G.atCode ?_; first | refine G.seq ?_ | refine G.region ?_ | refine G.ret ?_ | (refine G.cond rfl ?_ ?_ <;> intro hc <;> (try simp only [tests, reduceCtorEq] at hc) <;> (try exact Zf))) | refine G.endOps ?_ | (refine G.atGd ?_; first | refine G.guardYes rfl rfl ?_ | refine G.guardNoS rfl rfl rfl ?_ | (refine G.guardS rfl rfl rfl ?_ ?_ <;> intro hc <;> (try simp only [tests, reduceCtorEq] at hc) <;> (try exact Zf))) | (refine G.atBin ?_; first | refine G.op rfl rfl ?_) | refine G.op rfl rfl ?_ | (refine G.atLoad ?_; first | refine G.loadOwn1 rfl (tyy rfl) rfl rfl Za rfl rfl ?_) | (refine G.atFld ?_; first | refine G.fieldAddr rfl (tyy rfl) rfl rfl ?_) | (refine G.atBox ?_; refine G.box rfl rfl rfl ?_; intro _))
    all_goals first | (exfalso; omega) | (exfalso; simp_all; done) | exact G.done2 rfl rfl rfl [] (SubH.nil _) ⟨rfl, rfl⟩ | skip
  rw [if_neg hi]
  have hi2 : 0 <= m.id /\ m.id <= 2147483647 := of_decide_eq_true (by simpa [inM] using hi)
  by_cases ht : tagM m.op = 0
  . rw [if_pos ht]
    obtain ⟨⟨pA, pn, pc, rfl⟩, ⟨kA, kn, kc, rfl⟩, ⟨nA, nn, nc, rfl⟩, ⟨aA, an, ac, rfl⟩, ⟨mA, mn, mc, rfl⟩, ⟨cA, cn, cc, rfl⟩⟩ := hforms
    refine Spec.enter Tryd.func25 rfl rfl ?_; intro w0
    repeat' (first | (show G _ (.ops .seq _ (⟨some _, .call { callee := .value (.func 50), args := _, argTypes := _ }, _, _, _, none⟩ :: _) :: _) _ _ _; refine G.call callTagR rfl rfl (ref11_Tag _ _) Ze ?_; rintro _ h2 H2 ⟨rfl, rfl⟩ hle2) | (refine G.atCode ?_; first | refine G.seq ?_ | refine G.region ?_ | refine G.skip ?_ | refine G.ret ?_ | (refine G.cond rfl ?_ ?_ <;> intro hc <;> (try simp only [tests, reduceCtorEq] at hc) <;> (try exact Zf))) | refine G.endOps ?_ | (refine G.atGd ?_; first | refine G.guardYes rfl rfl ?_ | (refine G.guardS rfl rfl rfl ?_ ?_ <;> intro hc <;> (try simp only [tests, reduceCtorEq] at hc) <;> (try exact Zf))) | (refine G.atBin ?_; first | (refine G.atEql ?_; first | refine G.op rfl rfl ?_) | refine G.op rfl rfl ?_) | refine G.op rfl rfl ?_ | (refine G.atLoad ?_; first | refine G.loadOwn1 rfl (tyy rfl) rfl rfl Za rfl rfl ?_) | (refine G.atFld ?_; first | refine G.fieldAddr rfl (tyy rfl) rfl rfl ?_) | (refine G.atBox ?_; refine G.box rfl rfl rfl ?_; intro _))
    all_goals first | (exfalso; omega) | (exfalso; simp_all; done) | exact G.done2 rfl rfl rfl [] (SubH.nil _) ⟨rfl, rfl⟩ | skip
  rw [if_neg ht]
  have hEl := fun h hV => hO ht m rfl hI hw pv kv nv av mv cv h hV
  by_cases hok : okM m = false
  . rw [if_pos hok]
    rw [hok] at hEl
    obtain ⟨⟨pA, pn, pc, rfl⟩, ⟨kA, kn, kc, rfl⟩, ⟨nA, nn, nc, rfl⟩, ⟨aA, an, ac, rfl⟩, ⟨mA, mn, mc, rfl⟩, ⟨cA, cn, cc, rfl⟩⟩ := hforms
    refine Spec.enter Tryd.func25 rfl rfl ?_; intro w0
    repeat' (first | (show G _ (.ops .seq _ (⟨some _, .call { callee := .value (.func 50), args := _, argTypes := _ }, _, _, _, none⟩ :: _) :: _) _ _ _; refine G.call callTagR rfl rfl (ref11_Tag _ _) Ze ?_; rintro _ h2 H2 ⟨rfl, rfl⟩ hle2) | (show G _ (.ops .seq _ (⟨some _, .call { callee := .value (.func 51), args := _, argTypes := _ }, _, _, _, none⟩ :: _) :: _) _ _ _; refine G.call callOp11 rfl rfl (hEl _ (hV.mono (by solve | repeat first | assumption | exact Zr _ | refine Zq ?_ Zp))) Ze ?_; rintro _ h2 H2 ⟨⟨t9, d9, A9, k9, c9, rfl, hn9⟩, rfl⟩ hle2) | (refine G.atCode ?_; first | refine G.seq ?_ | refine G.region ?_ | refine G.skip ?_ | refine G.ret ?_ | (refine G.cond rfl ?_ ?_ <;> intro hc <;> (try simp only [tests, reduceCtorEq] at hc) <;> (try exact Zf))) | refine G.endOps ?_ | (refine G.atGd ?_; first | refine G.guardYes rfl rfl ?_ | (refine G.guardS rfl rfl rfl ?_ ?_ <;> intro hc <;> (try simp only [tests, reduceCtorEq] at hc) <;> (try exact Zf))) | (refine G.atBin ?_; first | (refine G.atEql ?_; first | refine G.op rfl rfl ?_) | refine G.op rfl rfl ?_) | refine G.op rfl rfl ?_ | (refine G.atLoad ?_; first | refine G.loadOwn1 rfl (tyy rfl) rfl rfl Za rfl rfl ?_ | refine G.loadOwnA rfl (tyy rfl) rfl rfl Za rfl rfl ?_) | (refine G.atFld ?_; first | refine G.fieldAddr rfl (tyy rfl) rfl rfl ?_) | (refine G.atSto ?_; refine G.storeOwn rfl rfl (tyy rfl) Za rfl rfl rfl rfl ?_) | (refine G.atAlc ?_; refine G.alloc (tyy rfl) rfl rfl ?_; intro _) | (refine G.atBox ?_; refine G.box rfl rfl rfl ?_; intro _))
    all_goals first | (exfalso; omega) | (exfalso; simp_all; done) | exact G.done2 rfl rfl rfl [] (SubH.nil _) ⟨rfl, rfl⟩ | skip
  rw [if_neg hok]
  have hok' : okM m = true := by simpa using hok
  rw [hok'] at hEl
  obtain ⟨⟨pA, pn, pc, rfl⟩, ⟨kA, kn, kc, rfl⟩, ⟨nA, nn, nc, rfl⟩, ⟨aA, an, ac, rfl⟩, ⟨mA, mn, mc, rfl⟩, _⟩ := hforms
  obtain ⟨cA, cc, rfl, hcc, hcm2, _⟩ := hct.form
  have hcrl := ctlsR_length m.ctls
  have hPut := fun r h hn => ref_Put (nodeM m) (by omega) r h hn
  unfold nodeM at hPut ⊢
  refine Spec.enter Tryd.func25 rfl rfl ?_; intro w0
  repeat' (first | (refine G.atAny ?_; first | refine G.anyAutoX slB rfl rfl Zw (by solve | exact Heap.none_le _ | assumption | exact Zr _ | (repeat first | assumption | exact Zr _ | refine Zq ?_ Zp)) Zd ?_ | refine G.anyKeep slB rfl Zw (by solve | exact Heap.none_le _ | assumption | exact Zr _ | (repeat first | assumption | exact Zr _ | refine Zq ?_ Zp)) Zu ?_ | refine G.anyOne rfl Zw (by solve | exact Heap.none_le _ | assumption | exact Zr _ | (repeat first | assumption | exact Zr _ | refine Zq ?_ Zp)) Zu ?_ | refine G.anyTwo rfl Zw (by solve | exact Heap.none_le _ | assumption | exact Zr _ | (repeat first | assumption | exact Zr _ | refine Zq ?_ Zp)) Zu ?_ ?_ | refine G.anyEndX Zw ?_) | (show G _ (.ops .seq _ (⟨some _, .call { callee := .value (.func 50), args := _, argTypes := _ }, _, _, _, none⟩ :: _) :: _) _ _ _; refine G.call callTagR rfl rfl (ref11_Tag _ _) Ze ?_; rintro _ h2 H2 ⟨rfl, rfl⟩ hle2) | (show G _ (.ops .seq _ (⟨some _, .call { callee := .value (.func 52), args := _, argTypes := _ }, _, _, _, none⟩ :: _) :: _) _ _ _; refine G.call callRInt rfl rfl (ref_Int _ Zp _) Ze ?_; rintro _ h2 H2 ⟨rfl, rfl⟩ hle2) | (show G _ (.ops .seq _ (⟨some _, .call { callee := .value (.func 51), args := _, argTypes := _ }, _, _, _, none⟩ :: _) :: _) _ _ _; refine G.call callOp11 rfl rfl (hEl _ (hV.mono (by solve | repeat first | assumption | exact Zr _ | refine Zq ?_ Zp))) Ze ?_; rintro _ h2 H2 ⟨⟨t9, d9, A9, k9, c9, rfl, hn9⟩, rfl⟩ hle2; have hn9 := hn9 rfl) | (refine G.atCode ?_; refine G.stopLoop ?_) | (refine G.atCode ?_; first | refine G.seq ?_ | refine G.region ?_ | refine G.block ?_ | refine G.skip ?_ | refine G.anyIn mixedOk ?_ | (refine G.cond rfl ?_ ?_ <;> intro hc <;> (try simp only [tests, reduceCtorEq] at hc) <;> (try exact Zf))) | refine G.endOps ?_ | refine G.endHeld ?_ | refine G.back ?_ | (refine G.atGd ?_; first | refine G.guardYes rfl rfl ?_ | (refine G.guardS rfl rfl rfl ?_ ?_ <;> intro hc <;> (try simp only [tests, reduceCtorEq] at hc) <;> (try exact Zf))) | (refine G.atBin ?_; first | (refine G.atEql ?_; first | refine G.op rfl rfl ?_) | refine G.op rfl rfl ?_) | refine G.op rfl rfl ?_ | (refine G.atLen ?_; first | refine G.lenSlice rfl (tyy rfl) rfl ?_) | (refine G.atLoad ?_; first | refine G.loadOwn1 rfl (tyy rfl) rfl rfl Za rfl rfl ?_ | refine G.loadOwnA rfl (tyy rfl) rfl rfl Za rfl rfl ?_) | (refine G.atFld ?_; first | refine G.fieldAddr rfl (tyy rfl) rfl rfl ?_) | (refine G.atSto ?_; refine G.storeOwn rfl rfl (tyy rfl) Za rfl rfl rfl rfl ?_) | (refine G.atAlc ?_; refine G.alloc (tyy rfl) rfl rfl ?_; intro _) | (refine G.atBox ?_; refine G.box rfl rfl rfl ?_; intro _) | (refine G.atBld ?_; refine G.build (tyy rfl) rfl rfl rfl ?_) | (refine G.atBsl ?_; refine G.buildSlice (tyy rfl) (tyy rfl) rfl rfl rfl rfl ?_; intro _))
  all_goals first | (exfalso; omega) | (exfalso; simp_all; done) | skip
  all_goals (
    refine G.named 6 rfl ?_
    rintro g6 rfl
    refine G.namedS 35 rfl ?_
    rintro w rfl
    refine G.nilRow 90 3 ?_
    refine G.go ?_
    refine G.loop (σ := Nat × List (List Value) × Option Addr × Nat) (fun x => [(40, .int .i64 x.1), (39, .int .i64 m.ctls.length), (38, .slice cA (ctlsR m.ctls).length cc), (7, .slice x.2.2.1 x.2.1.length x.2.2.2), (6, .pointer (some ⟨g6, 0, none⟩))])
      (fun x => [.blk g6 [.int .i64 48, str [], .slice (some ⟨w, 0, none⟩) 2 2] 90, .blk w [.int .i64 2, str (intB m.id), .slice none 0 0, .int .i64 t9, str d9, .slice A9 k9 c9] 90, .row (.slice x.2.2.1 x.2.1.length x.2.2.2) 90 3 x.2.1])
      (fun x h' => x.1 <= m.ctls.length /\ x.2.1.length = x.1 /\ KidsC h' ((m.ctls.take x.1).map ctlN) x.2.1) (fun x => m.ctls.length - x.1) ⟨0, [], none, 0⟩ ⟨rfl, sint (by omega), rfl, rfl, rfl, trivial⟩ Zu ⟨Nat.zero_le _, rfl, KidsC.nil_ _⟩ ?_
    rintro ⟨i, rws, A, c⟩ h5 hle5 ⟨hi5, hil, hik⟩
    simp only at hi5 hil hik
    refine G.norm (by (try dsimp only) <;> exact rfl) (by (try dsimp only) <;> exact rfl) ?_
    by_cases hlt : i < m.ctls.length
    . obtain ⟨⟨oid, crit, has, value⟩, hx⟩ : ∃ x, m.ctls[i]? = some x := ⟨m.ctls[i], List.getElem?_eq_getElem hlt⟩
      have e1 := ctlsR_get hx
      have hl1 : (ctlR ⟨oid, crit, has, value⟩).length = 4 := rfl
      have hik2 : ∀ h' r, Heap.le h5 h' -> NodeC h' (ctlN ⟨oid, crit, has, value⟩) r -> KidsC h' ((m.ctls.take (i + 1)).map ctlN) (rws ++ [r]) := by
        intro h' r hl' hr
        rw [take_get hx, List.map_append, List.map_cons, List.map_nil]
        exact (hik.mono' hl').append (KidsC.one hr)
      unfold ctlR at e1 hl1
      refine G.nilRow 90 3 ?_
      cases crit <;> cases has
      . repeat' (first | (refine G.atIdx ?_; refine G.idxImm rfl rfl (tyy rfl) (tyy rfl) (hct.mono (by solve | repeat first | assumption | exact Zr _ | refine Zq ?_ Zp)) Zj rfl (by omega) ?_; intro p1 r1 hx1 hp1; (rw [e1] at hx1); (obtain rfl := Option.some.inj hx1)) | (show G _ (.ops .seq _ (⟨some _, .call { callee := .value (.func 53), args := _, argTypes := _ }, _, _, _, none⟩ :: _) :: _) _ _ _; refine G.callT callFput rfl rfl Ze (form_putN _ _ _ _ _ _ _ _ (by rfl) (by first | (simp only [List.length_append, List.length_cons, List.length_nil] <;> omega) | omega) _) ?_; rintro _ h2 H2 ⟨rfl, _, _, rfl⟩ hle2) | (refine G.atApp ?_; refine G.append1 rfl rfl (tyy rfl) (tyy rfl) rfl rfl Za Za rfl rfl rfl Zo ?_; intro _; refine G.rowForm Take.hd ?_; rintro _ _ rfl) | (refine G.atCode ?_; first | refine G.seq ?_ | refine G.region ?_ | refine G.block ?_ | refine G.skip ?_ | (refine G.cond rfl ?_ ?_ <;> intro hc <;> (try simp only [tests, reduceCtorEq] at hc) <;> (try exact Zf))) | refine G.endOps ?_ | refine G.endBlk ?_ | (refine G.atBin ?_; first | (refine G.atAdd ?_; first | refine G.arith rfl rfl rfl rfl rfl Zi ?_) | refine G.op rfl rfl ?_) | refine G.op rfl rfl ?_ | (refine G.atLoad ?_; first | refine G.loadOwn1 rfl (tyy rfl) rfl rfl Za rfl rfl ?_ | refine G.loadImmA rfl (tyy rfl) rfl rfl Zp Zp rfl ?_) | (refine G.atFld ?_; first | refine G.fieldAddr rfl (tyy rfl) rfl rfl ?_) | (refine G.atSto ?_; refine G.storeOwn rfl rfl (tyy rfl) Za rfl rfl rfl rfl ?_) | (refine G.atAlc ?_; refine G.alloc (tyy rfl) rfl rfl ?_; intro _) | (refine G.atBox ?_; refine G.box rfl rfl rfl ?_; intro _) | (refine G.atBld ?_; refine G.build (tyy rfl) rfl rfl rfl ?_) | (refine G.atBsl ?_; refine G.buildSlice (tyy rfl) (tyy rfl) rfl rfl rfl rfl ?_; intro _))
        all_goals first | (exfalso; omega) | (exfalso; simp_all; done) | skip
        refine G.freezeRow (e := 90) (sz := 3) (rows := [] ++ [lfC 4 oid]) Za ?_
        intro h6 hle6 hs6
        exact G.again ⟨i + 1, rws ++ [[.int .i64 48, str [], _]], _, _⟩ ⟨sint (by simp), rfl, rfl, rfl, rfl, trivial⟩ Zu ⟨by simp only; omega, by simp [hil], hik2 _ _ (by solve | repeat first | assumption | exact Zr _ | refine Zq ?_ Zp) (show NodeC _ (sqN 48 [txtN oid]) _ from NodeC.mk_ hs6 (KidsC.of1 (lf_C _ 4 oid) (KidsC.nil_ _)))⟩ (by solve | repeat first | assumption | exact Zr _ | refine Zq ?_ Zp) (by simp only; omega)
      . repeat' (first | (refine G.atIdx ?_; refine G.idxImm rfl rfl (tyy rfl) (tyy rfl) (hct.mono (by solve | repeat first | assumption | exact Zr _ | refine Zq ?_ Zp)) Zj rfl (by omega) ?_; intro p1 r1 hx1 hp1; (rw [e1] at hx1); (obtain rfl := Option.some.inj hx1)) | (show G _ (.ops .seq _ (⟨some _, .call { callee := .value (.func 53), args := _, argTypes := _ }, _, _, _, none⟩ :: _) :: _) _ _ _; refine G.callT callFput rfl rfl Ze (form_putN _ _ _ _ _ _ _ _ (by rfl) (by first | (simp only [List.length_append, List.length_cons, List.length_nil] <;> omega) | omega) _) ?_; rintro _ h2 H2 ⟨rfl, _, _, rfl⟩ hle2) | (refine G.atApp ?_; refine G.append1 rfl rfl (tyy rfl) (tyy rfl) rfl rfl Za Za rfl rfl rfl Zo ?_; intro _; refine G.rowForm Take.hd ?_; rintro _ _ rfl) | (refine G.atCode ?_; first | refine G.seq ?_ | refine G.region ?_ | refine G.block ?_ | refine G.skip ?_ | (refine G.cond rfl ?_ ?_ <;> intro hc <;> (try simp only [tests, reduceCtorEq] at hc) <;> (try exact Zf))) | refine G.endOps ?_ | refine G.endBlk ?_ | (refine G.atBin ?_; first | (refine G.atAdd ?_; first | refine G.arith rfl rfl rfl rfl rfl Zi ?_) | refine G.op rfl rfl ?_) | refine G.op rfl rfl ?_ | (refine G.atLoad ?_; first | refine G.loadOwn1 rfl (tyy rfl) rfl rfl Za rfl rfl ?_ | refine G.loadImmA rfl (tyy rfl) rfl rfl Zp Zp rfl ?_) | (refine G.atFld ?_; first | refine G.fieldAddr rfl (tyy rfl) rfl rfl ?_) | (refine G.atSto ?_; refine G.storeOwn rfl rfl (tyy rfl) Za rfl rfl rfl rfl ?_) | (refine G.atAlc ?_; refine G.alloc (tyy rfl) rfl rfl ?_; intro _) | (refine G.atBox ?_; refine G.box rfl rfl rfl ?_; intro _) | (refine G.atBld ?_; refine G.build (tyy rfl) rfl rfl rfl ?_) | (refine G.atBsl ?_; refine G.buildSlice (tyy rfl) (tyy rfl) rfl rfl rfl rfl ?_; intro _))
        all_goals first | (exfalso; omega) | (exfalso; simp_all; done) | skip
        refine G.freezeRow (e := 90) (sz := 3) (rows := [] ++ [lfC 4 oid] ++ [lfC 4 value]) Za ?_
        intro h6 hle6 hs6
        exact G.again ⟨i + 1, rws ++ [[.int .i64 48, str [], _]], _, _⟩ ⟨sint (by simp), rfl, rfl, rfl, rfl, trivial⟩ Zu ⟨by simp only; omega, by simp [hil], hik2 _ _ (by solve | repeat first | assumption | exact Zr _ | refine Zq ?_ Zp) (show NodeC _ (sqN 48 [txtN oid, txtN value]) _ from NodeC.mk_ hs6 (KidsC.of1 (lf_C _ 4 oid) (KidsC.of1 (lf_C _ 4 value) (KidsC.nil_ _))))⟩ (by solve | repeat first | assumption | exact Zr _ | refine Zq ?_ Zp) (by simp only; omega)
      . repeat' (first | (refine G.atIdx ?_; refine G.idxImm rfl rfl (tyy rfl) (tyy rfl) (hct.mono (by solve | repeat first | assumption | exact Zr _ | refine Zq ?_ Zp)) Zj rfl (by omega) ?_; intro p1 r1 hx1 hp1; (rw [e1] at hx1); (obtain rfl := Option.some.inj hx1)) | (show G _ (.ops .seq _ (⟨some _, .call { callee := .value (.func 53), args := _, argTypes := _ }, _, _, _, none⟩ :: _) :: _) _ _ _; refine G.callT callFput rfl rfl Ze (form_putN _ _ _ _ _ _ _ _ (by rfl) (by first | (simp only [List.length_append, List.length_cons, List.length_nil] <;> omega) | omega) _) ?_; rintro _ h2 H2 ⟨rfl, _, _, rfl⟩ hle2) | (show G _ (.ops .seq _ (⟨some _, .call { callee := .value (.func 54), args := _, argTypes := _ }, _, _, _, none⟩ :: _) :: _) _ _ _; refine G.callT callFtruth rfl rfl Ze (form_truthN _ _ _ _ _ _ _ (by rfl) (by first | (simp only [List.length_append, List.length_cons, List.length_nil] <;> omega) | omega) _) ?_; rintro _ h2 H2 ⟨rfl, _, _, rfl⟩ hle2) | (refine G.atApp ?_; refine G.append1 rfl rfl (tyy rfl) (tyy rfl) rfl rfl Za Za rfl rfl rfl Zo ?_; intro _; refine G.rowForm Take.hd ?_; rintro _ _ rfl) | (refine G.atCode ?_; first | refine G.seq ?_ | refine G.region ?_ | refine G.block ?_ | refine G.skip ?_ | (refine G.cond rfl ?_ ?_ <;> intro hc <;> (try simp only [tests, reduceCtorEq] at hc) <;> (try exact Zf))) | refine G.endOps ?_ | refine G.endBlk ?_ | (refine G.atBin ?_; first | (refine G.atAdd ?_; first | refine G.arith rfl rfl rfl rfl rfl Zi ?_) | refine G.op rfl rfl ?_) | refine G.op rfl rfl ?_ | (refine G.atLoad ?_; first | refine G.loadOwn1 rfl (tyy rfl) rfl rfl Za rfl rfl ?_ | refine G.loadImmA rfl (tyy rfl) rfl rfl Zp Zp rfl ?_) | (refine G.atFld ?_; first | refine G.fieldAddr rfl (tyy rfl) rfl rfl ?_) | (refine G.atSto ?_; refine G.storeOwn rfl rfl (tyy rfl) Za rfl rfl rfl rfl ?_) | (refine G.atAlc ?_; refine G.alloc (tyy rfl) rfl rfl ?_; intro _) | (refine G.atBox ?_; refine G.box rfl rfl rfl ?_; intro _) | (refine G.atBld ?_; refine G.build (tyy rfl) rfl rfl rfl ?_) | (refine G.atBsl ?_; refine G.buildSlice (tyy rfl) (tyy rfl) rfl rfl rfl rfl ?_; intro _))
        all_goals first | (exfalso; omega) | (exfalso; simp_all; done) | skip
        refine G.freezeRow (e := 90) (sz := 3) (rows := [] ++ [lfC 4 oid] ++ [lfC 1 (if true = true then [255] else [0])]) Za ?_
        intro h6 hle6 hs6
        exact G.again ⟨i + 1, rws ++ [[.int .i64 48, str [], _]], _, _⟩ ⟨sint (by simp), rfl, rfl, rfl, rfl, trivial⟩ Zu ⟨by simp only; omega, by simp [hil], hik2 _ _ (by solve | repeat first | assumption | exact Zr _ | refine Zq ?_ Zp) (show NodeC _ (sqN 48 [txtN oid, truN true]) _ from NodeC.mk_ hs6 (KidsC.of1 (lf_C _ 4 oid) (KidsC.of1 (lf_C _ 1 (if true = true then [255] else [0])) (KidsC.nil_ _))))⟩ (by solve | repeat first | assumption | exact Zr _ | refine Zq ?_ Zp) (by simp only; omega)
      . repeat' (first | (refine G.atIdx ?_; refine G.idxImm rfl rfl (tyy rfl) (tyy rfl) (hct.mono (by solve | repeat first | assumption | exact Zr _ | refine Zq ?_ Zp)) Zj rfl (by omega) ?_; intro p1 r1 hx1 hp1; (rw [e1] at hx1); (obtain rfl := Option.some.inj hx1)) | (show G _ (.ops .seq _ (⟨some _, .call { callee := .value (.func 53), args := _, argTypes := _ }, _, _, _, none⟩ :: _) :: _) _ _ _; refine G.callT callFput rfl rfl Ze (form_putN _ _ _ _ _ _ _ _ (by rfl) (by first | (simp only [List.length_append, List.length_cons, List.length_nil] <;> omega) | omega) _) ?_; rintro _ h2 H2 ⟨rfl, _, _, rfl⟩ hle2) | (show G _ (.ops .seq _ (⟨some _, .call { callee := .value (.func 54), args := _, argTypes := _ }, _, _, _, none⟩ :: _) :: _) _ _ _; refine G.callT callFtruth rfl rfl Ze (form_truthN _ _ _ _ _ _ _ (by rfl) (by first | (simp only [List.length_append, List.length_cons, List.length_nil] <;> omega) | omega) _) ?_; rintro _ h2 H2 ⟨rfl, _, _, rfl⟩ hle2) | (refine G.atApp ?_; refine G.append1 rfl rfl (tyy rfl) (tyy rfl) rfl rfl Za Za rfl rfl rfl Zo ?_; intro _; refine G.rowForm Take.hd ?_; rintro _ _ rfl) | (refine G.atCode ?_; first | refine G.seq ?_ | refine G.region ?_ | refine G.block ?_ | refine G.skip ?_ | (refine G.cond rfl ?_ ?_ <;> intro hc <;> (try simp only [tests, reduceCtorEq] at hc) <;> (try exact Zf))) | refine G.endOps ?_ | refine G.endBlk ?_ | (refine G.atBin ?_; first | (refine G.atAdd ?_; first | refine G.arith rfl rfl rfl rfl rfl Zi ?_) | refine G.op rfl rfl ?_) | refine G.op rfl rfl ?_ | (refine G.atLoad ?_; first | refine G.loadOwn1 rfl (tyy rfl) rfl rfl Za rfl rfl ?_ | refine G.loadImmA rfl (tyy rfl) rfl rfl Zp Zp rfl ?_) | (refine G.atFld ?_; first | refine G.fieldAddr rfl (tyy rfl) rfl rfl ?_) | (refine G.atSto ?_; refine G.storeOwn rfl rfl (tyy rfl) Za rfl rfl rfl rfl ?_) | (refine G.atAlc ?_; refine G.alloc (tyy rfl) rfl rfl ?_; intro _) | (refine G.atBox ?_; refine G.box rfl rfl rfl ?_; intro _) | (refine G.atBld ?_; refine G.build (tyy rfl) rfl rfl rfl ?_) | (refine G.atBsl ?_; refine G.buildSlice (tyy rfl) (tyy rfl) rfl rfl rfl rfl ?_; intro _))
        all_goals first | (exfalso; omega) | (exfalso; simp_all; done) | skip
        refine G.freezeRow (e := 90) (sz := 3) (rows := [] ++ [lfC 4 oid] ++ [lfC 1 (if true = true then [255] else [0])] ++ [lfC 4 value]) Za ?_
        intro h6 hle6 hs6
        exact G.again ⟨i + 1, rws ++ [[.int .i64 48, str [], _]], _, _⟩ ⟨sint (by simp), rfl, rfl, rfl, rfl, trivial⟩ Zu ⟨by simp only; omega, by simp [hil], hik2 _ _ (by solve | repeat first | assumption | exact Zr _ | refine Zq ?_ Zp) (show NodeC _ (sqN 48 [txtN oid, truN true, txtN value]) _ from NodeC.mk_ hs6 (KidsC.of1 (lf_C _ 4 oid) (KidsC.of1 (lf_C _ 1 (if true = true then [255] else [0])) (KidsC.of1 (lf_C _ 4 value) (KidsC.nil_ _)))))⟩ (by solve | repeat first | assumption | exact Zr _ | refine Zq ?_ Zp) (by simp only; omega)
    . obtain rfl : i = m.ctls.length := by omega
      rw [List.take_length] at hik
      have hln := hik.len
      rw [List.length_map] at hln
      by_cases hl : m.ctls.length = 0
      . rw [if_pos hl] at hPut ⊢
        repeat' (first | (show G _ (.ops .seq _ (⟨some _, .call { callee := .value (.func 55), args := _, argTypes := _ }, _, _, _, none⟩ :: _) :: _) _ _ _; refine Hold.out ?_) | (refine G.atCode ?_; first | refine G.seq ?_ | refine G.region ?_ | refine G.skip ?_ | refine G.exit rfl ?_ | (refine G.cond rfl ?_ ?_ <;> intro hc <;> (try simp only [tests, reduceCtorEq] at hc) <;> (try exact Zf))) | refine G.endOps ?_ | (refine G.atBin ?_; first | refine G.op rfl rfl ?_) | refine G.op rfl rfl ?_ | (refine G.atLen ?_; first | refine G.lenSlice rfl (tyy rfl) rfl ?_) | (refine G.atLoad ?_; first | refine G.loadOwnA rfl (tyy rfl) rfl rfl Za rfl rfl ?_))
        all_goals first | (exfalso; omega) | (exfalso; simp_all; done) | skip
        all_goals refine ⟨?_⟩
        all_goals refine G.freezeBlk (g := w) Za ?_
        all_goals intro h9 hle9 hc9
        all_goals have hs9 := HSl.ofBlk1 (rows := [lfC 2 (intB m.id), [.int .i64 t9, str d9, .slice A9 k9 c9]]) (n := 2) hc9 (rowed3 rfl) rfl (by decide)
        all_goals have hN := NodeC.mk_ (t := 48) (d := []) hs9 (KidsC.of1 (lf_C _ 2 (intB m.id)) (KidsC.of1 (NodeC.mono (by solve | repeat first | assumption | exact Zr _ | refine Zq ?_ Zp) _ _ hn9) (KidsC.nil_ _)))
        repeat' (first | (show G _ (.ops .seq _ (⟨some _, .call { callee := .value (.func 55), args := _, argTypes := _ }, _, _, _, none⟩ :: _) :: _) _ _ _; refine G.call callRPut rfl rfl (hPut _ _ hN) Ze ?_; rintro _ h2 H2 ⟨rfl, rfl⟩ hle2) | (refine G.atCode ?_; first | refine G.ret ?_) | refine G.endOps ?_ | refine G.op rfl rfl ?_)
        all_goals first | (exfalso; omega) | (exfalso; simp_all; done) | exact G.done2 rfl rfl rfl [] (SubH.nil _) ⟨rfl, rfl⟩ | skip
      . rw [if_neg hl] at hPut ⊢
        refine G.freezeRow (v := .slice A rws.length c) Za ?_
        intro h9 hle9 hs9
        have hks : NodeC h9 (sqN 160 (m.ctls.map ctlN)) [.int .i64 160, str [], .slice A rws.length c] := NodeC.mk_ hs9 (hik.mono' hle9)
        refine G.blkRow (g := w) (n := 2) 3 [[_, _, _], [_, _, _]] Za rfl (rowed3 rfl) rfl (by decide) ?_
        repeat' (first | (refine G.atApp ?_; refine G.append1 rfl rfl (tyy rfl) (tyy rfl) rfl rfl Za Za rfl rfl rfl Zo ?_; intro _; refine G.rowForm Take.hd ?_; rintro _ _ rfl) | (show G _ (.ops .seq _ (⟨some _, .call { callee := .value (.func 55), args := _, argTypes := _ }, _, _, _, none⟩ :: _) :: _) _ _ _; refine Hold.out ?_) | (refine G.atCode ?_; first | refine G.seq ?_ | refine G.region ?_ | refine G.exit rfl ?_ | (refine G.cond rfl ?_ ?_ <;> intro hc <;> (try simp only [tests, reduceCtorEq] at hc) <;> (try exact Zf))) | refine G.endOps ?_ | (refine G.atBin ?_; first | refine G.op rfl rfl ?_) | refine G.op rfl rfl ?_ | (refine G.atLen ?_; first | refine G.lenSlice rfl (tyy rfl) rfl ?_) | (refine G.atLoad ?_; first | refine G.loadOwn1 rfl (tyy rfl) rfl rfl Za rfl rfl ?_ | refine G.loadOwnA rfl (tyy rfl) rfl rfl Za rfl rfl ?_) | (refine G.atFld ?_; first | refine G.fieldAddr rfl (tyy rfl) rfl rfl ?_) | (refine G.atSto ?_; refine G.storeOwn rfl rfl (tyy rfl) Za rfl rfl rfl rfl ?_) | (refine G.atBld ?_; refine G.build (tyy rfl) rfl rfl rfl ?_) | (refine G.atBsl ?_; refine G.buildSlice (tyy rfl) (tyy rfl) rfl rfl rfl rfl ?_; intro _))
        all_goals first | (exfalso; omega) | (exfalso; simp_all; done) | skip
        all_goals refine ⟨?_⟩
        all_goals refine G.freezeRow (e := 90) (sz := 3) Za ?_
        all_goals intro h10 hle10 hs10
        all_goals have hN := NodeC.mk_ (t := 48) (d := []) hs10 (KidsC.of1 (lf_C _ 2 (intB m.id)) (KidsC.of1 (NodeC.mono (by solve | repeat first | assumption | exact Zr _ | refine Zq ?_ Zp) _ _ hn9) (KidsC.of1 (hks.mono' (by solve | repeat first | assumption | exact Zr _ | refine Zq ?_ Zp)) (KidsC.nil_ _))))
        repeat' (first | (show G _ (.ops .seq _ (⟨some _, .call { callee := .value (.func 55), args := _, argTypes := _ }, _, _, _, none⟩ :: _) :: _) _ _ _; refine G.call callRPut rfl rfl (hPut _ _ hN) Ze ?_; rintro _ h2 H2 ⟨rfl, rfl⟩ hle2) | (refine G.atCode ?_; first | refine G.ret ?_) | refine G.endOps ?_ | refine G.op rfl rfl ?_)
        all_goals first | (exfalso; omega) | (exfalso; simp_all; done) | exact G.done2 rfl rfl rfl [] (SubH.nil _) ⟨rfl, rfl⟩ | skip)
theorem ref11_Write (m : Ms) (hI : MsI m) (hw : m.wt <= 10000000) (pv kv nv av mv cv : Value) (h : Heap) (hV : MsV h m pv kv nv av mv cv) :
    Spec Tryd.prog 25 [.agg (msR m pv kv nv av mv cv).toArray] h [] (fun u _ H' => u = .tuple #[str (writeM m).1, .int .i64 (writeM m).2] /\ H' = []) :=
  ref11_WriteP m hI (fun ht => ref11_Op ht) hw pv kv nv av mv cv h hV
end Go.Proofs.YtibkffoeioidlaaDoor
