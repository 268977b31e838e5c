/- castellanref11.Op: a search. -/
import Derived.Test.YtibkffoeioidlaaDoorXaL
namespace Go.Proofs.YtibkffoeioidlaaDoor
set_option linter.all false
set_option maxRecDepth 4000
open Go.RowKit

theorem ElN.no {nd : Nd} {b okb : Bool} {h' : Heap} {t : Int} {d : Bs} {A : Option Addr} {k c : Nat} (hb : b = okb) (hf : okb = false) : ElN nd okb (.tuple #[.agg #[.int .i64 t, str d, .slice A k c], .bool b]) h' := by
  subst hb
  exact ⟨t, d, A, k, c, rfl, fun e => by rw [hf] at e; cases e⟩
theorem G.storeLast {E : Env} {k : List It} {f : Fr} {h : Heap} {H Hr : List Chunk} {all : Array Oper} {rest : List Oper} {ty : TypeId} {pos : String} {aft : Array Edge} {t e : TypeId} {x y : Operand} {td : TD} {i sz by_ : Nat} {z v u : Value} {p : Addr} {l : List (List Value)} {r q : List Value} (hx : ev f x = some (.pointer (some p))) (hy : ev f y = some u) (ht : Ty E.P t td sz by_ z) (hp : Elem v sz i p)
    (hH : Take (.row v e sz (l ++ [q])) H Hr) (hr : normL (cellsL u) = some r) (hl : (Nat.beq r.length sz && Nat.blt 0 sz) = true) (h1 : r.all Value.oneCell' = true) (hi : i = l.length)
    (n : G E (.ops .seq all rest :: k) f h (.row v e sz (l ++ [r]) :: Hr)) :
    G E (.ops .seq all (⟨none, .store t x y, ty, pos, aft, none⟩ :: rest) :: k) f h H := by
  subst hi
  exact G.storeRow hx hy ht hp hH hr hl h1 (by simp) (by rw [set_last]; exact n)
theorem G.anyTakeN {E : Env} {k : List It} {f : Fr} {h : Heap} {H : List Chunk} (n : Nat) {l0 : List Oper} (hn : Nat.beq l0.length n = true) {h0 : Heap} {H1 : List Chunk} {idx : List Nat} {l : List Oper} (hl : idx.mapM (fun i => l0[i]?) = some l)
    (hs : (Region.noSelect l0.toArray && takeOkC l0.toArray (l0.length - 0) [] idx) = true) (hh : Heap.le h0 h) (hs2 : SubH H1 H)
    (g : G E (.ops (.held h H1) l0.toArray l :: .back h H :: .any h H1 l0.toArray idx.reverse :: k) f h H1) : G E (.any h0 [] l0.toArray [] :: k) f h H :=
  G.anyTake hl (List.append_nil _).symm hs hh (SubH.nil _) hs2 g
theorem G.anyPureH {E : Env} {k : List It} {f : Fr} {h : Heap} {H : List Chunk} (sl : Nat -> Bool) {l0 : List Oper} {h0 : Heap} {H0 : List Chunk} {done done' idx : List Nat} {o : Oper} {l : List Oper} (hx : autoGo2 sl l0 0 done = some (o :: l, idx, done'))
    (hs : (Region.noSelect l0.toArray && takeOkC l0.toArray (l0.length - done.length) done idx) = true) (hh : Heap.le h0 h) (hs2 : SubH H0 H)
    (g : G E (.ops (.held h H0) l0.toArray (o :: l) :: .back h H :: .any h H0 l0.toArray done' :: k) f h H0) : G E (.any h0 H0 l0.toArray done :: k) f h H := by
  obtain ⟨p1, p2⟩ := autoGo2_spec (l0 := l0) l0 0 done _ _ _ hx (fun j => by simp)
  exact G.anyTake p1 p2 hs hh (SubH.rfl_ _) hs2 g
set_option maxRecDepth 8000 in
set_option maxHeartbeats 8000000 in
theorem ref11_op3 : Op11 3 := by
  intro m hop hI hw pv kv nv av mv cv h hV
  have hF := fun h' (hf : FlC h' m.fl (flR m.fl pv kv)) => ref11_Filter m.fl.sz m.fl (Nat.le_refl _) (by unfold Ms.wt at hw; omega) 0 (Nat.zero_le _) _ h' hf
  have hfl := hV.fl
  have hnm := hV.names
  obtain ⟨⟨pA, pn, pc, rfl⟩, ⟨kA, kn, kc, rfl⟩, ⟨nA, nn, nc, rfl⟩, ⟨aA, an, ac, rfl⟩, ⟨mA, mn, mc, rfl⟩, ⟨cA, cn, cc, rfl⟩⟩ := hV.forms
  clear hV
  have i1 := hI.scope
  have i2 := hI.deref
  have i3 := hI.size
  have i4 := hI.time
  clear hI
  unfold Ms.wt at hw
  have hnl := bsW_len m.names
  obtain ⟨id, op, dn, ver, sasl, mech, text, scope, deref, size, time, types, fl, names, attrs, mods, rdn, delOld, hasSup, sup, attr, target, oid, has, value, code, matched, ctls⟩ := m
  simp only at hop hw hF hfl hnm i1 i2 i3 i4 hnl
  subst hop
  rw [show elemM ⟨id, 3, dn, ver, sasl, mech, text, scope, deref, size, time, types, fl, names, attrs, mods, rdn, delOld, hasSup, sup, attr, target, oid, has, value, code, matched, ctls⟩ = sqN 99 [txtN dn, numN 10 scope, numN 10 deref, numN 2 size, numN 2 time, truN types, flN fl, sqN 48 (txtsN names)] from rfl, show okM ⟨id, 3, dn, ver, sasl, mech, text, scope, deref, size, time, types, fl, names, attrs, mods, rdn, delOld, hasSup, sup, attr, target, oid, has, value, code, matched, ctls⟩ = ((askM 0 fl).isSome && (inM scope 0 2 && (inM deref 0 3 && (inM size 0 2147483647 && inM time 0 2147483647)))) from rfl]
  refine Spec.enter Tryd.func51 rfl rfl ?_; intro w0
  refine G.nilRow 90 3 ?_
  repeat' (first | (show G _ (.ops .seq _ (⟨some _, .call { callee := .value (.func 81), args := _, argTypes := _ }, _, _, _, none⟩ :: _) :: _) _ _ _; refine Hold.out ?_) | (show G _ (.ops .seq _ (⟨some _, .call { callee := .value (.func 50), args := _, argTypes := _ }, _, _, _, none⟩ :: _) :: _) _ _ _; refine G.call callTagR rfl rfl (ref11_Tag _ _) Ze ?_; rintro _ h2 H2 ⟨rfl, rfl⟩ hle2) | (show G _ (.ops .seq _ (⟨some _, .call { callee := .value (.func 53), args := _, argTypes := _ }, _, _, _, none⟩ :: _) :: _) _ _ _; refine G.callT callFput rfl rfl Ze (form_putN _ _ _ _ _ _ _ _ (by rfl) (by first | (simp only [List.length_append, List.length_cons, List.length_nil] <;> omega) | omega) _) ?_; rintro _ h2 H2 ⟨rfl, _, _, rfl⟩ hle2) | (show G _ (.ops .seq _ (⟨some _, .call { callee := .value (.func 77), args := _, argTypes := _ }, _, _, _, none⟩ :: _) :: _) _ _ _; refine G.callT callFnum rfl rfl Ze (form_numN _ _ _ _ _ Zp _ _ _ _ _ (by rfl) (by first | (simp only [List.length_append, List.length_cons, List.length_nil] <;> omega) | omega) _) ?_; rintro _ h2 H2 ⟨rfl, _, _, rfl⟩ hle2) | (show G _ (.ops .seq _ (⟨some _, .call { callee := .value (.func 54), args := _, argTypes := _ }, _, _, _, none⟩ :: _) :: _) _ _ _; refine G.callT callFtruth rfl rfl Ze (form_truthN _ _ _ _ _ _ _ (by rfl) (by first | (simp only [List.length_append, List.length_cons, List.length_nil] <;> omega) | omega) _) ?_; rintro _ h2 H2 ⟨rfl, _, _, rfl⟩ hle2) | (refine G.atCode ?_; first | refine G.seq ?_ | refine G.region ?_ | refine G.block ?_ | (refine G.cond rfl ?_ ?_ <;> intro hc <;> (try simp only [tests, reduceCtorEq] at hc) <;> (try exact Zf))) | refine G.endOps ?_ | (refine G.atBin ?_; first | (refine G.atEql ?_; first | refine G.op rfl rfl ?_)) | refine G.op rfl rfl ?_ | (refine G.atLoad ?_; first | refine G.loadOwn1 rfl (tyy rfl) rfl rfl Za rfl rfl ?_ | refine G.loadOwnA rfl (tyy rfl) rfl rfl Za rfl rfl ?_) | (refine G.atFld ?_; first | refine G.fieldAddr rfl (tyy rfl) rfl rfl ?_) | (refine G.atSto ?_; refine G.storeOwn rfl rfl (tyy rfl) Za rfl rfl rfl rfl ?_) | (refine G.atAlc ?_; refine G.alloc (tyy rfl) rfl rfl ?_; intro _) | (refine G.atBox ?_; refine G.box rfl rfl rfl ?_; intro _) | (refine G.atBld ?_; refine G.build (tyy rfl) rfl rfl rfl ?_))
  all_goals first | (exfalso; omega) | (exfalso; simp_all; done) | skip
  refine ⟨?_⟩
  generalize hb : ((((false || !inM scope 0 2) || !inM deref 0 3) || !inM size 0 2147483647) || !inM time 0 2147483647) = b
  have hX : (inM scope 0 2 && (inM deref 0 3 && (inM size 0 2147483647 && inM time 0 2147483647))) = !b := by
    rw [<- hb]
    cases inM scope 0 2 <;> cases inM deref 0 3 <;> cases inM size 0 2147483647 <;> cases inM time 0 2147483647 <;> rfl
  rw [hX]
  clear hX hb
  have hTx := fun h' (h1 : HSl h' (.slice nA nn nc) 1 (strsR names)) => ref11_texts names _ (by omega) h' h1
  cases b
  all_goals (
    repeat' (first | (show G _ (.ops .seq _ (⟨some _, .call { callee := .value (.func 81), args := _, argTypes := _ }, _, _, _, none⟩ :: _) :: _) _ _ _; refine G.call callFilter11 rfl rfl (hF _ (FlC.mono (by solve | repeat first | assumption | exact Zr _ | refine Zq ?_ Zp) _ _ hfl)) Ze ?_; rintro _ h4 H4 ⟨⟨t9, d9, A8, m8, c8, n9, b9, rfl, ⟨rfl, ho9, hf9⟩ | ⟨rfl, ho9⟩⟩, rfl⟩ hle4) | (refine G.atAny ?_; refine G.anyTakeN 13 rfl (idx := [0, 1, 2, 4]) (H1 := [.blk _ [.int .i64 t9, str d9, .slice A8 m8 c8] 90]) rfl Zw (by solve | exact Heap.none_le _ | assumption | exact Zr _ | (repeat first | assumption | exact Zr _ | refine Zq ?_ Zp)) Zu ?_) | (show G _ (It.any _ (_ :: _) _ _ :: _) _ _ _; first | refine G.anyPureH slB rfl Zw (by solve | exact Heap.none_le _ | assumption | exact Zr _ | (repeat first | assumption | exact Zr _ | refine Zq ?_ Zp)) Zu ?_ | refine G.anyOne rfl Zw (by solve | exact Heap.none_le _ | assumption | exact Zr _ | (repeat first | assumption | exact Zr _ | refine Zq ?_ Zp)) Zu ?_ | refine G.anyTwo rfl Zw (by solve | exact Heap.none_le _ | assumption | exact Zr _ | (repeat first | assumption | exact Zr _ | refine Zq ?_ Zp)) Zu ?_ ?_ | refine G.anyEndX Zw ?_ | refine G.anyEnd Zw (by solve | exact Heap.none_le _ | assumption | exact Zr _ | (repeat first | assumption | exact Zr _ | refine Zq ?_ Zp)) Zu ?_) | (refine G.atAny ?_; first | refine G.anyAutoX slB rfl rfl Zw (by solve | exact Heap.none_le _ | assumption | exact Zr _ | (repeat first | assumption | exact Zr _ | refine Zq ?_ Zp)) Zd ?_) | (refine G.atSto ?_; refine G.storeLast rfl rfl (tyy rfl) Zp Za rfl rfl rfl (by rfl) ?_) | (show G _ (.ops .seq _ (⟨some _, .call { callee := .value (.func 80), args := _, argTypes := _ }, _, _, _, none⟩ :: _) :: _) _ _ _; refine G.call callTexts11 rfl rfl (hTx _ (hnm.mono (by solve | repeat first | assumption | exact Zr _ | refine Zq ?_ Zp))) Ze ?_; rintro _ h2 H2 ⟨⟨twA, twc, rfl, rows2, twr, twk⟩, rfl⟩ hle2) | (refine G.atApp ?_; refine G.append1 rfl rfl (tyy rfl) (tyy rfl) rfl rfl Za Za rfl rfl rfl Zo ?_; intro _; refine G.rowForm Take.hd ?_; rintro _ _ rfl) | (show G _ (.ops .seq _ (⟨some _, .call { callee := .value (.func 78), args := _, argTypes := _ }, _, _, _, none⟩ :: _) :: _) _ _ _; refine G.callT callFlist rfl rfl Ze (form_listN _ _ _ _ _ _ _ _ _ _ (by rfl) (by first | (simp only [List.length_append, List.length_cons, List.length_nil] <;> omega) | omega) _) ?_; rintro _ h2 H2 ⟨rfl, _, _, rfl⟩ hle2) | (refine G.atCode ?_; first | refine G.seq ?_ | refine G.region ?_ | refine G.anyIn mixedOk ?_ | refine G.ret ?_) | refine G.endOps ?_ | refine G.endHeld ?_ | refine G.back ?_ | refine G.endBlk ?_ | (refine G.atGd ?_; first | refine G.guardYes rfl rfl ?_ | refine G.guardNoS rfl rfl rfl ?_) | refine G.op rfl rfl ?_ | (refine G.atLen ?_; first | refine G.lenSlice rfl (tyy rfl) rfl ?_) | (refine G.atLoad ?_; first | refine G.loadOwn1 rfl (tyy rfl) rfl rfl Za rfl rfl ?_ | refine G.loadOwnA rfl (tyy rfl) rfl rfl Za rfl rfl ?_) | (refine G.atFld ?_; first | refine G.fieldAddr rfl (tyy rfl) rfl rfl ?_) | (refine G.atSto ?_; refine G.storeOwn rfl rfl (tyy rfl) Za rfl rfl rfl rfl ?_) | (refine G.atAlc ?_; refine G.alloc (tyy rfl) rfl rfl ?_; intro _) | (refine G.atBsl ?_; refine G.buildSlice (tyy rfl) (tyy rfl) rfl rfl rfl rfl ?_; intro _) | (refine G.atIdx ?_; first | (refine G.idxRow' rfl rfl (tyy rfl) (tyy rfl) Za Zj rfl Zo ?_; intro _ _))))
  all_goals first | (exfalso; omega) | (exfalso; simp_all; done) | skip
  all_goals refine G.freezeRow (e := 90) (sz := 3) Za ?_
  all_goals intro h9 hle9 hs9
  all_goals first
    | exact G.done (rs := [.cell 2 90, .tmp 3]) rfl (.cellA rfl (tyy rfl) rfl rfl Za rfl (.tmp rfl .nil)) rfl [] (SubH.nil _) ⟨ElN.mk2 (by rw [ho9]; rfl) (NodeC.mk_ hs9 (KidsC.of1 (lf_C _ 4 dn) (KidsC.of1 (lf_C _ 10 (intB scope)) (KidsC.of1 (lf_C _ 10 (intB deref)) (KidsC.of1 (lf_C _ 2 (intB size)) (KidsC.of1 (lf_C _ 2 (intB time)) (KidsC.of1 (lf_C _ 1 (if types = true then [255] else [0])) (KidsC.of1 (hf9.mono' (by solve | repeat first | assumption | exact Zr _ | refine Zq ?_ Zp)) (KidsC.of1 (NodeC.mk_ (twr.mono (by solve | repeat first | assumption | exact Zr _ | refine Zq ?_ Zp)) (twk.mono' (by solve | repeat first | assumption | exact Zr _ | refine Zq ?_ Zp))) (KidsC.nil_ _)))))))))), rfl⟩
    | exact G.done (rs := [.cell 2 90, .tmp 3]) rfl (.cellA rfl (tyy rfl) rfl rfl Za rfl (.tmp rfl .nil)) rfl [] (SubH.nil _) ⟨ElN.no (by rw [ho9]; rfl) (by rw [ho9]; rfl), rfl⟩
end Go.Proofs.YtibkffoeioidlaaDoor
