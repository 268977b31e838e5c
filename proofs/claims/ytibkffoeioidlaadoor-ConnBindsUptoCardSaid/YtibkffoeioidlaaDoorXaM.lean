/- castellanref11.Filter: a filter's element. -/
import Derived.Test.YtibkffoeioidlaaDoorXaI
import Derived.Test.YtibkffoeioidlaaDoorFlO
namespace Go.Proofs.YtibkffoeioidlaaDoor
set_option linter.all false
set_option maxRecDepth 4000
open Go.RowKit

def F11R (o : Option Nat) (nd : Nd) (u : Value) (h' : Heap) : Prop := ∃ (t : Int) (d : Bs) (A : Option Addr) (m c n' : Nat) (b : Bool),
  u = .tuple #[.agg #[.int .i64 t, str d, .slice A m c], .int .i64 n', .bool b] /\ ((b = true /\ o = some n' /\ NodeC h' nd [.int .i64 t, str d, .slice A m c]) \/ (b = false /\ o = none))
theorem F11R.no {o : Option Nat} {nd : Nd} {h' : Heap} {n' : Nat} (ho : o = none) {t : Int} {d : Bs} {A : Option Addr} {m c : Nat} : F11R o nd (.tuple #[.agg #[.int .i64 t, str d, .slice A m c], .int .i64 n', .bool false]) h' :=
  ⟨t, d, A, m, c, n', false, rfl, .inr ⟨rfl, ho⟩⟩
theorem F11R.ok {o : Option Nat} {nd : Nd} {h' : Heap} {t : Int} {d : Bs} {A : Option Addr} {m c n' : Nat} (ho : o = some n') (hn : NodeC h' nd [.int .i64 t, str d, .slice A m c]) : F11R o nd (.tuple #[.agg #[.int .i64 t, str d, .slice A m c], .int .i64 n', .bool true]) h' :=
  ⟨t, d, A, m, c, n', true, rfl, .inl ⟨rfl, ho, hn⟩⟩
theorem F11R.ofB {o : Option Nat} {nd nd' : Nd} {h' : Heap} {t : Int} {d : Bs} {A : Option Addr} {m c n' : Nat} (P : Bool) (ho : o = if P = true then some n' else none) (hn : NodeC h' nd' [.int .i64 t, str d, .slice A m c]) (he : P = true -> nd' = nd) : F11R o nd (.tuple #[.agg #[.int .i64 t, str d, .slice A m c], .int .i64 n', .bool P]) h' := by
  cases P with
  | true => obtain rfl := he rfl; exact F11R.ok (by rw [ho, if_pos rfl]) hn
  | false => exact F11R.no (by rw [ho, if_neg Bool.false_ne_true])
end Go.Proofs.YtibkffoeioidlaaDoor
namespace Go.Proofs.YtibkffoeioidlaaDoor
set_option linter.all false
set_option maxRecDepth 4000
open Go.RowKit

theorem callOp11 : Callable Tryd.prog 51 := ⟨_, Tryd.func51, by kernel_rfl, rfl⟩
abbrev Op11 (op : Int) : Prop := ∀ (m : Ms) (_ : m.op = op) (_ : MsI m) (_ : m.wt <= 10000000) (pv kv nv av mv cv : Value) (h : Heap) (_ : MsV h m pv kv nv av mv cv),
    Spec Tryd.prog 51 [.agg (msR m pv kv nv av mv cv).toArray] h [] (fun u h' H' => ElN (elemM m) (okM m) u h' /\ H' = [])
theorem nb (x : Bool) : (!(false || !x)) = x := by cases x <;> rfl
set_option maxRecDepth 8000 in
set_option maxHeartbeats 16000000 in
theorem ref11_op0 : Op11 0 := by
  intro m hop hI hw pv kv nv av mv cv h hV
  obtain ⟨⟨pA, pn, pc, rfl⟩, ⟨kA, kn, kc, rfl⟩, ⟨nA, nn, nc, rfl⟩, ⟨aA, an, ac, rfl⟩, ⟨mA, mn, mc, rfl⟩, ⟨cA, cn, cc, rfl⟩⟩ := hV.forms
  clear hV
  have hiv := hI.ver
  have hic := hI.code
  have hit := hI.target
  clear hI
  unfold Ms.wt at hw
  obtain ⟨id, op9, dn, ver, sasl, mech, text, scope, deref, size, time, types, fl, names, attrs, mods, rdn, delOld, hasSup, sup, attr, target, oid, has, value, code, matched, ctls⟩ := m
  simp only at hop hw hiv hic hit
  subst hop
  cases sasl
  case' true => cases has
  all_goals (
    refine Spec.enter Tryd.func51 rfl rfl ?_; intro w0
    refine G.nilRow 90 3 ?_
    repeat' (first | (refine G.atAny ?_; first | refine G.anyAutoX slB rfl rfl (by decide +kernel) (by solve | exact Heap.none_le _ | assumption | exact Zr _ | (repeat first | assumption | exact Zr _ | refine Zq ?_ (by assumption))) (by solve | (repeat (first | apply DropS.nil | (apply DropS.cons; rfl; solve | repeat (first | apply Take.hd | apply Take.tl)) | (apply DropS.rows; repeat (first | apply DropRows.nil | apply DropRows.drop | apply DropRows.keep)) | apply DropS.skip))) ?_ | refine G.anyKeep slB rfl (by decide +kernel) (by solve | exact Heap.none_le _ | assumption | exact Zr _ | (repeat first | assumption | exact Zr _ | refine Zq ?_ (by assumption))) (by solve | repeat first | apply Zm | apply Zh | apply Zt | apply Zk) ?_ | refine G.anyOne rfl (by decide +kernel) (by solve | exact Heap.none_le _ | assumption | exact Zr _ | (repeat first | assumption | exact Zr _ | refine Zq ?_ (by assumption))) (by solve | repeat first | apply Zm | apply Zh | apply Zt | apply Zk) ?_ | refine G.anyEndX (by decide +kernel) ?_) | (show G _ (.ops .seq _ (⟨some _, .call { callee := .value (.func 50), args := _, argTypes := _ }, _, _, _, none⟩ :: _) :: _) _ _ _; refine G.call callTagR rfl rfl (ref11_Tag _ _) (by solve | repeat first | apply Zn | apply Zh | apply Zt | apply Zc) ?_; rintro _ h2 H2 ⟨rfl, rfl⟩ hle2) | (show G _ (.ops .seq _ (⟨some _, .call { callee := .value (.func 53), args := _, argTypes := _ }, _, _, _, none⟩ :: _) :: _) _ _ _; refine G.callT callFput rfl rfl (by solve | repeat first | apply Zn | apply Zh | apply Zt | apply Zc) (form_putN _ _ _ _ _ _ _ _ (by rfl) (by first | (simp only [List.length_append, List.length_cons, List.length_nil] <;> omega) | omega) _) ?_; rintro _ h2 H2 ⟨rfl, _, _, rfl⟩ hle2) | (show G _ (.ops .seq _ (⟨some _, .call { callee := .value (.func 77), args := _, argTypes := _ }, _, _, _, none⟩ :: _) :: _) _ _ _; refine G.callT callFnum rfl rfl (by solve | repeat first | apply Zn | apply Zh | apply Zt | apply Zc) (form_numN _ _ _ _ _ (by assumption) _ _ _ _ _ (by rfl) (by first | (simp only [List.length_append, List.length_cons, List.length_nil] <;> omega) | omega) _) ?_; rintro _ h2 H2 ⟨rfl, _, _, rfl⟩ hle2) | (show G _ (.ops .seq _ (⟨some _, .call { callee := .value (.func 78), args := _, argTypes := _ }, _, _, _, none⟩ :: _) :: _) _ _ _; refine G.callT callFlist rfl rfl (by solve | repeat first | apply Zn | apply Zh | apply Zt | apply Zc) (form_listN _ _ _ _ _ _ _ _ _ _ (by rfl) (by first | (simp only [List.length_append, List.length_cons, List.length_nil] <;> omega) | omega) _) ?_; rintro _ h2 H2 ⟨rfl, _, _, rfl⟩ hle2) | (show G _ (.ops .seq _ (⟨some _, .call { callee := .value (.func 79), args := _, argTypes := _ }, _, _, _, none⟩ :: _) :: _) _ _ _; refine G.call callTwo11 rfl rfl (ref11_two _ _ _) (by solve | repeat first | apply Zn | apply Zh | apply Zt | apply Zc) ?_; rintro _ h2 H2 ⟨⟨twA, twc, rfl, rows2, twr, twk⟩, rfl⟩ hle2) | (show G _ (.ops .seq _ (⟨some _, .call { callee := .value (.func 80), args := _, argTypes := _ }, _, _, _, none⟩ :: _) :: _) _ _ _; refine G.freezeBlk (e := 9) (by solve | repeat first | apply Zh | apply Zt) ?_; intro hf hlf hcf; refine G.call callTexts11 rfl rfl (ref11_texts [mech] _ (by simp) _ (HSl.ofBlk1 (rows := strsR [mech]) (n := 1) hcf (rowed_strs _) rfl (by decide))) (by solve | repeat first | apply Zn | apply Zh | apply Zt | apply Zc) ?_; rintro _ h2 H2 ⟨⟨twA, twc, rfl, rows2, twr, twk⟩, rfl⟩ hle2) | (refine G.atCode ?_; first | refine G.seq ?_ | refine G.region ?_ | refine G.block ?_ | refine G.anyIn mixedOk ?_ | refine G.ret ?_ | (refine G.cond rfl ?_ ?_ <;> intro hc <;> (try simp only [tests, reduceCtorEq] at hc) <;> (try (exfalso; first | omega | exact Zx hc | exact Zy hc | exact Zb hc | exact hc | exact hc trivial)))) | refine G.endOps ?_ | refine G.endHeld ?_ | refine G.back ?_ | refine G.endBlk ?_ | (refine G.atBin ?_; first | (refine G.atEql ?_; first | refine G.op rfl rfl ?_)) | refine G.op rfl rfl ?_ | (refine G.atLoad ?_; first | refine G.loadOwn1 rfl (tyy rfl) rfl rfl (by solve | repeat first | apply Zh | apply Zt) rfl rfl ?_ | refine G.loadOwnA rfl (tyy rfl) rfl rfl (by solve | repeat first | apply Zh | apply Zt) rfl rfl ?_) | (refine G.atFld ?_; first | refine G.fieldAddr rfl (tyy rfl) rfl rfl ?_) | (refine G.atSto ?_; refine G.storeOwn rfl rfl (tyy rfl) (by solve | repeat first | apply Zh | apply Zt) rfl rfl rfl rfl ?_) | (refine G.atAlc ?_; refine G.alloc (tyy rfl) rfl rfl ?_; intro _) | (refine G.atBox ?_; refine G.box rfl rfl rfl ?_; intro _) | (refine G.atBld ?_; refine G.build (tyy rfl) rfl rfl rfl ?_) | (refine G.atBsl ?_; refine G.buildSlice (tyy rfl) (tyy rfl) rfl rfl rfl rfl ?_; intro _)))
  all_goals first | (exfalso; omega) | (exfalso; simp_all; done) | skip
  all_goals refine G.freezeRow (e := 90) (sz := 3) (by solve | repeat first | apply Zh | apply Zt) ?_
  all_goals intro h9 hle9 hs9
  all_goals refine G.done (rs := [.cell 2 90, .tmp 3]) rfl (.cellA rfl (tyy rfl) rfl rfl (by solve | repeat first | apply Zh | apply Zt) rfl (.tmp rfl .nil)) rfl [] (SubH.nil _) ⟨ElN.mk2 (by first | rfl | exact nb _) (NodeC.mk_ hs9 ?_), rfl⟩
  all_goals first
    | exact (KidsC.of1 (lf_C _ 2 (intB ver)) (KidsC.of1 (lf_C _ 4 dn) (KidsC.of1 (lf_C _ 128 text) (KidsC.nil_ _))))
    | exact (KidsC.of1 (lf_C _ 2 (intB ver)) (KidsC.of1 (lf_C _ 4 dn) (KidsC.of1 (NodeC.mk_ (twr.mono (by solve | repeat first | assumption | exact Zr _ | refine Zq ?_ (by assumption))) (twk.mono' (by solve | repeat first | assumption | exact Zr _ | refine Zq ?_ (by assumption)))) (KidsC.nil_ _))))
set_option maxRecDepth 8000 in
set_option maxHeartbeats 16000000 in
theorem ref11_op2 : Op11 2 := by
  intro m hop hI hw pv kv nv av mv cv h hV
  obtain ⟨⟨pA, pn, pc, rfl⟩, ⟨kA, kn, kc, rfl⟩, ⟨nA, nn, nc, rfl⟩, ⟨aA, an, ac, rfl⟩, ⟨mA, mn, mc, rfl⟩, ⟨cA, cn, cc, rfl⟩⟩ := hV.forms
  clear hV
  have hiv := hI.ver
  have hic := hI.code
  have hit := hI.target
  clear hI
  unfold Ms.wt at hw
  obtain ⟨id, op9, dn, ver, sasl, mech, text, scope, deref, size, time, types, fl, names, attrs, mods, rdn, delOld, hasSup, sup, attr, target, oid, has, value, code, matched, ctls⟩ := m
  simp only at hop hw hiv hic hit
  subst hop
  all_goals (
    refine Spec.enter Tryd.func51 rfl rfl ?_; intro w0
    repeat' (first | (show G _ (.ops .seq _ (⟨some _, .call { callee := .value (.func 50), args := _, argTypes := _ }, _, _, _, none⟩ :: _) :: _) _ _ _; refine G.call callTagR rfl rfl (ref11_Tag _ _) (by solve | repeat first | apply Zn | apply Zh | apply Zt | apply Zc) ?_; rintro _ h2 H2 ⟨rfl, rfl⟩ hle2) | (refine G.atCode ?_; first | refine G.seq ?_ | refine G.region ?_ | refine G.block ?_ | refine G.ret ?_ | (refine G.cond rfl ?_ ?_ <;> intro hc <;> (try simp only [tests, reduceCtorEq] at hc) <;> (try (exfalso; first | omega | exact Zx hc | exact Zy hc | exact Zb hc | exact hc | exact hc trivial)))) | refine G.endOps ?_ | (refine G.atBin ?_; first | (refine G.atEql ?_; first | refine G.op rfl rfl ?_)) | refine G.op rfl rfl ?_ | (refine G.atLoad ?_; first | refine G.loadOwn1 rfl (tyy rfl) rfl rfl (by solve | repeat first | apply Zh | apply Zt) rfl rfl ?_ | refine G.loadOwnA rfl (tyy rfl) rfl rfl (by solve | repeat first | apply Zh | apply Zt) rfl rfl ?_) | (refine G.atFld ?_; first | refine G.fieldAddr rfl (tyy rfl) rfl rfl ?_) | (refine G.atSto ?_; refine G.storeOwn rfl rfl (tyy rfl) (by solve | repeat first | apply Zh | apply Zt) rfl rfl rfl rfl ?_) | (refine G.atAlc ?_; refine G.alloc (tyy rfl) rfl rfl ?_; intro _) | (refine G.atBox ?_; refine G.box rfl rfl rfl ?_; intro _) | (refine G.atBld ?_; refine G.build (tyy rfl) rfl rfl rfl ?_)))
  all_goals first | (exfalso; omega) | (exfalso; simp_all; done) | skip
  all_goals first
    | exact G.done (rs := [.cell 2 90, .tmp 3]) rfl (.cellA rfl (tyy rfl) rfl rfl (by solve | repeat first | apply Zh | apply Zt) rfl (.tmp rfl .nil)) rfl [] (SubH.nil _) ⟨ElN.mk2 (rfl) (lf_C _ 66 []), rfl⟩
end Go.Proofs.YtibkffoeioidlaaDoor
namespace Go.Proofs.YtibkffoeioidlaaDoor
set_option linter.all false
set_option maxRecDepth 4000
open Go.RowKit

theorem ElN.no {nd : Nd} {b okb : Bool} {h' : Heap} {t : Int} {d : Bs} {A : Option Addr} {k c : Nat} (hb : b = okb) (hf : okb = false) : ElN nd okb (.tuple #[.agg #[.int .i64 t, str d, .slice A k c], .bool b]) h' := by
  subst hb
  exact ⟨t, d, A, k, c, rfl, fun e => by rw [hf] at e; cases e⟩
end Go.Proofs.YtibkffoeioidlaaDoor
