/- wire.Bare: a message without what plays no part. -/
import Derived.Test.YtibkffoeioidlaaDoorWrY
import Derived.Test.YtibkffoeioidlaaDoorLtQ
namespace Go.Proofs.YtibkffoeioidlaaDoor
set_option linter.all false
set_option maxRecDepth 4000
open Go.RowKit

theorem callBareW : Callable Tryd.prog 34 := ⟨_, Tryd.func34, by kernel_rfl, rfl⟩
theorem callBareR : Callable Tryd.prog 67 := ⟨_, Tryd.func67, by kernel_rfl, rfl⟩
theorem callBareV : Callable Tryd.prog 68 := ⟨_, Tryd.func68, by kernel_rfl, rfl⟩
set_option maxRecDepth 8000 in
set_option maxHeartbeats 4000000 in
theorem bare_result (g1 g3 : Nat) (m o : Ms) (a1 a2 a3 a4 a5 a6 b1 b2 b3 b4 b5 b6 : Value) (h : Heap) :
    Spec Tryd.prog 67 [.pointer (some ⟨g1, 0, none⟩), .pointer (some ⟨g3, 0, none⟩)] h [.blk g1 (msR m a1 a2 a3 a4 a5 a6) 51, .blk g3 (msR o b1 b2 b3 b4 b5 b6) 51]
      (fun u _ H' => u = .tuple #[] /\ H' = [.blk g1 (msR m a1 a2 a3 a4 a5 a6) 51, .blk g3 (msR { o with code := m.code, matched := m.matched, text := m.text } b1 b2 b3 b4 b5 b6) 51]) := by
  refine Spec.enter Tryd.func67 rfl rfl ?_; intro w0
  repeat' (first | (refine G.atAny ?_; first | refine G.anyHold 12 slB rfl (H1 := [.blk g1 (msR m a1 a2 a3 a4 a5 a6) 51]) rfl Zw Zg Zu ?_ | refine G.anyOne rfl Zw Zg Zu ?_ | refine G.anyEndX Zw ?_) | (refine G.atCode ?_; first | refine G.anyIn mixedOk ?_) | refine G.endOps ?_ | refine G.endHeld ?_ | refine G.back ?_ | (refine G.atLoad ?_; first | refine G.loadOwn1 rfl (tyy rfl) rfl rfl Za rfl rfl ?_) | (refine G.atFld ?_; first | refine G.fieldAddr rfl (tyy rfl) rfl rfl ?_) | (refine G.atSto ?_; refine G.storeOwn rfl rfl (tyy rfl) Za rfl rfl rfl rfl ?_))
  all_goals exact G.done (rs := []) rfl .nil rfl _ Zu ⟨rfl, rfl⟩
theorem bare_value (g1 g3 : Nat) (m o : Ms) (a1 a2 a3 a4 a5 a6 b1 b2 b3 b4 b5 b6 : Value) (h : Heap) :
    Spec Tryd.prog 68 [.pointer (some ⟨g1, 0, none⟩), .pointer (some ⟨g3, 0, none⟩)] h [.blk g1 (msR m a1 a2 a3 a4 a5 a6) 51, .blk g3 (msR o b1 b2 b3 b4 b5 b6) 51]
      (fun u _ H' => u = .tuple #[] /\ H' = [.blk g1 (msR m a1 a2 a3 a4 a5 a6) 51, .blk g3 (msR { o with has := m.has, value := if m.has = true then m.value else o.value } b1 b2 b3 b4 b5 b6) 51]) := by
  obtain ⟨id, op, dn, ver, sasl, mech, text, scope, deref, size, time, types, fl, names, attrs, mods, rdn, delOld, hasSup, sup, attr, target, oid, has, value, code, matched, ctls⟩ := m
  cases has
  . refine Spec.enter Tryd.func68 rfl rfl ?_; intro w0
    repeat' (first | (refine G.atCode ?_; first | refine G.seq ?_ | refine G.region ?_ | refine G.skip ?_ | (refine G.cond rfl ?_ ?_ <;> intro hc <;> (try simp only [tests, reduceCtorEq] at hc) <;> (try exact Zf))) | refine G.endOps ?_ | (refine G.atLoad ?_; first | refine G.loadOwn1 rfl (tyy rfl) rfl rfl Za rfl rfl ?_) | (refine G.atFld ?_; first | refine G.fieldAddr rfl (tyy rfl) rfl rfl ?_) | (refine G.atSto ?_; refine G.storeOwn rfl rfl (tyy rfl) Za rfl rfl rfl rfl ?_))
    all_goals first | (exfalso; simp_all; done) | exact G.done (rs := []) rfl .nil rfl [_, _] Zu ⟨rfl, rfl⟩
  . refine Spec.enter Tryd.func68 rfl rfl ?_; intro w0
    repeat' (first | (refine G.atCode ?_; first | refine G.seq ?_ | refine G.region ?_ | (refine G.cond rfl ?_ ?_ <;> intro hc <;> (try simp only [tests, reduceCtorEq] at hc) <;> (try exact Zf))) | refine G.endOps ?_ | (refine G.atLoad ?_; first | refine G.loadOwn1 rfl (tyy rfl) rfl rfl Za rfl rfl ?_) | (refine G.atFld ?_; first | refine G.fieldAddr rfl (tyy rfl) rfl rfl ?_) | (refine G.atSto ?_; refine G.storeOwn rfl rfl (tyy rfl) Za rfl rfl rfl rfl ?_))
    all_goals first | (exfalso; simp_all; done) | exact G.done (rs := []) rfl .nil rfl [_, _] Zu ⟨rfl, rfl⟩
end Go.Proofs.YtibkffoeioidlaaDoor
