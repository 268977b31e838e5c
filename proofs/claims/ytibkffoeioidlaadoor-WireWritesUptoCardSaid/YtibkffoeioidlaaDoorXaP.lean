/- castellanlaw11.WireWrites. -/
import Derived.Test.YtibkffoeioidlaaDoorXaJ
import Derived.Test.YtibkffoeioidlaaDoorXaO
import Derived.Test.YtibkffoeioidlaaDoorWrZ
namespace Go.Proofs.YtibkffoeioidlaaDoor
set_option linter.all false
set_option maxRecDepth 4000
open Go.RowKit

set_option maxRecDepth 8000 in
set_option maxHeartbeats 8000000 in
theorem law_WireWrites (m : Ms) (hI : MsI m) (hw : m.wt ≤ 10000000) (pv kv nv av mv cv : Value) (h : Heap) (hT : TabW h) (hV : MsV h m pv kv nv av mv cv) :
    Spec Tryd.prog 6 [.agg (msR m pv kv nv av mv cv).toArray] h [] (fun u _ _ => u = .bool true) := by
  have hTw := fun h hV => ref11_Twin m hw pv kv nv av mv cv h hV
  have hW := fun h hT hV => wire_Write m hI hw pv kv nv av mv cv h hT hV
  have hR := fun h pv kv nv av mv cv hV => ref11_Write m hI hw pv kv nv av mv cv h hV
  have hS := fun h pv2 kv2 nv2 av2 mv2 cv2 h1 h2 => ref11_Same m pv kv nv av mv cv pv2 kv2 nv2 av2 mv2 cv2 h h1 h2
  generalize writeM m = r at *
  obtain ⟨a, e⟩ := r
  obtain ⟨⟨pA, pn, pc, rfl⟩, ⟨kA, kn, kc, rfl⟩, ⟨nA, nn, nc, rfl⟩, ⟨aA, an, ac, rfl⟩, ⟨mA, mn, mc, rfl⟩, ⟨cA, cn, cc, rfl⟩⟩ := hV.forms
  refine Spec.enter Tryd.func6 rfl rfl ?_; intro w0
  repeat' (first | (refine G.atCode ?_; first | refine G.seq ?_ | refine G.region ?_) | refine G.endOps ?_ | refine G.op rfl rfl ?_ | (refine G.atLoad ?_; first | refine G.loadOwnA rfl (tyy rfl) rfl rfl (by solve | (repeat (first | apply Take.hd | apply Take.tl))) rfl rfl ?_) | (refine G.atBox ?_; refine G.box rfl rfl rfl ?_; intro _))
  show G _ (.ops .seq _ (⟨some _, .call { callee := .value (.func 23), args := _, argTypes := _ }, _, _, _, none⟩ :: _) :: _) _ _ _
  refine G.call callTwin11 rfl rfl (hTw _ (hV.mono (by solve | (repeat (first | assumption | exact Heap.le_refl _ | (refine Heap.le_trans ?_ (by assumption))))))) (by solve | (repeat (first | apply Takes.nil | apply Take.hd | apply Take.tl | apply Takes.cons))) ?_
  rintro _ h2 H2 ⟨⟨pv8, kv8, nv8, av8, mv8, cv8, rfl, hV8⟩, rfl⟩ hle2
  obtain ⟨⟨pA8, pn8, pc8, rfl⟩, ⟨kA8, kn8, kc8, rfl⟩, ⟨nA8, nn8, nc8, rfl⟩, ⟨aA8, an8, ac8, rfl⟩, ⟨mA8, mn8, mc8, rfl⟩, ⟨cA8, cn8, cc8, rfl⟩⟩ := hV8.forms
  repeat' (first | (show G _ (.ops .seq _ (⟨some _, .call { callee := .value (.func 26), args := _, argTypes := _ }, _, _, _, none⟩ :: _) :: _) _ _ _; refine G.call callAwake11 rfl rfl (law11_awake _ (hT.mono (by solve | (repeat (first | assumption | exact Heap.le_refl _ | (refine Heap.le_trans ?_ (by assumption))))))) (by solve | (repeat (first | apply Takes.nil | apply Take.hd | apply Take.tl | apply Takes.cons))) ?_; rintro _ h5 H5 ⟨rfl, rfl⟩ hle5) | (show G _ (.ops .seq _ (⟨some _, .call { callee := .value (.func 24), args := _, argTypes := _ }, _, _, _, none⟩ :: _) :: _) _ _ _; refine G.call callWriteW rfl rfl (hW _ (hT.mono (by solve | (repeat (first | assumption | exact Heap.le_refl _ | (refine Heap.le_trans ?_ (by assumption)))))) (hV.mono (by solve | (repeat (first | assumption | exact Heap.le_refl _ | (refine Heap.le_trans ?_ (by assumption))))))) (by solve | (repeat (first | apply Takes.nil | apply Take.hd | apply Take.tl | apply Takes.cons))) ?_; rintro _ h3 H3 ⟨rfl, rfl⟩ hle3) | (show G _ (.ops .seq _ (⟨some _, .call { callee := .value (.func 25), args := _, argTypes := _ }, _, _, _, none⟩ :: _) :: _) _ _ _; refine G.call callWrite11 rfl rfl (hR _ _ _ _ _ _ _ (hV8.mono (by solve | (repeat (first | assumption | exact Heap.le_refl _ | (refine Heap.le_trans ?_ (by assumption))))))) (by solve | (repeat (first | apply Takes.nil | apply Take.hd | apply Take.tl | apply Takes.cons))) ?_; rintro _ h4 H4 ⟨rfl, rfl⟩ hle4) | (show G _ (.ops .seq _ (⟨some _, .call { callee := .value (.func 27), args := _, argTypes := _ }, _, _, _, none⟩ :: _) :: _) _ _ _; refine G.call callSame11 rfl rfl (hS _ _ _ _ _ _ _ (hV.mono (by solve | (repeat (first | assumption | exact Heap.le_refl _ | (refine Heap.le_trans ?_ (by assumption)))))) (hV8.mono (by solve | (repeat (first | assumption | exact Heap.le_refl _ | (refine Heap.le_trans ?_ (by assumption))))))) (by solve | (repeat (first | apply Takes.nil | apply Take.hd | apply Take.tl | apply Takes.cons))) ?_; rintro _ h10 H10 ⟨rfl, rfl⟩ hle10) | (refine G.atCode ?_; first | refine G.seq ?_ | refine G.region ?_ | refine G.ret ?_) | refine G.endOps ?_ | (refine G.atGd ?_; first | refine G.guardYes rfl rfl ?_ | (refine G.guardS rfl rfl rfl ?_ ?_ <;> intro hc <;> (try simp only [tests, reduceCtorEq] at hc) <;> (try (exfalso; first | omega | exact absurd hc (by with_reducible assumption) | exact absurd (by with_reducible assumption) hc | exact Bool.noConfusion hc | exact hc | exact hc trivial | fail)))) | (refine G.atBin ?_; first | (refine G.atEql ?_; first | refine G.op rfl rfl ?_ | refine G.eqStr rfl rfl rfl ?_)) | refine G.op rfl rfl ?_ | (refine G.atLoad ?_; first | refine G.loadOwnA rfl (tyy rfl) rfl rfl (by solve | (repeat (first | apply Take.hd | apply Take.tl))) rfl rfl ?_) | (refine G.atSto ?_; refine G.storeOwn rfl rfl (tyy rfl) (by solve | (repeat (first | apply Take.hd | apply Take.tl))) rfl rfl rfl rfl ?_) | (refine G.atAlc ?_; refine G.alloc (tyy rfl) rfl rfl ?_; intro _))
  all_goals first | (exfalso; omega) | (exfalso; simp_all; done) | exact G.done1 rfl rfl [] (SubH.nil _) (by first | rfl | simp) | skip
  all_goals trace_state
end Go.Proofs.YtibkffoeioidlaaDoor
