/- castellanlaw27.ConnReplies. -/
import Derived.Test.YtibkffoeioidlaaDoorCoG
import Derived.Test.YtibkffoeioidlaaDoorWrL
import Derived.Test.YtibkffoeioidlaaDoorWrD
namespace Go.Proofs.YtibkffoeioidlaaDoor
set_option linter.all false
set_option maxRecDepth 4000
open Go.RowKit

def noteM : Ms := { zM with op := 24, code := 2, oid := [49, 46, 51, 46, 54, 46, 49, 46, 52, 46, 49, 46, 49, 52, 54, 54, 46, 50, 48, 48, 51, 54] }
theorem note1 : (writeM noteM).2 = 0 := by kernel_rfl
theorem note2 : readM (writeM noteM).1 = .ok noteM := write_read note1
theorem note_I : MsI noteM := by
  constructor <;> first | (simp only [inR, noteM, zM]; omega) | (intro x hx; cases hx)
theorem note_V (h : Heap) : MsV h noteM nilV nilV nilV nilV nilV nilV := zV rfl rfl rfl rfl rfl
theorem note_C (h : Heap) : LC MsC h [noteM] [msR noteM nilV nilV nilV nilV nilV nilV] := LC.one ⟨_, _, _, _, _, _, rfl, note_V h⟩
theorem rowed32 (m : Ms) (a b c d e f : Value) : Rowed 32 [msR m a b c d e f] := fun r hr => by
  simp only [List.mem_singleton] at hr
  subst hr; rfl
set_option maxRecDepth 8000 in
set_option maxHeartbeats 4000000 in
theorem conn_Notice (h : Heap) (hT : TabW h) : Spec Tryd.prog 36 [] h [] (fun u _ H' => u = str (writeM noteM).1 ∧ H' = []) := by
  have hR := fun v h hT hv => conn_Reply [noteM] (fun m hm => by simp only [List.mem_singleton] at hm; subst hm; exact note_I) (fun m hm => by simp only [List.mem_singleton] at hm; subst hm; decide) (by decide) v h hT hv
  rw [show repM [noteM] = (writeM noteM).1 by simp [repM]] at hR
  refine Spec.enter Tryd.func36 rfl rfl ?_; intro w0
  repeat' (first | (show G _ (.ops .seq _ (⟨some _, .call { callee := .value (.func 37), args := _, argTypes := _ }, _, _, _, none⟩ :: _) :: _) _ _ _; refine Hold.out ?_) | (refine G.atCode ?_; first | refine G.seq ?_ | refine G.region ?_) | refine G.endOps ?_ | refine G.op rfl rfl ?_ | (refine G.atBld ?_; refine G.build (tyy rfl) rfl rfl rfl ?_) | (refine G.atBsl ?_; refine G.buildSlice (tyy rfl) (tyy rfl) rfl rfl rfl rfl ?_; intro _))
  refine ⟨?_⟩
  refine G.freezeBlk (e := 51) (by solve | (repeat (first | apply Take.hd | apply Take.tl))) ?_
  intro h9 hle9 hc9
  have hs9 := HSl.ofBlk1 (rows := [msR noteM nilV nilV nilV nilV nilV nilV]) (n := 1) hc9 (rowed32 _ _ _ _ _ _ _) rfl (by decide)
  show G _ (.ops .seq _ (⟨some _, .call { callee := .value (.func 37), args := _, argTypes := _ }, _, _, _, none⟩ :: _) :: _) _ _ _
  refine G.call callCnReply rfl rfl (hR _ _ (hT.mono (by solve | (repeat (first | assumption | exact Heap.le_refl _ | (refine Heap.le_trans ?_ (by assumption)))))) ⟨_, hs9, note_C _⟩) (by solve | (repeat (first | apply Takes.nil | apply Take.hd | apply Take.tl | apply Takes.cons))) ?_
  rintro _ h2 H2 ⟨rfl, rfl⟩ hle2
  repeat' (first | (refine G.atCode ?_; first | refine G.ret ?_) | refine G.endOps ?_ | refine G.op rfl rfl ?_)
  all_goals exact G.done1 rfl rfl [] (SubH.nil _) ⟨rfl, rfl⟩
set_option maxRecDepth 8000 in
set_option maxHeartbeats 4000000 in
theorem ref27_Notice (h : Heap) : Spec Tryd.prog 39 [] h [] (fun u _ H' => u = str (writeM noteM).1 ∧ H' = []) := by
  have hR := fun v h hv => ref27_Reply [noteM] (fun m hm => by simp only [List.mem_singleton] at hm; subst hm; exact note_I) (fun m hm => by simp only [List.mem_singleton] at hm; subst hm; decide) (by decide) v h hv
  rw [show repM [noteM] = (writeM noteM).1 by simp [repM]] at hR
  refine Spec.enter Tryd.func39 rfl rfl ?_; intro w0
  repeat' (first | (show G _ (.ops .seq _ (⟨some _, .call { callee := .value (.func 38), args := _, argTypes := _ }, _, _, _, none⟩ :: _) :: _) _ _ _; refine Hold.out ?_) | (refine G.atCode ?_; first | refine G.seq ?_ | refine G.region ?_) | refine G.endOps ?_ | refine G.op rfl rfl ?_ | (refine G.atBld ?_; refine G.build (tyy rfl) rfl rfl rfl ?_) | (refine G.atBsl ?_; refine G.buildSlice (tyy rfl) (tyy rfl) rfl rfl rfl rfl ?_; intro _))
  refine ⟨?_⟩
  refine G.freezeBlk (e := 51) (by solve | (repeat (first | apply Take.hd | apply Take.tl))) ?_
  intro h9 hle9 hc9
  have hs9 := HSl.ofBlk1 (rows := [msR noteM nilV nilV nilV nilV nilV nilV]) (n := 1) hc9 (rowed32 _ _ _ _ _ _ _) rfl (by decide)
  show G _ (.ops .seq _ (⟨some _, .call { callee := .value (.func 38), args := _, argTypes := _ }, _, _, _, none⟩ :: _) :: _) _ _ _
  refine G.call callReply27 rfl rfl (hR _ _ ⟨_, hs9, note_C _⟩) (by solve | (repeat (first | apply Takes.nil | apply Take.hd | apply Take.tl | apply Takes.cons))) ?_
  rintro _ h2 H2 ⟨rfl, rfl⟩ hle2
  repeat' (first | (refine G.atCode ?_; first | refine G.ret ?_) | refine G.endOps ?_ | refine G.op rfl rfl ?_)
  all_goals exact G.done1 rfl rfl [] (SubH.nil _) ⟨rfl, rfl⟩
set_option maxRecDepth 8000 in
set_option maxHeartbeats 8000000 in
theorem law_ConnReplies (l : List Ms) (hI : ∀ m ∈ l, MsI m) (hw : ∀ m ∈ l, m.wt ≤ 10000000) (v : Value) (h : Heap) (hT : TabW h) (hv : MssC h l v) :
    Spec Tryd.prog 12 [v] h [] (fun u _ _ => u = .bool true) := by
  obtain ⟨A, c, rfl, _, _⟩ := hv.form
  have hN := write_max noteM
  have hRd := fun h hT => wire_ReadP (writeM noteM).1 (by omega) (fun op o rest h1 h2 => by
    have e := write_op note1 h1 h2
    subst e
    exact wire_op24) h hT
  rw [note2] at hRd
  have hNt := fun h hT => conn_Notice h hT
  have hNr := fun h => ref27_Notice h
  generalize (writeM noteM).1 = nb at *
  by_cases hn : 30 < l.length
  · refine Spec.enter Tryd.func12 rfl rfl ?_; intro w0
    repeat' (first | (show G _ (.ops .seq _ (⟨some _, .call { callee := .value (.func 13), args := _, argTypes := _ }, _, _, _, none⟩ :: _) :: _) _ _ _; refine G.call callAwake27 rfl rfl (law27_awake _ (hT.mono (by solve | (repeat (first | assumption | exact Heap.le_refl _ | (refine Heap.le_trans ?_ (by assumption))))))) (by solve | (repeat (first | apply Takes.nil | apply Take.hd | apply Take.tl | apply Takes.cons))) ?_; rintro _ h6 H6 ⟨rfl, rfl⟩ hle6) | (refine G.atCode ?_; first | refine G.seq ?_ | refine G.region ?_ | refine G.ret ?_ | (refine G.cond rfl ?_ ?_ <;> intro hc <;> (try simp only [tests, reduceCtorEq] at hc) <;> (try (exfalso; first | omega | exact absurd hc (by with_reducible assumption) | exact absurd (by with_reducible assumption) hc | exact Bool.noConfusion hc | exact hc | exact hc trivial | fail)))) | refine G.endOps ?_ | (refine G.atBin ?_; first | refine G.op rfl rfl ?_) | refine G.op rfl rfl ?_ | (refine G.atLen ?_; first | refine G.lenSlice rfl (tyy rfl) rfl ?_))
    all_goals first | (exfalso; omega) | exact G.done1 rfl rfl [] (SubH.nil _) rfl | skip
  have hR1 := fun h hT hv => conn_Reply l hI hw (by omega) (.slice A l.length c) h hT hv
  have hR2 := fun h hv => ref27_Reply l hI hw (by omega) (.slice A l.length c) h hv
  generalize repM l = rb at *
  refine Spec.enter Tryd.func12 rfl rfl ?_; intro w0
  repeat' (first | (show G _ (.ops .seq _ (⟨some _, .call { callee := .value (.func 13), args := _, argTypes := _ }, _, _, _, none⟩ :: _) :: _) _ _ _; refine G.call callAwake27 rfl rfl (law27_awake _ (hT.mono (by solve | (repeat (first | assumption | exact Heap.le_refl _ | (refine Heap.le_trans ?_ (by assumption))))))) (by solve | (repeat (first | apply Takes.nil | apply Take.hd | apply Take.tl | apply Takes.cons))) ?_; rintro _ h6 H6 ⟨rfl, rfl⟩ hle6) | (show G _ (.ops .seq _ (⟨some _, .call { callee := .value (.func 36), args := _, argTypes := _ }, _, _, _, none⟩ :: _) :: _) _ _ _; refine G.call callCnNotice rfl rfl (hNt _ (hT.mono (by solve | (repeat (first | assumption | exact Heap.le_refl _ | (refine Heap.le_trans ?_ (by assumption))))))) (by solve | (repeat (first | apply Takes.nil | apply Take.hd | apply Take.tl | apply Takes.cons))) ?_; rintro _ h2 H2 ⟨rfl, rfl⟩ hle2) | (show G _ (.ops .seq _ (⟨some _, .call { callee := .value (.func 39), args := _, argTypes := _ }, _, _, _, none⟩ :: _) :: _) _ _ _; refine G.call callNotice27 rfl rfl (hNr _) (by solve | (repeat (first | apply Takes.nil | apply Take.hd | apply Take.tl | apply Takes.cons))) ?_; rintro _ h3 H3 ⟨rfl, rfl⟩ hle3) | (show G _ (.ops .seq _ (⟨some _, .call { callee := .value (.func 37), args := _, argTypes := _ }, _, _, _, none⟩ :: _) :: _) _ _ _; refine G.call callCnReply rfl rfl (hR1 _ (hT.mono (by solve | (repeat (first | assumption | exact Heap.le_refl _ | (refine Heap.le_trans ?_ (by assumption)))))) (SC.mono (fun x => x.mono (by solve | (repeat (first | assumption | exact Heap.le_refl _ | (refine Heap.le_trans ?_ (by assumption)))))) (by solve | (repeat (first | assumption | exact Heap.le_refl _ | (refine Heap.le_trans ?_ (by assumption))))) hv)) (by solve | (repeat (first | apply Takes.nil | apply Take.hd | apply Take.tl | apply Takes.cons))) ?_; rintro _ h4 H4 ⟨rfl, rfl⟩ hle4) | (show G _ (.ops .seq _ (⟨some _, .call { callee := .value (.func 38), args := _, argTypes := _ }, _, _, _, none⟩ :: _) :: _) _ _ _; refine G.call callReply27 rfl rfl (hR2 _ (SC.mono (fun x => x.mono (by solve | (repeat (first | assumption | exact Heap.le_refl _ | (refine Heap.le_trans ?_ (by assumption)))))) (by solve | (repeat (first | assumption | exact Heap.le_refl _ | (refine Heap.le_trans ?_ (by assumption))))) hv)) (by solve | (repeat (first | apply Takes.nil | apply Take.hd | apply Take.tl | apply Takes.cons))) ?_; rintro _ h5 H5 ⟨rfl, rfl⟩ hle5) | (show G _ (.ops .seq _ (⟨some _, .call { callee := .value (.func 28), args := _, argTypes := _ }, _, _, _, none⟩ :: _) :: _) _ _ _; refine G.call callReadW rfl rfl (hRd _ (hT.mono (by solve | (repeat (first | assumption | exact Heap.le_refl _ | (refine Heap.le_trans ?_ (by assumption))))))) (by solve | (repeat (first | apply Takes.nil | apply Take.hd | apply Take.tl | apply Takes.cons))) ?_; rintro _ h7 H7 ⟨hq7, rfl⟩ hle7; obtain ⟨pv9, kv9, nv9, av9, mv9, cv9, rfl, hV9⟩ := hq7.ok_inv; obtain ⟨⟨pA9, pn9, pc9, rfl⟩, ⟨kA9, kn9, kc9, rfl⟩, ⟨nA9, nn9, nc9, rfl⟩, ⟨aA9, an9, ac9, rfl⟩, ⟨mA9, mn9, mc9, rfl⟩, ⟨cA9, cn9, cc9, rfl⟩⟩ := hV9.forms) | (refine G.atCode ?_; first | refine G.seq ?_ | refine G.region ?_ | refine G.skip ?_ | refine G.ret ?_ | (refine G.cond rfl ?_ ?_ <;> intro hc <;> (try simp only [tests, reduceCtorEq] at hc) <;> (try (exfalso; first | omega | exact absurd hc (by with_reducible assumption) | exact absurd (by with_reducible assumption) hc | exact Bool.noConfusion hc | exact hc | exact hc trivial | fail)))) | refine G.endOps ?_ | (refine G.atGd ?_; first | refine G.guardYes rfl rfl ?_ | (refine G.guardS rfl rfl rfl ?_ ?_ <;> intro hc <;> (try simp only [tests, reduceCtorEq] at hc) <;> (try (exfalso; first | omega | exact absurd hc (by with_reducible assumption) | exact absurd (by with_reducible assumption) hc | exact Bool.noConfusion hc | exact hc | exact hc trivial | fail)))) | (refine G.atBin ?_; first | (refine G.atEql ?_; first | refine G.op rfl rfl ?_ | refine G.eqStr rfl rfl rfl ?_) | refine G.op rfl rfl ?_) | refine G.op rfl rfl ?_ | (refine G.atLen ?_; first | refine G.lenSlice rfl (tyy rfl) rfl ?_) | (refine G.atLoad ?_; first | refine G.loadOwn1 rfl (tyy rfl) rfl rfl (by solve | (repeat (first | apply Take.hd | apply Take.tl))) rfl rfl ?_) | (refine G.atFld ?_; first | refine G.fieldAddr rfl (tyy rfl) rfl rfl ?_) | (refine G.atSto ?_; refine G.storeOwn rfl rfl (tyy rfl) (by solve | (repeat (first | apply Take.hd | apply Take.tl))) rfl rfl rfl rfl ?_) | (refine G.atAlc ?_; refine G.alloc (tyy rfl) rfl rfl ?_; intro _))
  all_goals first | (exfalso; omega) | (exfalso; simp_all; done) | exact G.done1 rfl rfl [] (SubH.nil _) (by first | rfl | simp) | skip
  all_goals trace_state
end Go.Proofs.YtibkffoeioidlaaDoor
