/- castellanlaw27: ConnNil. -/
import Derived.Test.YtibkffoeioidlaaDoorCoC
import Derived.Test.YtibkffoeioidlaaDoorCoJ
namespace Go.Proofs.YtibkffoeioidlaaDoor
set_option linter.all false
set_option maxRecDepth 4000
open Go.RowKit

theorem callCnBind : Callable Tryd.prog 20 := ⟨_, Tryd.func20, by kernel_rfl, rfl⟩
theorem callCnWho : Callable Tryd.prog 18 := ⟨_, Tryd.func18, by kernel_rfl, rfl⟩
end Go.Proofs.YtibkffoeioidlaaDoor
namespace Go.Proofs.YtibkffoeioidlaaDoor
set_option linter.all false
set_option maxRecDepth 4000
open Go.RowKit

theorem conn_Bind (gc : Nat) (wv pv : Value) (b : Bool) (d : Dn) (v : Value) (hd : dnW d <= 10000000) (h : Heap) (hv : DnC h d v) :
    Spec Tryd.prog 20 [.pointer (some ⟨gc, 0, none⟩), v] h [.blk gc [wv, pv, .bool b] 79] (fun u h' H' => u = .tuple #[] /\ ∃ wv', DnC h' d wv' /\ H' = [.blk gc [wv', pv, .bool b] 79]) := by
  obtain ⟨vA, vn, vc, rfl⟩ : ∃ A n c, v = .slice A n c := by
    obtain ⟨rows, hs, _⟩ := hv
    obtain ⟨A, c, e, _⟩ := hs.form
    exact ⟨_, _, _, e⟩
  have hJ := fun h hv => dn_Join d [] (.slice vA vn vc) (.slice none 0 0) hd (by decide) h hv (DnC.nil h)
  refine Spec.enter Tryd.func20 rfl rfl ?_; intro w0
  repeat' (first | (show G _ (.ops .seq _ (⟨some _, .call { callee := .value (.func 40), args := _, argTypes := _ }, _, _, _, none⟩ :: _) :: _) _ _ _; refine G.call callJoin9 rfl rfl (hJ _ (hv.mono (by solve | repeat first | assumption | exact Zr _ | refine Zq ?_ (by assumption)))) (by solve | repeat first | apply Zn | apply Zh | apply Zt | apply Zc) ?_; rintro _ h2 H2 ⟨hw, rfl⟩ hle2; obtain ⟨wA, wn, wc, rfl⟩ := (show ∃ A n c, _ = Value.slice A n c by obtain ⟨rows, hs, _⟩ := hw; obtain ⟨A, c, e, _⟩ := hs.form; exact ⟨_, _, _, e⟩)) | (refine G.atCode ?_; first | refine G.seq ?_ | refine G.region ?_ | (refine G.cond rfl ?_ ?_ <;> intro hc <;> (try simp only [tests, reduceCtorEq] at hc) <;> (try (exfalso; first | omega | exact Zx hc | exact Zy hc | exact Zb hc | exact hc | exact hc trivial)))) | refine G.endOps ?_ | (refine G.atBin ?_; first | (refine G.atNeq ?_; first | refine G.nePtr rfl rfl (tyy rfl) rfl ?_)) | refine G.op rfl rfl ?_ | (refine G.atFld ?_; first | refine G.fieldAddr rfl (tyy rfl) rfl rfl ?_) | (refine G.atSto ?_; refine G.storeOwn rfl rfl (tyy rfl) (by solve | repeat first | apply Zh | apply Zt) rfl rfl rfl rfl ?_) | (refine G.atBld ?_; refine G.build (tyy rfl) rfl rfl rfl ?_))
  all_goals first | (exfalso; simp_all; done) | skip
  all_goals exact G.done (rs := []) rfl .nil rfl _ (by solve | repeat first | apply Zm | apply Zh | apply Zt | apply Zk) ⟨rfl, _, hw, rfl⟩
theorem conn_Who (gc : Nat) (wv pv : Value) (d : Dn) (hd : dnW d <= 10000000) (h : Heap) (hw : DnC h d wv) :
    Spec Tryd.prog 18 [.pointer (some ⟨gc, 0, none⟩)] h [.blk gc [wv, pv, .bool false] 79] (fun u h' H' => DnC h' d u /\ H' = [.blk gc [wv, pv, .bool false] 79]) := by
  obtain ⟨vA, vn, vc, rfl⟩ : ∃ A n c, wv = .slice A n c := by
    obtain ⟨rows, hs, _⟩ := hw
    obtain ⟨A, c, e, _⟩ := hs.form
    exact ⟨_, _, _, e⟩
  have hJ := fun h hv => dn_Join d [] (.slice vA vn vc) (.slice none 0 0) hd (by decide) h hv (DnC.nil h)
  refine Spec.enter Tryd.func18 rfl rfl ?_; intro w0
  repeat' (first | (show G _ (.ops .seq _ (⟨some _, .call { callee := .value (.func 17), args := _, argTypes := _ }, _, _, _, none⟩ :: _) :: _) _ _ _; refine G.call callCnClosed rfl rfl (conn_Closed gc _ _ false _) (by solve | repeat first | apply Zn | apply Zh | apply Zt | apply Zc) ?_; rintro _ h1 H1 ⟨rfl, rfl⟩ hle1) | (show G _ (.ops .seq _ (⟨some _, .call { callee := .value (.func 40), args := _, argTypes := _ }, _, _, _, none⟩ :: _) :: _) _ _ _; refine G.call callJoin9 rfl rfl (hJ _ (hw.mono (by solve | repeat first | assumption | exact Zr _ | refine Zq ?_ (by assumption)))) (by solve | repeat first | apply Zn | apply Zh | apply Zt | apply Zc) ?_; rintro _ h2 H2 ⟨hu, rfl⟩ hle2) | (refine G.atCode ?_; first | refine G.seq ?_ | refine G.region ?_ | refine G.skip ?_ | refine G.ret ?_ | (refine G.cond rfl ?_ ?_ <;> intro hc <;> (try simp only [tests, reduceCtorEq] at hc) <;> (try (exfalso; first | omega | exact Zx hc | exact Zy hc | exact Zb hc | exact hc | exact hc trivial)))) | refine G.endOps ?_ | refine G.op rfl rfl ?_ | (refine G.atLoad ?_; first | refine G.loadOwn1 rfl (tyy rfl) rfl rfl (by solve | repeat first | apply Zh | apply Zt) rfl rfl ?_) | (refine G.atFld ?_; first | refine G.fieldAddr rfl (tyy rfl) rfl rfl ?_))
  all_goals first | (exfalso; simp_all; done) | skip
  all_goals exact G.done1 rfl rfl _ (by solve | repeat first | apply Zm | apply Zh | apply Zt | apply Zk) ⟨hu, rfl⟩
theorem conn_WhoC (gc : Nat) (wv pv : Value) (h : Heap) :
    Spec Tryd.prog 18 [.pointer (some ⟨gc, 0, none⟩)] h [.blk gc [wv, pv, .bool true] 79] (fun u _ H' => u = .slice none 0 0 /\ H' = [.blk gc [wv, pv, .bool true] 79]) := by
  refine Spec.enter Tryd.func18 rfl rfl ?_; intro w0
  repeat' (first | (show G _ (.ops .seq _ (⟨some _, .call { callee := .value (.func 17), args := _, argTypes := _ }, _, _, _, none⟩ :: _) :: _) _ _ _; refine G.call callCnClosed rfl rfl (conn_Closed gc _ _ true _) (by solve | repeat first | apply Zn | apply Zh | apply Zt | apply Zc) ?_; rintro _ h1 H1 ⟨rfl, rfl⟩ hle1) | (refine G.atCode ?_; first | refine G.seq ?_ | refine G.region ?_ | refine G.ret ?_ | (refine G.cond rfl ?_ ?_ <;> intro hc <;> (try simp only [tests, reduceCtorEq] at hc) <;> (try (exfalso; first | omega | exact Zx hc | exact Zy hc | exact Zb hc | exact hc | exact hc trivial)))) | refine G.endOps ?_ | refine G.op rfl rfl ?_)
  all_goals first | (exfalso; simp_all; done) | exact G.done1 rfl rfl _ (by solve | repeat first | apply Zm | apply Zh | apply Zt | apply Zk) ⟨rfl, rfl⟩
theorem conn_WhoOwn (gc : Nat) (wv pv : Value) (d : Dn) (hd : dnW d <= 10000000) (h : Heap) (hw : DnC h d wv) :
    Spec Tryd.prog 18 [.pointer (some ⟨gc, 0, none⟩)] h [.blk gc [wv, pv, .bool false] 79] (fun u h' H' => ∃ Hx, JnR d u h' Hx /\ H' = .blk gc [wv, pv, .bool false] 79 :: Hx) := by
  obtain ⟨vA, vn, vc, rfl⟩ : ∃ A n c, wv = .slice A n c := by
    obtain ⟨rows, hs, _⟩ := hw
    obtain ⟨A, c, e, _⟩ := hs.form
    exact ⟨_, _, _, e⟩
  have hJ := fun h hv => dn_JoinOwn d [] (.slice vA vn vc) (.slice none 0 0) hd (by decide) h hv (DnC.nil h)
  refine Spec.enter Tryd.func18 rfl rfl ?_; intro w0
  repeat' (first | (show G _ (.ops .seq _ (⟨some _, .call { callee := .value (.func 17), args := _, argTypes := _ }, _, _, _, none⟩ :: _) :: _) _ _ _; refine G.call callCnClosed rfl rfl (conn_Closed gc _ _ false _) (by solve | repeat first | apply Zn | apply Zh | apply Zt | apply Zc) ?_; rintro _ h1 H1 ⟨rfl, rfl⟩ hle1) | (show G _ (.ops .seq _ (⟨some _, .call { callee := .value (.func 40), args := _, argTypes := _ }, _, _, _, none⟩ :: _) :: _) _ _ _; refine G.call callJoin9 rfl rfl (hJ _ (hw.mono (by solve | repeat first | assumption | exact Zr _ | refine Zq ?_ (by assumption)))) (by solve | repeat first | apply Zn | apply Zh | apply Zt | apply Zc) ?_; rintro _ h2 H2 hu hle2) | (refine G.atCode ?_; first | refine G.seq ?_ | refine G.region ?_ | refine G.skip ?_ | refine G.ret ?_ | (refine G.cond rfl ?_ ?_ <;> intro hc <;> (try simp only [tests, reduceCtorEq] at hc) <;> (try (exfalso; first | omega | exact Zx hc | exact Zy hc | exact Zb hc | exact hc | exact hc trivial)))) | refine G.endOps ?_ | refine G.op rfl rfl ?_ | (refine G.atLoad ?_; first | refine G.loadOwn1 rfl (tyy rfl) rfl rfl (by solve | repeat first | apply Zh | apply Zt) rfl rfl ?_) | (refine G.atFld ?_; first | refine G.fieldAddr rfl (tyy rfl) rfl rfl ?_))
  all_goals first | (exfalso; simp_all; done) | skip
  all_goals exact G.done1 rfl rfl (.blk gc _ 79 :: H2) ⟨[], by simp only [List.append_nil]; exact List.perm_append_singleton _ _⟩ ⟨H2, hu, rfl⟩
end Go.Proofs.YtibkffoeioidlaaDoor
