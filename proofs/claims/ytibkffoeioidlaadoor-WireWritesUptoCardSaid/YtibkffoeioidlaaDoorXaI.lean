/- castellanref11: a form's parts; texts, two, attr. -/
import Derived.Test.YtibkffoeioidlaaDoorWrW
import Derived.Test.YtibkffoeioidlaaDoorTlvO
import Derived.Test.YtibkffoeioidlaaDoorWrT
namespace Go.Proofs.YtibkffoeioidlaaDoor
set_option linter.all false
set_option maxRecDepth 4000
open Go.RowKit
theorem set_last {α : Type} (l : List α) (z r : α) : (l ++ [z]).set l.length r = l ++ [r] := by simp
theorem callFput : Callable Tryd.prog 53 := ⟨_, Tryd.func53, by kernel_rfl, rfl⟩
theorem callFlist : Callable Tryd.prog 78 := ⟨_, Tryd.func78, by kernel_rfl, rfl⟩
theorem callFnum : Callable Tryd.prog 77 := ⟨_, Tryd.func77, by kernel_rfl, rfl⟩
theorem callFtruth : Callable Tryd.prog 54 := ⟨_, Tryd.func54, by kernel_rfl, rfl⟩
theorem callTexts11 : Callable Tryd.prog 80 := ⟨_, Tryd.func80, by kernel_rfl, rfl⟩
theorem callTwo11 : Callable Tryd.prog 79 := ⟨_, Tryd.func79, by kernel_rfl, rfl⟩
theorem callAttr11 : Callable Tryd.prog 82 := ⟨_, Tryd.func82, by kernel_rfl, rfl⟩
abbrev FmH (g : Nat) (A : Option Addr) (c : Nat) (bad : Bool) (rows : List (List Value)) : List Chunk := [.blk g [.slice A rows.length c, .bool bad] 103, .row (.slice A rows.length c) 90 3 rows]
set_option maxHeartbeats 2000000 in
theorem form_put (g : Nat) (tag : Int) (d : Bs) (A : Option Addr) (c : Nat) (bad : Bool) (rows : List (List Value)) (hn : rows.length <= 1000000000) (h : Heap) :
    Spec Tryd.prog 53 [.pointer (some ⟨g, 0, none⟩), .int .i64 tag, str d] h (FmH g A c bad rows) (fun u _ H' => u = .tuple #[] /\ ∃ A' c', H' = FmH g A' c' bad (rows ++ [lfC tag d])) := by
  unfold FmH
  refine Spec.enter Tryd.func53 rfl rfl ?_; intro w0
  repeat' (first | (refine G.atAny ?_; first | refine G.anyPure slB rfl Zw (by solve | exact Heap.none_le _ | assumption | exact Zr _ | (repeat first | assumption | exact Zr _ | refine Zq ?_ Zp)) ?_ | refine G.anyOne rfl Zw (by solve | exact Heap.none_le _ | assumption | exact Zr _ | (repeat first | assumption | exact Zr _ | refine Zq ?_ Zp)) Zu ?_ | refine G.anyTwo rfl Zw (by solve | exact Heap.none_le _ | assumption | exact Zr _ | (repeat first | assumption | exact Zr _ | refine Zq ?_ Zp)) Zu ?_ ?_ | refine G.anyEnd Zw (by solve | exact Heap.none_le _ | assumption | exact Zr _ | (repeat first | assumption | exact Zr _ | refine Zq ?_ Zp)) Zu ?_) | (refine G.atSto ?_; refine G.storeRow rfl rfl (tyy rfl) Zp Za rfl rfl rfl (by simp) ?_; rw [set_last]) | (refine G.atApp ?_; refine G.append1 rfl rfl (tyy rfl) (tyy rfl) rfl rfl Za Za rfl rfl rfl Zo ?_; intro _; refine G.rowForm Take.hd ?_; rintro _ _ rfl) | (refine G.atCode ?_; first | refine G.anyIn mixedOk ?_) | refine G.endOps ?_ | refine G.endHeld ?_ | refine G.back ?_ | refine G.op rfl rfl ?_ | (refine G.atLen ?_; first | refine G.lenSlice rfl (tyy rfl) rfl ?_) | (refine G.atLoad ?_; first | refine G.loadOwn1 rfl (tyy rfl) rfl rfl Za rfl rfl ?_) | (refine G.atFld ?_; first | refine G.fieldAddr rfl (tyy rfl) rfl rfl ?_) | (refine G.atSto ?_; refine G.storeOwn rfl rfl (tyy rfl) Za rfl rfl rfl rfl ?_) | (refine G.atBld ?_; refine G.build (tyy rfl) rfl rfl rfl ?_) | (refine G.atBsl ?_; refine G.buildSlice (tyy rfl) (tyy rfl) rfl rfl rfl rfl ?_; intro _) | (refine G.atIdx ?_; first | (refine G.idxRow' rfl rfl (tyy rfl) (tyy rfl) Za Zj rfl Zo ?_; intro _ _)))
  all_goals first | (exfalso; omega) | skip
  all_goals
    simp only [List.length_append, List.length_cons, List.length_nil]
    exact G.done (rs := []) rfl .nil rfl _ Zu ⟨rfl, _, _, rfl⟩
set_option maxHeartbeats 1000000 in
theorem ref11_texts (l : List Bs) (v : Value) (hl : l.length <= 1000000000) (h : Heap) (hv : HSl h v 1 (strsR l)) : Spec Tryd.prog 80 [v] h [] (fun u h' H' => (∃ A c, u = .slice A (txtsN l).length c /\ KsC h' (txtsN l) (.slice A (txtsN l).length c)) /\ H' = []) := by
  have hlen := strsR_length l
  have htl : (txtsN l).length = l.length := by simp [txtsN]
  obtain ⟨vA, vc, rfl, hvc, hvm, _⟩ := hv.form
  refine Spec.enter Tryd.func80 rfl rfl ?_; intro w0
  refine G.nilRow 90 3 ?_
  repeat' (first | (refine G.atCode ?_; refine G.stopLoop ?_) | (refine G.atCode ?_; first | refine G.seq ?_ | refine G.region ?_ | refine G.block ?_) | refine G.endOps ?_ | refine G.op rfl rfl ?_ | (refine G.atLen ?_; first | refine G.lenSlice rfl (tyy rfl) rfl ?_))
  all_goals first | (exfalso; omega) | skip
  refine G.go ?_
  refine G.loop (σ := Nat × Option Addr × Nat) (fun x => [(8, .int .i64 x.1), (7, .int .i64 l.length), (6, .slice vA (strsR l).length vc), (3, .slice x.2.1 (txtsC (l.take x.1)).length x.2.2)])
    (fun x => [.row (.slice x.2.1 (txtsC (l.take x.1)).length x.2.2) 90 3 (txtsC (l.take x.1))]) (fun x _ => x.1 <= l.length) (fun x => l.length - x.1) ⟨0, none, 0⟩ ⟨rfl, sint (by omega), rfl, rfl, trivial⟩ Zu (Nat.zero_le _) ?_
  rintro ⟨i, A, c⟩ h1 hle1 hi
  simp only at hi
  refine G.norm (by (try dsimp only) <;> exact rfl) (by (try dsimp only) <;> exact rfl) ?_
  by_cases hlt : i < l.length
  . obtain ⟨s, hs⟩ : ∃ s, l[i]? = some s := ⟨l[i], List.getElem?_eq_getElem hlt⟩
    have hsa : strAt l i = s := by unfold strAt; rw [hs]; rfl
    have hn1 : txtsC (l.take (i + 1)) = txtsC (l.take i) ++ [lfC 4 (strAt l i)] := by rw [take_get hs, hsa]; simp [txtsC]
    have hpl : (txtsC (l.take i)).length = i := by rw [txtsC_len, List.length_take]; omega
    generalize txtsC (l.take i) = P at *
    repeat' (first | (refine G.atIdx ?_; refine G.idxImmS rfl rfl (tyy rfl) (tyy rfl) (hv.mono (by solve | repeat first | assumption | exact Zr _ | refine Zq ?_ Zp)) Zj rfl (by omega) ?_; intro _ _) | (refine G.atApp ?_; refine G.append1 rfl rfl (tyy rfl) (tyy rfl) rfl rfl Za Za rfl rfl rfl Zo ?_; intro _; refine G.rowForm Take.hd ?_; rintro _ _ rfl) | (refine G.atCode ?_; first | refine G.seq ?_ | refine G.region ?_ | refine G.block ?_ | refine G.skip ?_ | (refine G.cond rfl ?_ ?_ <;> intro hc <;> (try simp only [tests, reduceCtorEq] at hc) <;> (try exact Zf))) | refine G.endOps ?_ | refine G.endBlk ?_ | (refine G.atBin ?_; first | (refine G.atAdd ?_; first | refine G.arith rfl rfl rfl rfl rfl Zi ?_) | refine G.op rfl rfl ?_) | refine G.op rfl rfl ?_ | (refine G.atLoad ?_; first | refine G.loadImm1 rfl (tyy rfl) rfl rfl Zp rfl ?_) | (refine G.atBld ?_; refine G.build (tyy rfl) rfl rfl rfl ?_) | (refine G.atBsl ?_; refine G.buildSlice (tyy rfl) (tyy rfl) rfl rfl rfl rfl ?_; intro _))
    all_goals first | (exfalso; omega) | skip
    rename_i A' c'
    refine G.again ⟨i + 1, A', c'⟩ ?_ ?_ (by simp only; omega) (by solve | repeat first | assumption | exact Zr _ | refine Zq ?_ Zp) (by simp only; omega)
    . simp only [hn1]
      exact ⟨sint (by simp), rfl, rfl, rfl, trivial⟩
    . simp only [hn1]
      exact Zu
  . obtain rfl : i = l.length := by omega
    rw [List.take_length]
    refine G.freezeRow (v := .slice A (txtsC l).length c) Za ?_
    intro h9 hle9 hs9
    repeat' (first | (refine G.atCode ?_; first | refine G.seq ?_ | refine G.region ?_ | refine G.exit rfl ?_ | refine G.ret ?_ | (refine G.cond rfl ?_ ?_ <;> intro hc <;> (try simp only [tests, reduceCtorEq] at hc) <;> (try exact Zf))) | refine G.endOps ?_ | (refine G.atBin ?_; first | refine G.op rfl rfl ?_) | refine G.op rfl rfl ?_)
    all_goals first | (exfalso; omega) | skip
    all_goals exact G.done1 rfl rfl [] (SubH.nil _) ⟨⟨A, c, by rw [txtsC_len, htl], ⟨_, by rw [htl, ← txtsC_len]; exact hs9, txts_C _ l⟩⟩, rfl⟩
set_option maxHeartbeats 1000000 in
theorem ref11_two (a b : Bs) (h : Heap) : Spec Tryd.prog 79 [str a, str b] h [] (fun u h' H' => (∃ A c, u = .slice A (txtsN [a, b]).length c /\ KsC h' (txtsN [a, b]) (.slice A (txtsN [a, b]).length c)) /\ H' = []) := by
  refine Spec.enter Tryd.func79 rfl rfl ?_; intro w0
  repeat' (first | (show G _ (.ops .seq _ (⟨some _, .call { callee := .value (.func 80), args := _, argTypes := _ }, _, _, _, none⟩ :: _) :: _) _ _ _; refine Hold.out ?_) | (refine G.atCode ?_; first | refine G.seq ?_ | refine G.region ?_) | refine G.endOps ?_ | refine G.op rfl rfl ?_ | (refine G.atBsl ?_; refine G.buildSlice (tyy rfl) (tyy rfl) rfl rfl rfl rfl ?_; intro _))
  rename_i w
  refine ⟨?_⟩
  refine G.freezeBlk (g := w) Za ?_
  intro h9 hle9 hc9
  have hs9 := HSl.ofBlk1 (rows := strsR [a, b]) (n := 2) hc9 (rowed_strs _) rfl (by decide)
  clear hc9
  repeat' (first | (show G _ (.ops .seq _ (⟨some _, .call { callee := .value (.func 80), args := _, argTypes := _ }, _, _, _, none⟩ :: _) :: _) _ _ _; refine G.call callTexts11 rfl rfl (ref11_texts [a, b] _ (by simp) _ hs9) Ze ?_; rintro _ h2 H2 ⟨⟨tsA, tsc, rfl, htsk⟩, rfl⟩ hle2) | (refine G.atCode ?_; first | refine G.ret ?_) | refine G.endOps ?_ | refine G.op rfl rfl ?_)
  all_goals exact G.done1 rfl rfl [] (SubH.nil _) ⟨⟨_, _, rfl, htsk⟩, rfl⟩
set_option maxHeartbeats 1000000 in
theorem ref11_attr (nm : Bs) (l : List Bs) (v : Value) (hl : l.length <= 1000000000) (h : Heap) (hv : HSl h v 1 (strsR l)) : Spec Tryd.prog 82 [str nm, v] h [] (fun u h' H' => (∃ A c, u = .agg #[.int .i64 48, str [], .slice A 2 c] /\ NodeC h' (attrN (nm, l)) [.int .i64 48, str [], .slice A 2 c]) /\ H' = []) := by
  obtain ⟨vA, vc, rfl, hvc, hvm, _⟩ := hv.form
  refine Spec.enter Tryd.func82 rfl rfl ?_; intro w0
  repeat' (first | (show G _ (.ops .seq _ (⟨some _, .call { callee := .value (.func 80), args := _, argTypes := _ }, _, _, _, none⟩ :: _) :: _) _ _ _; refine G.call callTexts11 rfl rfl (ref11_texts l _ (by omega) _ (hv.mono (by solve | repeat first | assumption | exact Zr _ | refine Zq ?_ Zp))) Ze ?_; rintro _ h2 H2 ⟨⟨tsA, tsc, rfl, htsk⟩, rfl⟩ hle2) | (refine G.atCode ?_; first | refine G.seq ?_ | refine G.region ?_ | refine G.ret ?_) | refine G.endOps ?_ | refine G.op rfl rfl ?_ | (refine G.atSto ?_; refine G.storeOwn rfl rfl (tyy rfl) Za rfl rfl rfl rfl ?_) | (refine G.atAlc ?_; refine G.alloc (tyy rfl) rfl rfl ?_; intro _) | (refine G.atBld ?_; refine G.build (tyy rfl) rfl rfl rfl ?_) | (refine G.atBsl ?_; refine G.buildSlice (tyy rfl) (tyy rfl) rfl rfl rfl rfl ?_; intro _))
  rename_i w
  refine G.freezeBlk (g := w) Za ?_
  intro h9 hle9 hc9
  have hs9 := HSl.ofBlk1 (rows := [lfC 4 nm, [.int .i64 49, str [], .slice tsA (txtsN l).length tsc]]) (n := 2) hc9 (rowed3 rfl) rfl (by decide)
  obtain ⟨rows, hr, hk⟩ := htsk
  exact G.done (rs := [.cell 4 90]) rfl (.cellA rfl (tyy rfl) rfl rfl Za rfl .nil) rfl [] (SubH.nil _) ⟨⟨_, _, rfl, NodeC.mk_ hs9 (KidsC.of1 (lf_C _ 4 nm) (KidsC.of1 (NodeC.mk_ (hr.mono hle9) (hk.mono' hle9)) (KidsC.nil_ _)))⟩, rfl⟩
set_option maxHeartbeats 2000000 in
theorem form_list (g : Nat) (tag : Int) (ks : List Nd) (kA : Option Addr) (kn kc : Nat) (A : Option Addr) (c : Nat) (bad : Bool) (rows : List (List Value)) (hn : rows.length <= 1000000000) (h : Heap) :
    Spec Tryd.prog 78 [.pointer (some ⟨g, 0, none⟩), .int .i64 tag, .slice kA kn kc] h (FmH g A c bad rows) (fun u _ H' => u = .tuple #[] /\ ∃ A' c', H' = FmH g A' c' bad (rows ++ [[.int .i64 tag, str [], .slice kA kn kc]])) := by
  unfold FmH
  refine Spec.enter Tryd.func78 rfl rfl ?_; intro w0
  repeat' (first | (refine G.atAny ?_; first | refine G.anyPure slB rfl Zw (by solve | exact Heap.none_le _ | assumption | exact Zr _ | (repeat first | assumption | exact Zr _ | refine Zq ?_ Zp)) ?_ | refine G.anyOne rfl Zw (by solve | exact Heap.none_le _ | assumption | exact Zr _ | (repeat first | assumption | exact Zr _ | refine Zq ?_ Zp)) Zu ?_ | refine G.anyTwo rfl Zw (by solve | exact Heap.none_le _ | assumption | exact Zr _ | (repeat first | assumption | exact Zr _ | refine Zq ?_ Zp)) Zu ?_ ?_ | refine G.anyEnd Zw (by solve | exact Heap.none_le _ | assumption | exact Zr _ | (repeat first | assumption | exact Zr _ | refine Zq ?_ Zp)) Zu ?_) | (refine G.atSto ?_; refine G.storeRow rfl rfl (tyy rfl) Zp Za rfl rfl rfl (by simp) ?_; rw [set_last]) | (refine G.atApp ?_; refine G.append1 rfl rfl (tyy rfl) (tyy rfl) rfl rfl Za Za rfl rfl rfl Zo ?_; intro _; refine G.rowForm Take.hd ?_; rintro _ _ rfl) | (refine G.atCode ?_; first | refine G.anyIn mixedOk ?_) | refine G.endOps ?_ | refine G.endHeld ?_ | refine G.back ?_ | refine G.op rfl rfl ?_ | (refine G.atLen ?_; first | refine G.lenSlice rfl (tyy rfl) rfl ?_) | (refine G.atLoad ?_; first | refine G.loadOwn1 rfl (tyy rfl) rfl rfl Za rfl rfl ?_) | (refine G.atFld ?_; first | refine G.fieldAddr rfl (tyy rfl) rfl rfl ?_) | (refine G.atSto ?_; refine G.storeOwn rfl rfl (tyy rfl) Za rfl rfl rfl rfl ?_) | (refine G.atBld ?_; refine G.build (tyy rfl) rfl rfl rfl ?_) | (refine G.atBsl ?_; refine G.buildSlice (tyy rfl) (tyy rfl) rfl rfl rfl rfl ?_; intro _) | (refine G.atIdx ?_; first | (refine G.idxRow' rfl rfl (tyy rfl) (tyy rfl) Za Zj rfl Zo ?_; intro _ _)))
  all_goals first | (exfalso; omega) | skip
  all_goals
    simp only [List.length_append, List.length_cons, List.length_nil]
    exact G.done (rs := []) rfl .nil rfl _ Zu ⟨rfl, _, _, rfl⟩
set_option maxHeartbeats 2000000 in
theorem form_num (g : Nat) (tag n lo hi : Int) (hI : inR .i64 n) (A : Option Addr) (c : Nat) (bad : Bool) (rows : List (List Value)) (hn : rows.length <= 1000000000) (h : Heap) :
    Spec Tryd.prog 77 [.pointer (some ⟨g, 0, none⟩), .int .i64 tag, .int .i64 n, .int .i64 lo, .int .i64 hi] h (FmH g A c bad rows) (fun u _ H' => u = .tuple #[] /\ ∃ A' c', H' = FmH g A' c' (bad || !inM n lo hi) (rows ++ [lfC tag (intB n)])) := by
  have hi1 : (lo <= n /\ n <= hi) \/ ¬(lo <= n /\ n <= hi) := Decidable.em _
  rcases hi1 with hi1 | hi1
  case' inl => have e : (bad || !inM n lo hi) = bad := by unfold inM; rw [decide_eq_true hi1]; simp
  case' inr => have e : (bad || !inM n lo hi) = true := by unfold inM; rw [decide_eq_false hi1]; simp
  all_goals rw [e]
  all_goals cases bad
  all_goals (
    unfold FmH
    refine Spec.enter Tryd.func77 rfl rfl ?_; intro w0
    repeat' (first | (show G _ (.ops .seq _ (⟨some _, .call { callee := .value (.func 52), args := _, argTypes := _ }, _, _, _, none⟩ :: _) :: _) _ _ _; refine G.call callRInt rfl rfl (ref_Int _ hI _) Ze ?_; rintro _ h2 H2 ⟨rfl, rfl⟩ hle2) | (show G _ (.ops .seq _ (⟨some _, .call { callee := .value (.func 53), args := _, argTypes := _ }, _, _, _, none⟩ :: _) :: _) _ _ _; refine G.callT callFput rfl rfl Ze (form_put _ _ _ _ _ _ _ hn _) ?_; rintro _ h3 H3 ⟨rfl, _, _, rfl⟩ hle3) | (refine G.atCode ?_; first | refine G.seq ?_ | refine G.region ?_) | refine G.endOps ?_ | (refine G.atGd ?_; first | refine G.guardYes rfl rfl ?_ | refine G.guardNoS rfl rfl rfl ?_ | (refine G.guardS rfl rfl rfl ?_ ?_ <;> intro hc <;> (try simp only [tests, reduceCtorEq] at hc) <;> (try exact Zf))) | (refine G.atBin ?_; first | refine G.op rfl rfl ?_) | refine G.op rfl rfl ?_ | (refine G.atLoad ?_; first | refine G.loadOwn1 rfl (tyy rfl) rfl rfl Za rfl rfl ?_) | (refine G.atFld ?_; first | refine G.fieldAddr rfl (tyy rfl) rfl rfl ?_) | (refine G.atSto ?_; refine G.storeOwn rfl rfl (tyy rfl) Za rfl rfl rfl rfl ?_)))
  all_goals first | (exfalso; omega) | (exfalso; simp_all; done) | skip
  all_goals first
    | exact G.done (rs := []) rfl .nil rfl _ Zu ⟨rfl, _, _, rfl⟩
    | (rw [show decide (hi < n) = false from decide_eq_false (by omega)]; exact G.done (rs := []) rfl .nil rfl _ Zu ⟨rfl, _, _, rfl⟩)
    | (rw [show decide (hi < n) = true from decide_eq_true (by omega)]; exact G.done (rs := []) rfl .nil rfl _ Zu ⟨rfl, _, _, rfl⟩)
set_option maxHeartbeats 2000000 in
theorem form_truth (g : Nat) (b : Bool) (A : Option Addr) (c : Nat) (bad : Bool) (rows : List (List Value)) (hn : rows.length <= 1000000000) (h : Heap) :
    Spec Tryd.prog 54 [.pointer (some ⟨g, 0, none⟩), .bool b] h (FmH g A c bad rows) (fun u _ H' => u = .tuple #[] /\ ∃ A' c', H' = FmH g A' c' bad (rows ++ [lfC 1 (if b = true then [255] else [0])])) := by
  cases b
  all_goals (
    unfold FmH
    refine Spec.enter Tryd.func54 rfl rfl ?_; intro w0
    repeat' (first | (show G _ (.ops .seq _ (⟨some _, .call { callee := .value (.func 53), args := _, argTypes := _ }, _, _, _, none⟩ :: _) :: _) _ _ _; refine G.callT callFput rfl rfl Ze (form_put _ _ _ _ _ _ _ hn _) ?_; rintro _ h3 H3 ⟨rfl, _, _, rfl⟩ hle3) | (refine G.atCode ?_; first | refine G.seq ?_ | refine G.region ?_ | (refine G.cond rfl ?_ ?_ <;> intro hc <;> (try simp only [tests, reduceCtorEq] at hc) <;> (try exact Zf))) | refine G.endOps ?_ | refine G.op rfl rfl ?_))
  all_goals first | (exfalso; omega) | (exfalso; simp_all; done) | skip
  all_goals exact G.done (rs := []) rfl .nil rfl _ Zu ⟨rfl, _, _, rfl⟩
abbrev FmN (g : Nat) (A : Option Addr) (n c : Nat) (bad : Bool) (rows : List (List Value)) : List Chunk := [.blk g [.slice A n c, .bool bad] 103, .row (.slice A n c) 90 3 rows]
theorem form_putN (g : Nat) (tag : Int) (d : Bs) (A : Option Addr) (n c : Nat) (bad : Bool) (rows : List (List Value)) (hr : n = rows.length) (hn : n <= 1000000000) (h : Heap) :
    Spec Tryd.prog 53 [.pointer (some ⟨g, 0, none⟩), .int .i64 tag, str d] h (FmN g A n c bad rows) (fun u _ H' => u = .tuple #[] /\ ∃ A' c', H' = FmH g A' c' bad (rows ++ [lfC tag d])) := by
  subst hr; exact form_put g tag d A c bad rows hn h
theorem form_numN (g : Nat) (tag m lo hi : Int) (hI : inR .i64 m) (A : Option Addr) (n c : Nat) (bad : Bool) (rows : List (List Value)) (hr : n = rows.length) (hn : n <= 1000000000) (h : Heap) :
    Spec Tryd.prog 77 [.pointer (some ⟨g, 0, none⟩), .int .i64 tag, .int .i64 m, .int .i64 lo, .int .i64 hi] h (FmN g A n c bad rows) (fun u _ H' => u = .tuple #[] /\ ∃ A' c', H' = FmH g A' c' (bad || !inM m lo hi) (rows ++ [lfC tag (intB m)])) := by
  subst hr; exact form_num g tag m lo hi hI A c bad rows hn h
theorem form_truthN (g : Nat) (b : Bool) (A : Option Addr) (n c : Nat) (bad : Bool) (rows : List (List Value)) (hr : n = rows.length) (hn : n <= 1000000000) (h : Heap) :
    Spec Tryd.prog 54 [.pointer (some ⟨g, 0, none⟩), .bool b] h (FmN g A n c bad rows) (fun u _ H' => u = .tuple #[] /\ ∃ A' c', H' = FmH g A' c' bad (rows ++ [lfC 1 (if b = true then [255] else [0])])) := by
  subst hr; exact form_truth g b A c bad rows hn h
theorem form_listN (g : Nat) (tag : Int) (kA : Option Addr) (kn kc : Nat) (A : Option Addr) (n c : Nat) (bad : Bool) (rows : List (List Value)) (hr : n = rows.length) (hn : n <= 1000000000) (h : Heap) :
    Spec Tryd.prog 78 [.pointer (some ⟨g, 0, none⟩), .int .i64 tag, .slice kA kn kc] h (FmN g A n c bad rows) (fun u _ H' => u = .tuple #[] /\ ∃ A' c', H' = FmH g A' c' bad (rows ++ [[.int .i64 tag, str [], .slice kA kn kc]])) := by
  subst hr; exact form_list g tag [] kA kn kc A c bad rows hn h
end Go.Proofs.YtibkffoeioidlaaDoor
