/- tlv.twin, Seq, Leaf; the bytes of a sequence. -/
import Derived.Test.YtibkffoeioidlaaDoorWrJ
import Derived.Test.YtibkffoeioidlaaDoorWrL
import Derived.Test.YtibkffoeioidlaaDoorWrD
import Derived.Test.YtibkffoeioidlaaDoorWrT
namespace Go.Proofs.YtibkffoeioidlaaDoor
set_option linter.all false
set_option maxRecDepth 4000
open Go.RowKit

theorem callTtwin : Callable Tryd.prog 75 := ⟨_, Tryd.func75, by kernel_rfl, rfl⟩
theorem callSeq : Callable Tryd.prog 48 := ⟨_, Tryd.func48, by kernel_rfl, rfl⟩
theorem callLeaf : Callable Tryd.prog 71 := ⟨_, Tryd.func71, by kernel_rfl, rfl⟩

theorem szs_mem {ks : List Nd} {t : Int} {d : List UInt8} {l : List Nd} {i : Nat} (h : ks[i]? = some (.mk t d l)) : szs l < szs ks := by
  have := sz_mem (List.mem_of_getElem? h)
  simp only [Nd.sz] at this; omega

set_option maxRecDepth 8000 in
set_option maxHeartbeats 1000000 in
theorem tlv_twin : ∀ (n : Nat) (ks : List Nd), szs ks < n -> n <= 1073741824 -> ∀ (v : Value) (rows : List (List Value)) (h : Heap), HSl h v 3 rows -> KidsC h ks rows →
    Spec Tryd.prog 75 [v] h [] (fun v' h' H' => H' = [] /\ ∃ (A : Option Addr) (m c : Nat) (rows' : List (List Value)), v' = .slice A m c /\ HSl h' (.slice A m c) 3 rows' /\ KidsC h' ks rows')
  | 0, ks, hn, _, _, _, _, _, _ => by omega
  | n + 1, ks, hn, hfew, v, rows, h, sa, ka => by
    have ih := tlv_twin n
    have la := ka.len
    have lks := szs_len ks
    refine Spec.enter Tryd.func75 rfl rfl ?_; intro w0
    repeat' (first | (refine G.atCode ?_; first | refine G.seq ?_ | refine G.region ?_ | refine G.block ?_) | refine G.endOps ?_ | refine G.op rfl rfl ?_ | (refine G.atLen ?_; first | refine G.lenImm rfl (tyy rfl) Zl rfl ?_))
    refine G.nilRow 90 3 ?_
    refine G.loop (σ := Nat × List (List Value) × Option Addr × Nat) (fun x => [(8, .int .i64 x.1), (7, .int .i64 rows.length), (6, v), (3, .slice x.2.2.1 x.2.1.length x.2.2.2)])
      (fun x => [.row (.slice x.2.2.1 x.2.1.length x.2.2.2) 90 3 x.2.1])
      (fun x h' => x.1 <= rows.length /\ x.2.1.length = x.1 /\ KidsC h' (ks.take x.1) x.2.1) (fun x => rows.length - x.1) ⟨0, [], none, 0⟩ ⟨rfl, rfl, rfl, rfl, trivial⟩ Zu ⟨Nat.zero_le _, rfl, by simp only [List.take_zero, KidsC]⟩ ?_
    rintro ⟨i, rws, A, c⟩ h1 hle ⟨hi, hil, hik⟩
    simp only at hi hil hik
    have sa1 := sa.mono hle
    have ka1 := ka.mono' hle
    clear sa ka
    refine G.norm (by (try dsimp only) <;> exact rfl) (by (try dsimp only) <;> exact rfl) ?_
    repeat' (first | (refine G.atIdx ?_; refine G.idxImmN rfl rfl (tyy rfl) (tyy rfl) Zp Zj rfl Zo ?_; intro p r hr hl hp; obtain ⟨nk, hnk, hn1⟩ := ka1.at_ hr; obtain ⟨t, d, l, A1, m1, c1, rows1, rfl, rfl, s1, k1⟩ := hn1.box) | (refine G.atCode ?_; first | refine G.seq ?_ | refine G.region ?_ | refine G.block ?_ | refine G.skip ?_ | refine G.anyIn mixedOk ?_ | refine G.exit rfl ?_ | refine G.ret ?_ | (refine G.cond rfl ?_ ?_ <;> intro hc <;> (try simp only [tests, reduceCtorEq] at hc) <;> (try exact Zf))) | refine G.endOps ?_ | refine G.endHeld ?_ | refine G.back ?_ | (refine G.atAny ?_; first | refine G.anyAutoX slB rfl rfl Zw Zg Zd ?_ | refine G.anyOne rfl Zw Zg Zu ?_) | (refine G.atBin ?_; first | refine G.op rfl rfl ?_) | refine G.op rfl rfl ?_ | (refine G.atLoad ?_; first | refine G.loadOwn1 rfl (tyy rfl) rfl rfl Za rfl rfl ?_ | refine G.loadImmA rfl (tyy rfl) rfl rfl Zp Zp rfl ?_) | (refine G.atFld ?_; first | refine G.fieldAddr rfl (tyy rfl) rfl rfl ?_) | (refine G.atSto ?_; refine G.storeOwn rfl rfl (tyy rfl) Za rfl rfl rfl rfl ?_) | (refine G.atAlc ?_; refine G.alloc (tyy rfl) rfl rfl ?_; intro _))
    . have hlt := szs_mem hnk
      (show G _ (.ops .seq _ (⟨some _, .call { callee := .value (.func 75), args := _, argTypes := _ }, _, _, _, none⟩ :: _) :: _) _ _ _; refine G.call callTtwin rfl rfl (ih l (by omega) (by omega) _ _ _ s1 k1) Ze ?_; rintro _ h2 H2 ⟨rfl, A2, m2, c2, rows2, rfl, s2, k2⟩ hle2)
      repeat' (first | (refine G.atCode ?_; first | refine G.region ?_) | refine G.endOps ?_ | refine G.endBlk ?_ | (refine G.atAny ?_; first | refine G.anyOne rfl Zw Zg Zu ?_ | refine G.anyEndX Zw ?_) | (refine G.atBin ?_; first | (refine G.atAdd ?_; first | refine G.arith rfl rfl rfl rfl rfl Zi ?_)) | refine G.op rfl rfl ?_ | (refine G.atBld ?_; refine G.build (tyy rfl) rfl rfl rfl ?_) | (refine G.atBsl ?_; refine G.buildSlice (tyy rfl) (tyy rfl) rfl rfl rfl rfl ?_; intro _) | (refine G.atApp ?_; first | (refine G.append1 rfl rfl (tyy rfl) (tyy rfl) rfl rfl Za Za rfl rfl rfl Zo ?_; intro _; refine G.rowForm Take.hd ?_; rintro _ _ rfl)))
      rename_i A' c'
      have hia : i < ks.length := by omega
      refine G.again ⟨i + 1, rws ++ [[.int .i64 t, str d, .slice A2 m2 c2]], A', c'⟩ ⟨sint (by simp), rfl, rfl, rfl, trivial⟩ Zu ⟨by simp only; omega, by simp [hil], ?_⟩ hle2 (by simp only; omega)
      simp only
      rw [List.take_succ_eq_append_getElem hia]
      rw [List.getElem?_eq_getElem hia] at hnk
      injection hnk with hnk
      rw [hnk]
      exact (hik.mono' hle2).append (KidsC.one (NodeC.mk_ s2 k2))
    . have hkk : ks.take i = ks := List.take_of_length_le (by omega)
      rw [hkk] at hik
      refine G.freezeRow Za ?_
      intro h9 hle9 hs9
      exact G.done1 rfl rfl [] (SubH.nil _) ⟨rfl, _, _, _, _, rfl, hs9, hik.mono' hle9⟩

theorem tlv_Leaf (tag : Int) (d : List UInt8) (h : Heap) :
    Spec Tryd.prog 71 [.int .i64 tag, str d] h [] (fun v h' H' => H' = [] /\ v = .agg #[.int .i64 tag, str d, .slice none 0 0]) := by
  refine Spec.enter Tryd.func71 rfl rfl ?_; intro w0
  repeat' (first | (refine G.atCode ?_; first | refine G.seq ?_ | refine G.region ?_ | refine G.ret ?_) | refine G.endOps ?_ | refine G.op rfl rfl ?_ | (refine G.atSto ?_; refine G.storeOwn rfl rfl (tyy rfl) Za rfl rfl rfl rfl ?_) | (refine G.atAlc ?_; refine G.alloc (tyy rfl) rfl rfl ?_; intro _) | (refine G.atBld ?_; refine G.build (tyy rfl) rfl rfl rfl ?_))
  exact G.done (rs := [.cell 4 90]) rfl (.cellA rfl (tyy rfl) rfl rfl Za rfl .nil) rfl [] (SubH.nil _) ⟨rfl, rfl⟩

end Go.Proofs.YtibkffoeioidlaaDoor
namespace Go.Proofs.YtibkffoeioidlaaDoor
set_option linter.all false
set_option maxRecDepth 4000
open Go.RowKit

theorem callTextN : Callable Tryd.prog 46 := ⟨_, Tryd.func46, by kernel_rfl, rfl⟩
theorem callNumN : Callable Tryd.prog 45 := ⟨_, Tryd.func45, by kernel_rfl, rfl⟩
theorem callTruN : Callable Tryd.prog 47 := ⟨_, Tryd.func47, by kernel_rfl, rfl⟩
theorem callTextsN : Callable Tryd.prog 73 := ⟨_, Tryd.func73, by kernel_rfl, rfl⟩
theorem callAsked : Callable Tryd.prog 72 := ⟨_, Tryd.func72, by kernel_rfl, rfl⟩
mutual
theorem nsz_wt : ∀ n : Nd, n.sz <= n.wt
  | .mk t d ks => by have := nszs_wts ks; simp only [Nd.sz, Nd.wt]; omega
theorem nszs_wts : ∀ l : List Nd, szs l <= wts l
  | [] => Nat.le_refl _
  | k :: ks => by have := nsz_wt k; have := nszs_wts ks; simp only [szs, wts]; omega
end
def lfC (t : Int) (d : Bs) : List Value := [.int .i64 t, str d, .slice none 0 0]
theorem lf_C (h : Heap) (t : Int) (d : Bs) : NodeC h (lfN t d) (lfC t d) := NodeC.mk_ (HSl.nil h 3) (by simp only [KidsC])
theorem wire_textN (s : Bs) (h : Heap) : Spec Tryd.prog 46 [str s] h [] (fun v _ H' => v = .agg #[.int .i64 4, str s, .slice none 0 0] /\ H' = []) := by
  refine Spec.enter Tryd.func46 rfl rfl ?_; intro w0
  repeat' (first | (show G _ (.ops .seq _ (⟨some _, .call { callee := .value (.func 71), args := _, argTypes := _ }, _, _, _, none⟩ :: _) :: _) _ _ _; refine G.call callLeaf rfl rfl (tlv_Leaf 4 s _) Ze ?_; rintro _ h2 H2 ⟨rfl, rfl⟩ hle2) | (refine G.atCode ?_; first | refine G.seq ?_ | refine G.region ?_ | refine G.ret ?_) | refine G.endOps ?_ | refine G.op rfl rfl ?_ | (refine G.atSto ?_; refine G.storeOwn rfl rfl (tyy rfl) Za rfl rfl rfl rfl ?_) | (refine G.atAlc ?_; refine G.alloc (tyy rfl) rfl rfl ?_; intro _))
  all_goals exact G.done (rs := [.cell 2 90]) rfl (.cellA rfl (tyy rfl) rfl rfl Za rfl .nil) rfl [] (SubH.nil _) ⟨rfl, rfl⟩
theorem wire_numN (t n : Int) (hn : inR .i64 n) (h : Heap) : Spec Tryd.prog 45 [.int .i64 t, .int .i64 n] h [] (fun v _ H' => v = .agg #[.int .i64 t, str (intB n), .slice none 0 0] /\ H' = []) := by
  refine Spec.enter Tryd.func45 rfl rfl ?_; intro w0
  repeat' (first | (show G _ (.ops .seq _ (⟨some _, .call { callee := .value (.func 74), args := _, argTypes := _ }, _, _, _, none⟩ :: _) :: _) _ _ _; refine G.call callInt rfl rfl (tlv_Int n hn _) Ze ?_; rintro _ h2 H2 ⟨rfl, rfl⟩ hle2) | (show G _ (.ops .seq _ (⟨some _, .call { callee := .value (.func 71), args := _, argTypes := _ }, _, _, _, none⟩ :: _) :: _) _ _ _; refine G.call callLeaf rfl rfl (tlv_Leaf t (intB n) _) Ze ?_; rintro _ h3 H3 ⟨rfl, rfl⟩ hle3) | (refine G.atCode ?_; first | refine G.seq ?_ | refine G.region ?_ | refine G.ret ?_) | refine G.endOps ?_ | refine G.op rfl rfl ?_ | (refine G.atSto ?_; refine G.storeOwn rfl rfl (tyy rfl) Za rfl rfl rfl rfl ?_) | (refine G.atAlc ?_; refine G.alloc (tyy rfl) rfl rfl ?_; intro _))
  all_goals exact G.done (rs := [.cell 4 90]) rfl (.cellA rfl (tyy rfl) rfl rfl Za rfl .nil) rfl [] (SubH.nil _) ⟨rfl, rfl⟩
theorem wire_truN (b : Bool) (h : Heap) : Spec Tryd.prog 47 [.bool b] h [] (fun v _ H' => v = .agg #[.int .i64 1, str (if b = true then [255] else [0]), .slice none 0 0] /\ H' = []) := by
  cases b
  . refine Spec.enter Tryd.func47 rfl rfl ?_; intro w0
    repeat' (first | (show G _ (.ops .seq _ (⟨some _, .call { callee := .value (.func 71), args := _, argTypes := _ }, _, _, _, none⟩ :: _) :: _) _ _ _; refine G.call callLeaf rfl rfl (tlv_Leaf 1 [0] _) Ze ?_; rintro _ h2 H2 ⟨rfl, rfl⟩ hle2) | (refine G.atCode ?_; first | refine G.seq ?_ | refine G.region ?_ | refine G.skip ?_ | refine G.ret ?_ | (refine G.cond rfl ?_ ?_ <;> intro hc <;> (try simp only [tests, reduceCtorEq] at hc) <;> (try exact Zf))) | refine G.endOps ?_ | refine G.op rfl rfl ?_ | (refine G.atSto ?_; refine G.storeOwn rfl rfl (tyy rfl) Za rfl rfl rfl rfl ?_) | (refine G.atAlc ?_; refine G.alloc (tyy rfl) rfl rfl ?_; intro _))
    all_goals first | (exfalso; simp_all; done) | exact G.done (rs := [.cell 2 90]) rfl (.cellA rfl (tyy rfl) rfl rfl Za rfl .nil) rfl [] (SubH.nil _) ⟨rfl, rfl⟩
  . refine Spec.enter Tryd.func47 rfl rfl ?_; intro w0
    repeat' (first | (show G _ (.ops .seq _ (⟨some _, .call { callee := .value (.func 71), args := _, argTypes := _ }, _, _, _, none⟩ :: _) :: _) _ _ _; refine G.call callLeaf rfl rfl (tlv_Leaf 1 [255] _) Ze ?_; rintro _ h2 H2 ⟨rfl, rfl⟩ hle2) | (refine G.atCode ?_; first | refine G.seq ?_ | refine G.region ?_ | refine G.ret ?_ | (refine G.cond rfl ?_ ?_ <;> intro hc <;> (try simp only [tests, reduceCtorEq] at hc) <;> (try exact Zf))) | refine G.endOps ?_ | refine G.op rfl rfl ?_ | (refine G.atSto ?_; refine G.storeOwn rfl rfl (tyy rfl) Za rfl rfl rfl rfl ?_) | (refine G.atAlc ?_; refine G.alloc (tyy rfl) rfl rfl ?_; intro _))
    all_goals first | (exfalso; simp_all; done) | exact G.done (rs := [.cell 2 90]) rfl (.cellA rfl (tyy rfl) rfl rfl Za rfl .nil) rfl [] (SubH.nil _) ⟨rfl, rfl⟩
def txtsC (l : List Bs) : List (List Value) := l.map (lfC 4)
theorem txtsC_len (l : List Bs) : (txtsC l).length = l.length := by simp [txtsC]
theorem txts_C (h : Heap) : ∀ l : List Bs, KidsC h (txtsN l) (txtsC l)
  | [] => by simp [txtsN, txtsC, KidsC]
  | a :: l => by
    have ih := txts_C h l
    unfold txtsN txtsC at *
    simp only [List.map_cons, KidsC]
    exact ⟨_, _, rfl, lf_C h 4 a, ih⟩
set_option maxHeartbeats 1000000 in
theorem wire_textsN (l : List Bs) (v : Value) (hl : l.length <= 1000000000) (h : Heap) (hv : HSl h v 1 (strsR l)) : Spec Tryd.prog 73 [v] h [] (fun u h' H' => (∃ A c, u = .slice A (txtsN l).length c /\ KsC h' (txtsN l) (.slice A (txtsN l).length c)) /\ H' = []) := by
  have hlen := strsR_length l
  have htl : (txtsN l).length = l.length := by simp [txtsN]
  obtain ⟨vA, vc, rfl, hvc, hvm, _⟩ := hv.form
  refine Spec.enter Tryd.func73 rfl rfl ?_; intro w0
  refine G.nilRow 90 3 ?_
  repeat' (first | (refine G.atCode ?_; refine G.stopLoop ?_) | (refine G.atCode ?_; first | refine G.seq ?_ | refine G.region ?_ | refine G.block ?_) | refine G.endOps ?_ | refine G.op rfl rfl ?_ | (refine G.atLen ?_; first | refine G.lenSlice rfl (tyy rfl) rfl ?_))
  all_goals first | (exfalso; omega) | skip
  refine G.go ?_
  refine G.loop (σ := Nat × Option Addr × Nat) (fun x => [(8, .int .i64 x.1), (7, .int .i64 l.length), (6, .slice vA (strsR l).length vc), (3, .slice x.2.1 (txtsC (l.take x.1)).length x.2.2)])
    (fun x => [.row (.slice x.2.1 (txtsC (l.take x.1)).length x.2.2) 90 3 (txtsC (l.take x.1))]) (fun x _ => x.1 <= l.length) (fun x => l.length - x.1) ⟨0, none, 0⟩ ⟨rfl, sint (by omega), rfl, rfl, trivial⟩ Zu (Nat.zero_le _) ?_
  rintro ⟨i, A, c⟩ h1 hle1 hi
  simp only at hi
  refine G.norm (by (try dsimp only) <;> exact rfl) (by (try dsimp only) <;> exact rfl) ?_
  by_cases hlt : i < l.length
  . obtain ⟨s, hs⟩ : ∃ s, l[i]? = some s := ⟨l[i], List.getElem?_eq_getElem hlt⟩
    have hsa : strAt l i = s := by unfold strAt; rw [hs]; rfl
    have hn1 : txtsC (l.take (i + 1)) = txtsC (l.take i) ++ [lfC 4 (strAt l i)] := by rw [take_get hs, hsa]; simp [txtsC]
    have hpl : (txtsC (l.take i)).length = i := by rw [txtsC_len, List.length_take]; omega
    generalize txtsC (l.take i) = P at *
    repeat' (first | (refine G.atIdx ?_; refine G.idxImmS rfl rfl (tyy rfl) (tyy rfl) (hv.mono (by solve | repeat first | assumption | exact Zr _ | refine Zq ?_ Zp)) Zj rfl (by omega) ?_; intro _ _) | (show G _ (.ops .seq _ (⟨some _, .call { callee := .value (.func 46), args := _, argTypes := _ }, _, _, _, none⟩ :: _) :: _) _ _ _; refine G.call callTextN rfl rfl (wire_textN _ _) Ze ?_; rintro _ h2 H2 ⟨rfl, rfl⟩ hle2) | (refine G.atApp ?_; refine G.append1 rfl rfl (tyy rfl) (tyy rfl) rfl rfl Za Za rfl rfl rfl Zo ?_; intro _; refine G.rowForm Take.hd ?_; rintro _ _ rfl) | (refine G.atCode ?_; first | refine G.seq ?_ | refine G.region ?_ | refine G.block ?_ | refine G.skip ?_ | (refine G.cond rfl ?_ ?_ <;> intro hc <;> (try simp only [tests, reduceCtorEq] at hc) <;> (try exact Zf))) | refine G.endOps ?_ | refine G.endBlk ?_ | (refine G.atBin ?_; first | (refine G.atAdd ?_; first | refine G.arith rfl rfl rfl rfl rfl Zi ?_) | refine G.op rfl rfl ?_) | refine G.op rfl rfl ?_ | (refine G.atLoad ?_; first | refine G.loadImm1 rfl (tyy rfl) rfl rfl Zp rfl ?_) | (refine G.atBsl ?_; refine G.buildSlice (tyy rfl) (tyy rfl) rfl rfl rfl rfl ?_; intro _))
    all_goals first | (exfalso; omega) | skip
    rename_i A' c'
    refine G.again ⟨i + 1, A', c'⟩ ?_ ?_ (by simp only; omega) (by solve | repeat first | assumption | exact Zr _ | refine Zq ?_ Zp) (by simp only; omega)
    . simp only [hn1]
      exact ⟨sint (by simp), rfl, rfl, rfl, trivial⟩
    . simp only [hn1]
      exact Zu
  . obtain rfl : i = l.length := by omega
    rw [List.take_length]
    refine G.freezeRow (v := .slice A (txtsC l).length c) Za ?_
    intro h9 hle9 hs9
    repeat' (first | (refine G.atCode ?_; first | refine G.seq ?_ | refine G.region ?_ | refine G.exit rfl ?_ | refine G.ret ?_ | (refine G.cond rfl ?_ ?_ <;> intro hc <;> (try simp only [tests, reduceCtorEq] at hc) <;> (try exact Zf))) | refine G.endOps ?_ | (refine G.atBin ?_; first | refine G.op rfl rfl ?_) | refine G.op rfl rfl ?_)
    all_goals first | (exfalso; omega) | skip
    all_goals exact G.done1 rfl rfl [] (SubH.nil _) ⟨⟨A, c, by rw [txtsC_len, htl], ⟨_, by rw [htl, ← txtsC_len]; exact hs9, txts_C _ l⟩⟩, rfl⟩
theorem tlv_SeqB (tag : Int) (ks : List Nd) (hk : wts ks <= 1000000000) (w n : Nat) (rows : List (List Value)) (cs : List Value) (hcs : rows.flatten = cs) (hn : n = rows.length) (hr : Rowed 3 rows) (h : Heap) (ka : KidsC h ks rows) :
    Spec Tryd.prog 48 [.int .i64 tag, .slice (some ⟨w, 0, none⟩) n n] h [.blk w cs 90] (fun u h' H' => (∃ A c, u = .agg #[.int .i64 tag, str [], .slice A ks.length c] /\ KsC h' ks (.slice A ks.length c)) /\ H' = []) := by
  have hw := nszs_wts ks
  have hl := szs_len ks
  have hkl := ka.len
  subst hcs
  refine Spec.enter Tryd.func48 rfl rfl ?_; intro w0
  refine G.freezeBlk (g := w) Za ?_
  intro h9 hle9 hc9
  have hs9 := HSl.ofBlk1 (rows := rows) (n := n) hc9 hr hn (by simp only [maxLen]; omega)
  clear hc9
  repeat' (first | (show G _ (.ops .seq _ (⟨some _, .call { callee := .value (.func 75), args := _, argTypes := _ }, _, _, _, none⟩ :: _) :: _) _ _ _; refine G.call callTtwin rfl rfl (tlv_twin 1073741824 ks (by omega) (Nat.le_refl _) _ _ _ (hs9.mono (by solve | repeat first | assumption | exact Zr _ | refine Zq ?_ Zp)) (ka.mono' (by solve | repeat first | assumption | exact Zr _ | refine Zq ?_ Zp))) Ze ?_; rintro _ h2 H2 ⟨rfl, A2, m2, c2, rows2, rfl, s2, k2⟩ hle2) | (refine G.atCode ?_; first | refine G.seq ?_ | refine G.region ?_ | refine G.ret ?_) | refine G.endOps ?_ | refine G.op rfl rfl ?_ | (refine G.atSto ?_; refine G.storeOwn rfl rfl (tyy rfl) Za rfl rfl rfl rfl ?_) | (refine G.atAlc ?_; refine G.alloc (tyy rfl) rfl rfl ?_; intro _) | (refine G.atBld ?_; refine G.build (tyy rfl) rfl rfl rfl ?_))
  have hm : m2 = ks.length := by
    have h1 := k2.len
    obtain ⟨A, c, e, _⟩ := s2.form
    injection e with _ e _
    omega
  subst hm
  exact G.done (rs := [.cell 4 90]) rfl (.cellA rfl (tyy rfl) rfl rfl Za rfl .nil) rfl [] (SubH.nil _) ⟨⟨_, _, rfl, _, s2, k2⟩, rfl⟩
theorem tlv_SeqK (tag : Int) (ks : List Nd) (hk : wts ks <= 1000000000) (v : Value) (h : Heap) (hv : KsC h ks v) :
    Spec Tryd.prog 48 [.int .i64 tag, v] h [] (fun u h' H' => (∃ A c, u = .agg #[.int .i64 tag, str [], .slice A ks.length c] /\ KsC h' ks (.slice A ks.length c)) /\ H' = []) := by
  have hw := nszs_wts ks
  obtain ⟨rows, sa, ka⟩ := hv
  refine Spec.enter Tryd.func48 rfl rfl ?_; intro w0
  repeat' (first | (show G _ (.ops .seq _ (⟨some _, .call { callee := .value (.func 75), args := _, argTypes := _ }, _, _, _, none⟩ :: _) :: _) _ _ _; refine G.call callTtwin rfl rfl (tlv_twin 1073741824 ks (by omega) (Nat.le_refl _) _ _ _ (sa.mono (by solve | repeat first | assumption | exact Zr _ | refine Zq ?_ Zp)) (ka.mono' (by solve | repeat first | assumption | exact Zr _ | refine Zq ?_ Zp))) Ze ?_; rintro _ h2 H2 ⟨rfl, A2, m2, c2, rows2, rfl, s2, k2⟩ hle2) | (refine G.atCode ?_; first | refine G.seq ?_ | refine G.region ?_ | refine G.ret ?_) | refine G.endOps ?_ | refine G.op rfl rfl ?_ | (refine G.atSto ?_; refine G.storeOwn rfl rfl (tyy rfl) Za rfl rfl rfl rfl ?_) | (refine G.atAlc ?_; refine G.alloc (tyy rfl) rfl rfl ?_; intro _) | (refine G.atBld ?_; refine G.build (tyy rfl) rfl rfl rfl ?_))
  have hm : m2 = ks.length := by
    have h1 := k2.len
    obtain ⟨A, c, e, _⟩ := s2.form
    injection e with _ e _
    omega
  subst hm
  exact G.done (rs := [.cell 4 90]) rfl (.cellA rfl (tyy rfl) rfl rfl Za rfl .nil) rfl [] (SubH.nil _) ⟨⟨_, _, rfl, _, s2, k2⟩, rfl⟩
end Go.Proofs.YtibkffoeioidlaaDoor
