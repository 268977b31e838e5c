/- conn.Reply, Notice; castellanlaw27.ConnReplies. -/
import Derived.Test.YtibkffoeioidlaaDoorCoI
import Derived.Test.YtibkffoeioidlaaDoorCoA
import Derived.Test.YtibkffoeioidlaaDoorWrN
namespace Go.Proofs.YtibkffoeioidlaaDoor
set_option linter.all false
set_option maxRecDepth 4000
open Go.RowKit

theorem callCnReply : Callable Tryd.prog 37 := ⟨_, Tryd.func37, by kernel_rfl, rfl⟩
theorem callCnNotice : Callable Tryd.prog 36 := ⟨_, Tryd.func36, by kernel_rfl, rfl⟩
theorem callReply27 : Callable Tryd.prog 38 := ⟨_, Tryd.func38, by kernel_rfl, rfl⟩
theorem callNotice27 : Callable Tryd.prog 39 := ⟨_, Tryd.func39, by kernel_rfl, rfl⟩
theorem putM_nil {d : Int} : ∀ {a : Nd}, (putM d a).2 ≠ 0 -> (putM d a).1 = []
  | .mk t data ks, h => by
    rw [putM] at h ⊢
    split
    . rfl
    split
    . rfl
    split
    . rfl
    split
    . rfl
    split
    . rfl
    . rename_i h1 h2 h3 h4 h5
      rw [if_neg h1, if_neg h2, if_neg h3, if_neg h4, if_neg h5] at h
      exact absurd rfl h
theorem write_max (m : Ms) : (writeM m).1.length <= 1048581 := by
  by_cases he : (writeM m).2 = 0
  . exact (write_len he).2.1
  . unfold writeM at he ⊢
    split
    . exact Nat.zero_le _
    split
    . exact Nat.zero_le _
    split
    . exact Nat.zero_le _
    . rename_i h1 h2 h3
      rw [if_neg h1, if_neg h2, if_neg h3] at he
      rw [putM_nil he]; exact Nat.zero_le _
def repM (l : List Ms) : Bs := (l.map fun m => (writeM m).1).flatten
theorem repM_snoc (l : List Ms) (m : Ms) : repM (l ++ [m]) = repM l ++ (writeM m).1 := by simp [repM]
theorem repM_len : ∀ l : List Ms, (repM l).length <= l.length * 1048581
  | [] => Nat.zero_le _
  | m :: l => by
    have := repM_len l
    have := write_max m
    have e : repM (m :: l) = (writeM m).1 ++ repM l := by simp [repM]
    rw [e, List.length_append, List.length_cons]; omega
set_option maxRecDepth 8000 in
set_option maxHeartbeats 4000000 in
theorem conn_Reply (l : List Ms) (hI : ∀ m ∈ l, MsI m) (hw : ∀ m ∈ l, m.wt <= 10000000) (hn : l.length <= 30) (v : Value) (h : Heap) (hT : TabW h) (hv : MssC h l v) :
    Spec Tryd.prog 37 [v] h [] (fun u _ H' => u = str (repM l) /\ H' = []) := by
  obtain ⟨A, c, rfl, _, _⟩ := hv.form
  obtain ⟨rows, hs, hr⟩ := hv
  have hrl := hr.len
  refine Spec.enter Tryd.func37 rfl rfl ?_; intro w0
  repeat' (first | (refine G.atCode ?_; refine G.stopLoop ?_) | (refine G.atCode ?_; first | refine G.seq ?_ | refine G.region ?_ | refine G.block ?_) | refine G.endOps ?_ | refine G.op rfl rfl ?_ | (refine G.atLen ?_; first | refine G.lenSlice rfl (tyy rfl) rfl ?_))
  all_goals first | (exfalso; omega) | skip
  refine G.nilRow 5 1 ?_
  refine G.go ?_
  refine G.loop (σ := Nat × Value) (fun x => [(10, .int .i64 x.1), (9, .int .i64 l.length), (8, .slice A l.length c), (3, x.2)])
    (fun x => [.row x.2 5 1 (bytesR (repM (l.take x.1)))]) (fun x _ => x.1 <= l.length) (fun x => l.length - x.1) ⟨0, .slice none 0 0⟩ ⟨rfl, rfl, rfl, rfl, trivial⟩ Zu (Nat.zero_le _) ?_
  rintro ⟨i, ov⟩ h3 hle3 hi
  simp only at hi
  refine G.norm (by (try dsimp only) <;> exact rfl) (by (try dsimp only) <;> exact rfl) ?_
  have hpl := repM_len (l.take i)
  rw [List.length_take] at hpl
  by_cases hlt : i < l.length
  . obtain ⟨m, ha⟩ : ∃ a, l[i]? = some a := ⟨l[i], List.getElem?_eq_getElem hlt⟩
    have hmem := List.mem_of_getElem? ha
    obtain ⟨r1, hget1, pv, kv, nv, av, mv, cv, rfl, hV⟩ := hr.get ha
    have hW := fun h hT hV => wire_Write m (hI m hmem) (hw m hmem) pv kv nv av mv cv h hT hV
    have hwl := write_max m
    have hn1 : repM (l.take (i + 1)) = repM (l.take i) ++ (writeM m).1 := by rw [take_get ha, repM_snoc]
    generalize repM (l.take i) = P at *
    generalize writeM m = w at *
    obtain ⟨w1, w2⟩ := w
    simp only at hwl hn1 hW
    obtain ⟨⟨pA, pn, pc, rfl⟩, ⟨kA, kn, kc, rfl⟩, ⟨nA, nn, nc, rfl⟩, ⟨aA, an, ac, rfl⟩, ⟨mA, mn, mc, rfl⟩, ⟨cA, cn, cc, rfl⟩⟩ := hV.forms
    have hl1 : (msR m (.slice pA pn pc) (.slice kA kn kc) (.slice nA nn nc) (.slice aA an ac) (.slice mA mn mc) (.slice cA cn cc)).length = 32 := rfl
    repeat' (first | (refine G.atIdx ?_; refine G.idxImm rfl rfl (tyy rfl) (tyy rfl) (hs.mono (by solve | repeat first | assumption | exact Zr _ | refine Zq ?_ Zp)) Zj rfl (by omega) ?_; intro p1 r1 hx1 hp1; (rw [hget1] at hx1); (obtain rfl := Option.some.inj hx1)) | (show G _ (.ops .seq _ (⟨some _, .call { callee := .value (.func 24), args := _, argTypes := _ }, _, _, _, none⟩ :: _) :: _) _ _ _; refine G.call callWriteW rfl rfl (hW _ (hT.mono (by solve | repeat first | assumption | exact Zr _ | refine Zq ?_ Zp)) (hV.mono (by solve | repeat first | assumption | exact Zr _ | refine Zq ?_ Zp))) Ze ?_; rintro _ h4 H4 ⟨rfl, rfl⟩ hle4) | (refine G.atApp ?_; refine G.appendStr rfl rfl (tyy rfl) (tyy rfl) (tyy rfl) rfl rfl Za rfl (by omega) ?_; intro _) | (refine G.atCode ?_; first | refine G.seq ?_ | refine G.region ?_ | refine G.block ?_ | refine G.skip ?_ | (refine G.cond rfl ?_ ?_ <;> intro hc <;> (try simp only [tests, reduceCtorEq] at hc) <;> (try exact Zf))) | refine G.endOps ?_ | refine G.endBlk ?_ | (refine G.atBin ?_; first | (refine G.atAdd ?_; first | refine G.arith rfl rfl rfl rfl rfl Zi ?_) | refine G.op rfl rfl ?_) | refine G.op rfl rfl ?_ | (refine G.atLoad ?_; first | refine G.loadOwnA rfl (tyy rfl) rfl rfl Za rfl rfl ?_ | refine G.loadImmA rfl (tyy rfl) rfl rfl Zp Zp rfl ?_) | (refine G.atSto ?_; refine G.storeOwn rfl rfl (tyy rfl) Za rfl rfl rfl rfl ?_) | (refine G.atAlc ?_; refine G.alloc (tyy rfl) rfl rfl ?_; intro _))
    all_goals first | (exfalso; omega) | (exfalso; simp_all; done) | skip
    rename_i ov'
    refine G.again ⟨i + 1, ov'⟩ ⟨sint (by simp only; omega), rfl, rfl, rfl, trivial⟩ ?_ (by simp only; omega) (by solve | repeat first | assumption | exact Zr _ | refine Zq ?_ Zp) (by simp only; omega)
    simp only [hn1]
    exact Zu
  . obtain rfl : i = l.length := by omega
    rw [List.take_length]
    repeat' (first | (refine G.atCode ?_; first | refine G.seq ?_ | refine G.region ?_ | refine G.exit rfl ?_ | refine G.ret ?_ | (refine G.cond rfl ?_ ?_ <;> intro hc <;> (try simp only [tests, reduceCtorEq] at hc) <;> (try exact Zf))) | refine G.endOps ?_ | (refine G.atBin ?_; first | refine G.op rfl rfl ?_) | refine G.op rfl rfl ?_ | (refine G.atConv ?_; first | refine G.convStr rfl (tyy rfl) (tyy rfl) (tyy rfl) Za rfl ?_))
    all_goals first | (exfalso; omega) | exact G.done1 rfl rfl [] (SubH.nil _) ⟨rfl, rfl⟩ | skip
    all_goals trace_state
set_option maxRecDepth 8000 in
set_option maxHeartbeats 4000000 in
theorem ref27_Reply (l : List Ms) (hI : ∀ m ∈ l, MsI m) (hw : ∀ m ∈ l, m.wt <= 10000000) (hn : l.length <= 30) (v : Value) (h : Heap) (hv : MssC h l v) :
    Spec Tryd.prog 38 [v] h [] (fun u _ H' => u = str (repM l) /\ H' = []) := by
  obtain ⟨A, c, rfl, _, _⟩ := hv.form
  obtain ⟨rows, hs, hr⟩ := hv
  have hrl := hr.len
  refine Spec.enter Tryd.func38 rfl rfl ?_; intro w0
  repeat' (first | (refine G.atCode ?_; refine G.stopLoop ?_) | (refine G.atCode ?_; first | refine G.seq ?_ | refine G.region ?_ | refine G.block ?_) | refine G.endOps ?_ | refine G.op rfl rfl ?_ | (refine G.atLen ?_; first | refine G.lenSlice rfl (tyy rfl) rfl ?_))
  all_goals first | (exfalso; omega) | skip
  refine G.go ?_
  refine G.loop (σ := Nat) (fun i => [(10, .int .i64 i), (9, .int .i64 l.length), (8, .slice A l.length c), (3, str (repM (l.take i)))])
    (fun _ => []) (fun i _ => i <= l.length) (fun i => l.length - i) 0 ⟨rfl, rfl, rfl, rfl, trivial⟩ (SubH.nil _) (Nat.zero_le _) ?_
  rintro i h3 hle3 hi
  have hpl := repM_len (l.take i)
  rw [List.length_take] at hpl
  by_cases hlt : i < l.length
  . obtain ⟨m, ha⟩ : ∃ a, l[i]? = some a := ⟨l[i], List.getElem?_eq_getElem hlt⟩
    have hmem := List.mem_of_getElem? ha
    obtain ⟨r1, hget1, pv, kv, nv, av, mv, cv, rfl, hV⟩ := hr.get ha
    have hW := fun h hV => ref11_Write m (hI m hmem) (hw m hmem) pv kv nv av mv cv h hV
    have hwl := write_max m
    have hn1 : repM (l.take (i + 1)) = repM (l.take i) ++ (writeM m).1 := by rw [take_get ha, repM_snoc]
    generalize repM (l.take i) = P at *
    generalize writeM m = w at *
    obtain ⟨w1, w2⟩ := w
    simp only at hwl hn1 hW
    obtain ⟨⟨pA, pn, pc, rfl⟩, ⟨kA, kn, kc, rfl⟩, ⟨nA, nn, nc, rfl⟩, ⟨aA, an, ac, rfl⟩, ⟨mA, mn, mc, rfl⟩, ⟨cA, cn, cc, rfl⟩⟩ := hV.forms
    have hl1 : (msR m (.slice pA pn pc) (.slice kA kn kc) (.slice nA nn nc) (.slice aA an ac) (.slice mA mn mc) (.slice cA cn cc)).length = 32 := rfl
    repeat' (first | (refine G.atIdx ?_; refine G.idxImm rfl rfl (tyy rfl) (tyy rfl) (hs.mono (by solve | repeat first | assumption | exact Zr _ | refine Zq ?_ Zp)) Zj rfl (by omega) ?_; intro p1 r1 hx1 hp1; (rw [hget1] at hx1); (obtain rfl := Option.some.inj hx1)) | (show G _ (.ops .seq _ (⟨some _, .call { callee := .value (.func 25), args := _, argTypes := _ }, _, _, _, none⟩ :: _) :: _) _ _ _; refine G.call callWrite11 rfl rfl (hW _ (hV.mono (by solve | repeat first | assumption | exact Zr _ | refine Zq ?_ Zp))) Ze ?_; rintro _ h4 H4 ⟨rfl, rfl⟩ hle4) | (refine G.atCode ?_; first | refine G.seq ?_ | refine G.region ?_ | refine G.block ?_ | refine G.skip ?_ | (refine G.cond rfl ?_ ?_ <;> intro hc <;> (try simp only [tests, reduceCtorEq] at hc) <;> (try exact Zf))) | refine G.endOps ?_ | refine G.endBlk ?_ | (refine G.atBin ?_; first | (refine G.atAdd ?_; first | refine G.arith rfl rfl rfl rfl rfl Zi ?_ | refine G.catStr rfl rfl rfl Zo ?_) | refine G.op rfl rfl ?_) | refine G.op rfl rfl ?_ | (refine G.atLoad ?_; first | refine G.loadOwnA rfl (tyy rfl) rfl rfl Za rfl rfl ?_ | refine G.loadImmA rfl (tyy rfl) rfl rfl Zp Zp rfl ?_) | (refine G.atSto ?_; refine G.storeOwn rfl rfl (tyy rfl) Za rfl rfl rfl rfl ?_) | (refine G.atAlc ?_; refine G.alloc (tyy rfl) rfl rfl ?_; intro _))
    all_goals first | (exfalso; omega) | (exfalso; simp_all; done) | skip
    exact G.again (i + 1) ⟨sint (by omega), rfl, rfl, by rw [hn1]; rfl, trivial⟩ (SubH.nil _) (by omega) (by solve | repeat first | assumption | exact Zr _ | refine Zq ?_ Zp) (by omega)
  . obtain rfl : i = l.length := by omega
    rw [List.take_length]
    repeat' (first | (refine G.atCode ?_; first | refine G.seq ?_ | refine G.region ?_ | refine G.exit rfl ?_ | refine G.ret ?_ | (refine G.cond rfl ?_ ?_ <;> intro hc <;> (try simp only [tests, reduceCtorEq] at hc) <;> (try exact Zf))) | refine G.endOps ?_ | (refine G.atBin ?_; first | refine G.op rfl rfl ?_) | refine G.op rfl rfl ?_)
    all_goals first | (exfalso; omega) | exact G.done1 rfl rfl [] (SubH.nil _) ⟨rfl, rfl⟩ | skip
end Go.Proofs.YtibkffoeioidlaaDoor
namespace Go.Proofs.YtibkffoeioidlaaDoor
set_option linter.all false
set_option maxRecDepth 4000
open Go.RowKit

def noteM : Ms := { zM with op := 24, code := 2, oid := [49, 46, 51, 46, 54, 46, 49, 46, 52, 46, 49, 46, 49, 52, 54, 54, 46, 50, 48, 48, 51, 54] }
theorem note1 : (writeM noteM).2 = 0 := by kernel_rfl
theorem note2 : readM (writeM noteM).1 = .ok noteM := write_read note1
theorem note_I : MsI noteM := by
  constructor <;> first | (simp only [inR, noteM, zM]; omega) | (intro x hx; cases hx)
theorem note_V (h : Heap) : MsV h noteM nilV nilV nilV nilV nilV nilV := zV rfl rfl rfl rfl rfl
theorem note_C (h : Heap) : LC MsC h [noteM] [msR noteM nilV nilV nilV nilV nilV nilV] := LC.one ⟨_, _, _, _, _, _, rfl, note_V h⟩
theorem rowed32 (m : Ms) (a b c d e f : Value) : Rowed 32 [msR m a b c d e f] := fun r hr => by
  simp only [List.mem_singleton] at hr
  subst hr; rfl
set_option maxRecDepth 8000 in
set_option maxHeartbeats 4000000 in
theorem conn_Notice (h : Heap) (hT : TabW h) : Spec Tryd.prog 36 [] h [] (fun u _ H' => u = str (writeM noteM).1 /\ H' = []) := by
  have hR := fun v h hT hv => conn_Reply [noteM] (fun m hm => by simp only [List.mem_singleton] at hm; subst hm; exact note_I) (fun m hm => by simp only [List.mem_singleton] at hm; subst hm; decide) (by decide) v h hT hv
  rw [show repM [noteM] = (writeM noteM).1 by simp [repM]] at hR
  refine Spec.enter Tryd.func36 rfl rfl ?_; intro w0
  repeat' (first | (show G _ (.ops .seq _ (⟨some _, .call { callee := .value (.func 37), args := _, argTypes := _ }, _, _, _, none⟩ :: _) :: _) _ _ _; refine Hold.out ?_) | (refine G.atCode ?_; first | refine G.seq ?_ | refine G.region ?_) | refine G.endOps ?_ | refine G.op rfl rfl ?_ | (refine G.atBld ?_; refine G.build (tyy rfl) rfl rfl rfl ?_) | (refine G.atBsl ?_; refine G.buildSlice (tyy rfl) (tyy rfl) rfl rfl rfl rfl ?_; intro _))
  refine ⟨?_⟩
  refine G.freezeBlk (e := 51) Za ?_
  intro h9 hle9 hc9
  have hs9 := HSl.ofBlk1 (rows := [msR noteM nilV nilV nilV nilV nilV nilV]) (n := 1) hc9 (rowed32 _ _ _ _ _ _ _) rfl (by decide)
  show G _ (.ops .seq _ (⟨some _, .call { callee := .value (.func 37), args := _, argTypes := _ }, _, _, _, none⟩ :: _) :: _) _ _ _
  refine G.call callCnReply rfl rfl (hR _ _ (hT.mono (by solve | repeat first | assumption | exact Zr _ | refine Zq ?_ Zp)) ⟨_, hs9, note_C _⟩) Ze ?_
  rintro _ h2 H2 ⟨rfl, rfl⟩ hle2
  repeat' (first | (refine G.atCode ?_; first | refine G.ret ?_) | refine G.endOps ?_ | refine G.op rfl rfl ?_)
  all_goals exact G.done1 rfl rfl [] (SubH.nil _) ⟨rfl, rfl⟩
set_option maxRecDepth 8000 in
set_option maxHeartbeats 4000000 in
theorem ref27_Notice (h : Heap) : Spec Tryd.prog 39 [] h [] (fun u _ H' => u = str (writeM noteM).1 /\ H' = []) := by
  have hR := fun v h hv => ref27_Reply [noteM] (fun m hm => by simp only [List.mem_singleton] at hm; subst hm; exact note_I) (fun m hm => by simp only [List.mem_singleton] at hm; subst hm; decide) (by decide) v h hv
  rw [show repM [noteM] = (writeM noteM).1 by simp [repM]] at hR
  refine Spec.enter Tryd.func39 rfl rfl ?_; intro w0
  repeat' (first | (show G _ (.ops .seq _ (⟨some _, .call { callee := .value (.func 38), args := _, argTypes := _ }, _, _, _, none⟩ :: _) :: _) _ _ _; refine Hold.out ?_) | (refine G.atCode ?_; first | refine G.seq ?_ | refine G.region ?_) | refine G.endOps ?_ | refine G.op rfl rfl ?_ | (refine G.atBld ?_; refine G.build (tyy rfl) rfl rfl rfl ?_) | (refine G.atBsl ?_; refine G.buildSlice (tyy rfl) (tyy rfl) rfl rfl rfl rfl ?_; intro _))
  refine ⟨?_⟩
  refine G.freezeBlk (e := 51) Za ?_
  intro h9 hle9 hc9
  have hs9 := HSl.ofBlk1 (rows := [msR noteM nilV nilV nilV nilV nilV nilV]) (n := 1) hc9 (rowed32 _ _ _ _ _ _ _) rfl (by decide)
  show G _ (.ops .seq _ (⟨some _, .call { callee := .value (.func 38), args := _, argTypes := _ }, _, _, _, none⟩ :: _) :: _) _ _ _
  refine G.call callReply27 rfl rfl (hR _ _ ⟨_, hs9, note_C _⟩) Ze ?_
  rintro _ h2 H2 ⟨rfl, rfl⟩ hle2
  repeat' (first | (refine G.atCode ?_; first | refine G.ret ?_) | refine G.endOps ?_ | refine G.op rfl rfl ?_)
  all_goals exact G.done1 rfl rfl [] (SubH.nil _) ⟨rfl, rfl⟩
set_option maxRecDepth 8000 in
set_option maxHeartbeats 8000000 in
theorem law_ConnReplies (l : List Ms) (hI : ∀ m ∈ l, MsI m) (hw : ∀ m ∈ l, m.wt <= 10000000) (v : Value) (h : Heap) (hT : TabW h) (hv : MssC h l v) :
    Spec Tryd.prog 12 [v] h [] (fun u _ _ => u = .bool true) := by
  obtain ⟨A, c, rfl, _, _⟩ := hv.form
  have hN := write_max noteM
  have hRd := fun h hT => wire_ReadP (writeM noteM).1 (by omega) (fun op o rest h1 h2 => by
    have e := write_op note1 h1 h2
    subst e
    exact wire_op24) h hT
  rw [note2] at hRd
  have hNt := fun h hT => conn_Notice h hT
  have hNr := fun h => ref27_Notice h
  generalize (writeM noteM).1 = nb at *
  by_cases hn : 30 < l.length
  . refine Spec.enter Tryd.func12 rfl rfl ?_; intro w0
    repeat' (first | (show G _ (.ops .seq _ (⟨some _, .call { callee := .value (.func 13), args := _, argTypes := _ }, _, _, _, none⟩ :: _) :: _) _ _ _; refine G.call callAwake27 rfl rfl (law27_awake _ (hT.mono (by solve | repeat first | assumption | exact Zr _ | refine Zq ?_ Zp))) Ze ?_; rintro _ h6 H6 ⟨rfl, rfl⟩ hle6) | (refine G.atCode ?_; first | refine G.seq ?_ | refine G.region ?_ | refine G.ret ?_ | (refine G.cond rfl ?_ ?_ <;> intro hc <;> (try simp only [tests, reduceCtorEq] at hc) <;> (try exact Zf))) | refine G.endOps ?_ | (refine G.atBin ?_; first | refine G.op rfl rfl ?_) | refine G.op rfl rfl ?_ | (refine G.atLen ?_; first | refine G.lenSlice rfl (tyy rfl) rfl ?_))
    all_goals first | (exfalso; omega) | exact G.done1 rfl rfl [] (SubH.nil _) rfl | skip
  have hR1 := fun h hT hv => conn_Reply l hI hw (by omega) (.slice A l.length c) h hT hv
  have hR2 := fun h hv => ref27_Reply l hI hw (by omega) (.slice A l.length c) h hv
  generalize repM l = rb at *
  refine Spec.enter Tryd.func12 rfl rfl ?_; intro w0
  repeat' (first | (show G _ (.ops .seq _ (⟨some _, .call { callee := .value (.func 13), args := _, argTypes := _ }, _, _, _, none⟩ :: _) :: _) _ _ _; refine G.call callAwake27 rfl rfl (law27_awake _ (hT.mono (by solve | repeat first | assumption | exact Zr _ | refine Zq ?_ Zp))) Ze ?_; rintro _ h6 H6 ⟨rfl, rfl⟩ hle6) | (show G _ (.ops .seq _ (⟨some _, .call { callee := .value (.func 36), args := _, argTypes := _ }, _, _, _, none⟩ :: _) :: _) _ _ _; refine G.call callCnNotice rfl rfl (hNt _ (hT.mono (by solve | repeat first | assumption | exact Zr _ | refine Zq ?_ Zp))) Ze ?_; rintro _ h2 H2 ⟨rfl, rfl⟩ hle2) | (show G _ (.ops .seq _ (⟨some _, .call { callee := .value (.func 39), args := _, argTypes := _ }, _, _, _, none⟩ :: _) :: _) _ _ _; refine G.call callNotice27 rfl rfl (hNr _) Ze ?_; rintro _ h3 H3 ⟨rfl, rfl⟩ hle3) | (show G _ (.ops .seq _ (⟨some _, .call { callee := .value (.func 37), args := _, argTypes := _ }, _, _, _, none⟩ :: _) :: _) _ _ _; refine G.call callCnReply rfl rfl (hR1 _ (hT.mono (by solve | repeat first | assumption | exact Zr _ | refine Zq ?_ Zp)) (SC.mono (fun x => x.mono (by solve | repeat first | assumption | exact Zr _ | refine Zq ?_ Zp)) (by solve | repeat first | assumption | exact Zr _ | refine Zq ?_ Zp) hv)) Ze ?_; rintro _ h4 H4 ⟨rfl, rfl⟩ hle4) | (show G _ (.ops .seq _ (⟨some _, .call { callee := .value (.func 38), args := _, argTypes := _ }, _, _, _, none⟩ :: _) :: _) _ _ _; refine G.call callReply27 rfl rfl (hR2 _ (SC.mono (fun x => x.mono (by solve | repeat first | assumption | exact Zr _ | refine Zq ?_ Zp)) (by solve | repeat first | assumption | exact Zr _ | refine Zq ?_ Zp) hv)) Ze ?_; rintro _ h5 H5 ⟨rfl, rfl⟩ hle5) | (show G _ (.ops .seq _ (⟨some _, .call { callee := .value (.func 28), args := _, argTypes := _ }, _, _, _, none⟩ :: _) :: _) _ _ _; refine G.call callReadW rfl rfl (hRd _ (hT.mono (by solve | repeat first | assumption | exact Zr _ | refine Zq ?_ Zp))) Ze ?_; rintro _ h7 H7 ⟨hq7, rfl⟩ hle7; obtain ⟨pv9, kv9, nv9, av9, mv9, cv9, rfl, hV9⟩ := hq7.ok_inv; obtain ⟨⟨pA9, pn9, pc9, rfl⟩, ⟨kA9, kn9, kc9, rfl⟩, ⟨nA9, nn9, nc9, rfl⟩, ⟨aA9, an9, ac9, rfl⟩, ⟨mA9, mn9, mc9, rfl⟩, ⟨cA9, cn9, cc9, rfl⟩⟩ := hV9.forms) | (refine G.atCode ?_; first | refine G.seq ?_ | refine G.region ?_ | refine G.skip ?_ | refine G.ret ?_ | (refine G.cond rfl ?_ ?_ <;> intro hc <;> (try simp only [tests, reduceCtorEq] at hc) <;> (try exact Zf))) | refine G.endOps ?_ | (refine G.atGd ?_; first | refine G.guardYes rfl rfl ?_ | (refine G.guardS rfl rfl rfl ?_ ?_ <;> intro hc <;> (try simp only [tests, reduceCtorEq] at hc) <;> (try exact Zf))) | (refine G.atBin ?_; first | (refine G.atEql ?_; first | refine G.op rfl rfl ?_ | refine G.eqStr rfl rfl rfl ?_) | refine G.op rfl rfl ?_) | refine G.op rfl rfl ?_ | (refine G.atLen ?_; first | refine G.lenSlice rfl (tyy rfl) rfl ?_) | (refine G.atLoad ?_; first | refine G.loadOwn1 rfl (tyy rfl) rfl rfl Za rfl rfl ?_) | (refine G.atFld ?_; first | refine G.fieldAddr rfl (tyy rfl) rfl rfl ?_) | (refine G.atSto ?_; refine G.storeOwn rfl rfl (tyy rfl) Za rfl rfl rfl rfl ?_) | (refine G.atAlc ?_; refine G.alloc (tyy rfl) rfl rfl ?_; intro _))
  all_goals first | (exfalso; omega) | (exfalso; simp_all; done) | exact G.done1 rfl rfl [] (SubH.nil _) (by first | rfl | simp) | skip
  all_goals trace_state
end Go.Proofs.YtibkffoeioidlaaDoor
