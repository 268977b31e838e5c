/- Names: text and key; dn.text. -/
import Derived.Test.YtahpemfnhepgoaaDnG
import Derived.Test.YtahpemfnhepgoaaOcE
import Derived.Test.YtahpemfnhepgoaaLibS
namespace Go.Proofs.Ytahpemfnhepgoaa
set_option linter.all false
set_option maxRecDepth 4000
open Go.RowKit

def avaT (a : List UInt8 × List UInt8) : List UInt8 := a.1 ++ [61] ++ wrM a.2
def keyA (a : List UInt8 × List UInt8) : List UInt8 × List UInt8 := (foldM a.1, prepM a.2)
def fA (b : Bool) (a : List UInt8 × List UInt8) : List UInt8 := avaT (if b then keyA a else a)
def fR (b : Bool) (r : Rdn) : List UInt8 := Lib.join (if b then sortM (r.map (fA b)) else r.map (fA b)) [43]
def txt (b : Bool) (d : Dn) : List UInt8 := Lib.join (d.map (fR b)) [44]
def avaW (a : List UInt8 × List UInt8) : Nat := a.1.length + 3 * a.2.length + 2
def rdnW (r : Rdn) : Nat := (r.map avaW).sum
def dnW (d : Dn) : Nat := (d.map fun r => rdnW r + 1).sum
theorem prepM_len (s : List UInt8) : (prepM s).length <= s.length := by
  have h1 := prF_len (foldM s)
  rw [foldM_len] at h1
  unfold prepM
  unfold prB at h1
  rw [List.length_append] at h1
  omega
theorem fA_len (b : Bool) (a : List UInt8 × List UInt8) : (fA b a).length + 1 <= avaW a := by
  unfold fA avaT avaW
  cases b with
  | false => have := (wrM_len a.2).2; simp; omega
  | true => have h1 := (wrM_len (prepM a.2)).2; have h2 := prepM_len a.2; simp only [if_true, keyA, List.length_append, foldM_len, List.length_cons, List.length_nil]; omega
theorem join_len (sep : List UInt8) (L : List (List UInt8)) : (Lib.join L sep).length <= (L.map fun x => x.length + sep.length).sum := by
  cases L with
  | nil => simp [Lib.join_nil]
  | cons x r =>
    rw [Lib.join_cons, List.length_append, List.map_cons, List.sum_cons]
    have : (Lib.joinTail sep r).length = (r.map fun x => x.length + sep.length).sum := by
      induction r with
      | nil => rfl
      | cons y r ih => simp only [Lib.joinTail, List.map_cons, List.flatten_cons, List.length_append, List.sum_cons] at ih ⊢; rw [ih]; omega
    omega
theorem sum_le {α : Type} (f g : α -> Nat) (l : List α) (h : ∀ x ∈ l, f x <= g x) : (l.map f).sum <= (l.map g).sum := by
  induction l with
  | nil => simp
  | cons x l ih =>
    have h1 := h x (by simp)
    have h2 := ih fun y hy => h y (by simp [hy])
    simp only [List.map_cons, List.sum_cons]; omega
theorem mem_le_sum {α : Type} (f : α -> Nat) (l : List α) (x : α) (h : x ∈ l) : f x <= (l.map f).sum := by
  induction l with
  | nil => simp at h
  | cons y l ih =>
    simp only [List.map_cons, List.sum_cons]
    rcases List.mem_cons.1 h with rfl | h
    . omega
    . have := ih h; omega
theorem len_le_sum {α : Type} (f : α -> Nat) (l : List α) (h : ∀ x ∈ l, 1 <= f x) : l.length <= (l.map f).sum := by
  have := sum_le (fun _ => 1) f l h
  have h2 : (l.map fun _ => 1).sum = l.length := by
    induction l with
    | nil => rfl
    | cons x l ih => simp only [List.map_cons, List.sum_cons, List.length_cons]; rw [ih (fun y hy => h y (by simp [hy])) (sum_le _ _ _ fun y hy => h y (by simp [hy]))]; omega
  omega
theorem fRl_len (b : Bool) (r : Rdn) : ((if b then sortM (r.map (fA b)) else r.map (fA b)).map fun x => x.length + [(43 : UInt8)].length).sum <= rdnW r := by
  have h1 : ((r.map (fA b)).map fun x => x.length + [(43 : UInt8)].length).sum <= rdnW r := by
    rw [List.map_map]
    exact sum_le _ _ _ fun a _ => fA_len b a
  cases b with
  | false => exact h1
  | true =>
    have hp : (sortM (r.map (fA true))).Perm (r.map (fA true)) := List.mergeSort_perm _ _
    have := (hp.map fun x => x.length + [(43 : UInt8)].length).sum_nat
    simp only [if_true]
    omega
theorem fR_len (b : Bool) (r : Rdn) : (fR b r).length <= rdnW r := Nat.le_trans (join_len _ _) (fRl_len b r)
theorem txt_len (b : Bool) (d : Dn) : (txt b d).length <= dnW d := by
  refine Nat.le_trans (join_len _ _) ?_
  rw [List.map_map]
  exact sum_le _ _ _ fun r _ => by have := fR_len b r; simp; omega
theorem rdnW_le {d : Dn} {r : Rdn} (h : r ∈ d) : rdnW r + 1 <= dnW d := mem_le_sum (fun r => rdnW r + 1) d r h
theorem avaW_le {r : Rdn} {a : List UInt8 × List UInt8} (h : a ∈ r) : avaW a <= rdnW r := mem_le_sum avaW r a h
theorem rdn_len_le (r : Rdn) : r.length <= rdnW r := len_le_sum avaW r fun a _ => by unfold avaW; omega
theorem dn_len_le (d : Dn) : d.length <= dnW d := len_le_sum (fun r => rdnW r + 1) d fun a _ => by omega
theorem map_take_succ {α β : Type} (f : α -> β) {l : List α} {i : Nat} {x : α} (h : l[i]? = some x) : (l.take (i + 1)).map f = (l.take i).map f ++ [f x] := by
  have hi := (List.getElem?_eq_some_iff.1 h).1
  have e := (List.getElem?_eq_some_iff.1 h).2
  rw [List.take_succ_eq_append_getElem hi, List.map_append, e]; rfl
theorem callText : Callable Try.prog 34 := ⟨_, Try.func34, by kernel_rfl, rfl⟩
set_option maxRecDepth 8000 in
set_option maxHeartbeats 2000000 in
theorem dn_text (b : Bool) (d : Dn) (v : Value) (hd : dnW d <= 10000000) (h : Heap) (hv : DnC h d v) : Spec Try.prog 34 [v, .bool b] h [] (fun u _ H' => u = str (txt b d) /\ H' = []) := by
  obtain ⟨rows, hs, hrows⟩ := hv
  have hrl := hrows.len
  have hdl := dn_len_le d
  have htl := txt_len b d
  unfold txt at *
  refine Spec.enter Try.func34 rfl rfl ?_; intro w0
  repeat' (first | (refine G.atCode ?_; refine G.stopLoop ?_) | (refine G.atCode ?_; first | refine G.seq ?_ | refine G.region ?_ | refine G.block ?_) | refine G.endOps ?_ | refine G.op rfl rfl ?_ | (refine G.atLen ?_; first | refine G.lenImm rfl (tyy rfl) Zl rfl ?_))
  refine G.nilRow 9 1 ?_
  refine G.go ?_
  rw [hrl]
  refine G.loop (σ := Nat × Value) (fun x => [(13, .int .i64 x.1), (12, .int .i64 d.length), (11, v), (5, x.2), (1, .bool b)])
    (fun x => [.row x.2 9 1 (strsR ((d.take x.1).map (fR b)))]) (fun x _ => x.1 <= d.length) (fun x => d.length - x.1) ⟨0, .slice none 0 0⟩ ⟨rfl, rfl, rfl, rfl, rfl, trivial⟩ Zu (Nat.zero_le _) ?_
  rintro ⟨i, av⟩ h1 hle1 hi
  simp only at hi
  refine G.norm (by (try dsimp only) <;> exact rfl) (by (try dsimp only) <;> exact rfl) ?_
  by_cases hlt : i < d.length
  . obtain ⟨r, hr⟩ : ∃ r, d[i]? = some r := ⟨d[i], List.getElem?_eq_getElem hlt⟩
    obtain ⟨rv, hget, hrv⟩ := hrows.get hr
    have hrw := rdnW_le (List.mem_of_getElem? hr)
    have hrlen := rdn_len_le r
    have hnext := map_take_succ (fR b) hr
    have hal := avaR_length r
    have hfl : ((d.take i).map (fR b)).length = i := by simp; omega
    generalize (d.take i).map (fR b) = Q at *
    repeat' (first | (refine G.atIdx ?_; refine G.idxImm rfl rfl (tyy rfl) (tyy rfl) (hs.mono hle1) Zj rfl (by omega) ?_; intro p1 r1 hr1 hp1; (rw [hget] at hr1); (obtain rfl := Option.some.inj hr1)) | (refine G.atCode ?_; refine G.stopLoop ?_) | (refine G.atCode ?_; first | refine G.seq ?_ | refine G.region ?_ | refine G.block ?_ | refine G.skip ?_ | (refine G.cond rfl ?_ ?_ <;> intro hc <;> (try simp only [tests, reduceCtorEq] at hc) <;> (try exact Zf))) | refine G.endOps ?_ | (refine G.atBin ?_; first | refine G.op rfl rfl ?_) | refine G.op rfl rfl ?_ | (refine G.atLen ?_; first | refine G.lenImm rfl (tyy rfl) Zl rfl ?_) | (refine G.atLoad ?_; first | refine G.loadImm1 rfl (tyy rfl) rfl rfl Zp rfl ?_))
    refine G.nilRow 9 1 ?_
    refine G.go ?_
    rw [hal]
    refine G.loop (σ := Nat × Value) (fun x => [(19, .int .i64 x.1), (18, .int .i64 r.length), (17, rv), (8, x.2), (13, .int .i64 i), (12, .int .i64 d.length), (11, v), (5, av), (1, .bool b)])
      (fun x => [.row x.2 9 1 (strsR ((r.take x.1).map (fA b))), .row av 9 1 (strsR Q)]) (fun x _ => x.1 <= r.length) (fun x => r.length - x.1) ⟨0, .slice none 0 0⟩ ⟨rfl, rfl, rfl, rfl, rfl, rfl, rfl, rfl, rfl, trivial⟩ Zu (Nat.zero_le _) ?_
    rintro ⟨k, lv⟩ h3 hle3 hk
    simp only at hk
    refine G.norm (by (try dsimp only) <;> exact rfl) (by (try dsimp only) <;> exact rfl) ?_
    have hfl2 : ((r.take k).map (fA b)).length = k := by simp; omega
    by_cases hkl : k < r.length
    . obtain ⟨⟨ty, vl⟩, ha⟩ : ∃ a, r[k]? = some a := ⟨r[k], List.getElem?_eq_getElem hkl⟩
      have hget2 := avaR_get ha
      have haw := avaW_le (List.mem_of_getElem? ha)
      have hnext2 := map_take_succ (fA b) ha
      simp only [avaW] at haw hget2
      have hwl := wrM_len vl
      have hwp := wrM_len (prepM vl)
      have hpl := prepM_len vl
      have hffl := foldM_len ty
      generalize (r.take k).map (fA b) = M at *
      cases b with
      | false =>
        repeat' (first | (refine G.atIdx ?_; refine G.idxImm rfl rfl (tyy rfl) (tyy rfl) (hrv.mono (Heap.le_trans hle1 hle3)) Zj rfl (by omega) ?_; intro p1 r1 hr1 hp1; (rw [hget2] at hr1); (obtain rfl := Option.some.inj hr1); have hl1 : ([str ty, str vl] : List Value).length = 2 := rfl) | (show G _ (.ops .seq _ (⟨some _, .call { callee := .value (.func 46), args := _, argTypes := _ }, _, _, _, none⟩ :: _) :: _) _ _ _; refine G.call callWritten rfl rfl (dn_written vl (by omega) _) Ze ?_; rintro _ h4 H4 ⟨rfl, rfl⟩ hle4) | (refine G.atCode ?_; first | refine G.seq ?_ | refine G.region ?_ | refine G.block ?_ | refine G.skip ?_ | refine G.anyIn mixedOk ?_ | (refine G.cond rfl ?_ ?_ <;> intro hc <;> (try simp only [tests, reduceCtorEq] at hc) <;> (try exact Zf))) | refine G.endOps ?_ | refine G.endHeld ?_ | refine G.back ?_ | refine G.endBlk ?_ | (refine G.atAny ?_; first | refine G.anyAutoX slB rfl rfl Zw Zg Zd ?_ | refine G.anyOne rfl Zw Zg Zu ?_ | refine G.anyEndX Zw ?_) | (refine G.atBin ?_; first | (refine G.atAdd ?_; first | refine G.arith rfl rfl rfl rfl rfl Zi ?_ | refine G.catStr rfl rfl rfl Zo ?_) | refine G.op rfl rfl ?_) | refine G.op rfl rfl ?_ | (refine G.atLoad ?_; first | refine G.loadOwn1 rfl (tyy rfl) rfl rfl Za rfl rfl ?_ | refine G.loadImmA rfl (tyy rfl) rfl rfl Zp Zp rfl ?_) | (refine G.atFld ?_; first | refine G.fieldAddr rfl (tyy rfl) rfl rfl ?_) | (refine G.atSto ?_; refine G.storeOwn rfl rfl (tyy rfl) Za rfl rfl rfl rfl ?_) | (refine G.atAlc ?_; refine G.alloc (tyy rfl) rfl rfl ?_; intro _) | (refine G.atBsl ?_; refine G.buildSlice (tyy rfl) (tyy rfl) rfl rfl rfl rfl ?_; intro _) | (refine G.atApp ?_; first | (refine G.append1S rfl rfl (tyy rfl) (tyy rfl) rfl rfl Za Za rfl Zo ?_; intro _)))
        all_goals (
          rw [show ty ++ [61] ++ wrM vl = fA false (ty, vl) from rfl, ← hnext2]
          exact G.again ⟨k + 1, _⟩ ⟨sint (by omega), rfl, rfl, rfl, rfl, rfl, rfl, rfl, rfl, trivial⟩ Zu (by simp only; omega) (by solve | repeat first | assumption | exact Zr _ | refine Zq ?_ Zp) (by simp only; omega))
      | true =>
        repeat' (first | (refine G.atIdx ?_; refine G.idxImm rfl rfl (tyy rfl) (tyy rfl) (hrv.mono (Heap.le_trans hle1 hle3)) Zj rfl (by omega) ?_; intro p1 r1 hr1 hp1; (rw [hget2] at hr1); (obtain rfl := Option.some.inj hr1); have hl1 : ([str ty, str vl] : List Value).length = 2 := rfl) | (show G _ (.ops .seq _ (⟨some _, .call { callee := .value (.func 41), args := _, argTypes := _ }, _, _, _, none⟩ :: _) :: _) _ _ _; refine G.call callFold rfl rfl (octet_Fold ty (by omega) _) Ze ?_; rintro _ h4 H4 ⟨rfl, rfl⟩ hle4) | (show G _ (.ops .seq _ (⟨some _, .call { callee := .value (.func 45), args := _, argTypes := _ }, _, _, _, none⟩ :: _) :: _) _ _ _; refine G.call callPrep rfl rfl (octet_Prep vl (by omega) _) Ze ?_; rintro _ h5 H5 ⟨rfl, rfl⟩ hle5) | (show G _ (.ops .seq _ (⟨some _, .call { callee := .value (.func 46), args := _, argTypes := _ }, _, _, _, none⟩ :: _) :: _) _ _ _; refine G.call callWritten rfl rfl (dn_written (prepM vl) (by omega) _) Ze ?_; rintro _ h6 H6 ⟨rfl, rfl⟩ hle6) | (refine G.atCode ?_; first | refine G.seq ?_ | refine G.region ?_ | refine G.block ?_ | refine G.skip ?_ | refine G.anyIn mixedOk ?_ | (refine G.cond rfl ?_ ?_ <;> intro hc <;> (try simp only [tests, reduceCtorEq] at hc) <;> (try exact Zf))) | refine G.endOps ?_ | refine G.endHeld ?_ | refine G.back ?_ | refine G.endBlk ?_ | (refine G.atAny ?_; first | refine G.anyAutoX slB rfl rfl Zw Zg Zd ?_ | refine G.anyOne rfl Zw Zg Zu ?_ | refine G.anyEndX Zw ?_) | (refine G.atBin ?_; first | (refine G.atAdd ?_; first | refine G.arith rfl rfl rfl rfl rfl Zi ?_ | refine G.catStr rfl rfl rfl Zo ?_) | refine G.op rfl rfl ?_) | refine G.op rfl rfl ?_ | (refine G.atLoad ?_; first | refine G.loadOwn1 rfl (tyy rfl) rfl rfl Za rfl rfl ?_ | refine G.loadImmA rfl (tyy rfl) rfl rfl Zp Zp rfl ?_) | (refine G.atFld ?_; first | refine G.fieldAddr rfl (tyy rfl) rfl rfl ?_) | (refine G.atSto ?_; refine G.storeOwn rfl rfl (tyy rfl) Za rfl rfl rfl rfl ?_) | (refine G.atAlc ?_; refine G.alloc (tyy rfl) rfl rfl ?_; intro _) | (refine G.atBld ?_; refine G.build (tyy rfl) rfl rfl rfl ?_) | (refine G.atBsl ?_; refine G.buildSlice (tyy rfl) (tyy rfl) rfl rfl rfl rfl ?_; intro _) | (refine G.atApp ?_; first | (refine G.append1S rfl rfl (tyy rfl) (tyy rfl) rfl rfl Za Za rfl Zo ?_; intro _)))
        all_goals (
          rw [show foldM ty ++ [61] ++ wrM (prepM vl) = fA true (ty, vl) from rfl, ← hnext2]
          exact G.again ⟨k + 1, _⟩ ⟨sint (by omega), rfl, rfl, rfl, rfl, rfl, rfl, rfl, rfl, trivial⟩ Zu (by simp only; omega) (by solve | repeat first | assumption | exact Zr _ | refine Zq ?_ Zp) (by simp only; omega))
    . obtain rfl : k = r.length := by omega
      rw [List.take_length] at hfl2 ⊢
      have hfll := fR_len b r
      have hmm : (r.map (fA b)).length <= 100000000 := by omega
      cases b with
      | false =>
        repeat' (first | (show G _ (.ops .seq _ (⟨some _, .call { callee := .value (.func 48), args := _, argTypes := _ }, _, _, _, none⟩ :: _) :: _) _ _ _; refine G.call callJoinS rfl rfl (strs_JoinS _ _ [43] (r.map (fA false)) hmm (by have : (fR false r).length <= 100000000 := (by omega); exact this) _) Ze ?_; rintro _ h4 H4 ⟨rfl, rfl⟩ hle4) | (refine G.atCode ?_; first | refine G.seq ?_ | refine G.region ?_ | refine G.skip ?_ | refine G.exit rfl ?_ | (refine G.cond rfl ?_ ?_ <;> intro hc <;> (try simp only [tests, reduceCtorEq] at hc) <;> (try exact Zf))) | refine G.endOps ?_ | refine G.endBlk ?_ | (refine G.atBin ?_; first | (refine G.atAdd ?_; first | refine G.arith rfl rfl rfl rfl rfl Zi ?_) | refine G.op rfl rfl ?_) | refine G.op rfl rfl ?_ | (refine G.atBsl ?_; refine G.buildSlice (tyy rfl) (tyy rfl) rfl rfl rfl rfl ?_; intro _) | (refine G.atApp ?_; first | (refine G.append1S rfl rfl (tyy rfl) (tyy rfl) rfl rfl Za Za rfl Zo ?_; intro _)))
        all_goals (
          rw [show Lib.join (r.map (fA false)) [43] = fR false r from rfl, ← hnext]
          exact G.again ⟨i + 1, _⟩ ⟨sint (by omega), rfl, rfl, rfl, rfl, trivial⟩ Zu (by simp only; omega) (by solve | repeat first | assumption | exact Zr _ | refine Zq ?_ Zp) (by simp only; omega))
      | true =>
        have hsl := sortM_len (r.map (fA true))
        repeat' (first | (show G _ (.ops .seq _ (⟨some _, .call { callee := .value (.func 47), args := _, argTypes := _ }, _, _, _, none⟩ :: _) :: _) _ _ _; refine G.call callSort rfl rfl (strs_Sort _ _ (r.map (fA true)) hmm _) Ze ?_; rintro _ h4 H4 ⟨rfl, rfl⟩ hle4) | (show G _ (.ops .seq _ (⟨some _, .call { callee := .value (.func 48), args := _, argTypes := _ }, _, _, _, none⟩ :: _) :: _) _ _ _; refine G.call callJoinS rfl rfl (strs_JoinS _ _ [43] (sortM (r.map (fA true))) (by omega) (by have : (fR true r).length <= 100000000 := (by omega); exact this) _) Ze ?_; rintro _ h5 H5 ⟨rfl, rfl⟩ hle5) | (refine G.atCode ?_; first | refine G.seq ?_ | refine G.region ?_ | refine G.exit rfl ?_ | (refine G.cond rfl ?_ ?_ <;> intro hc <;> (try simp only [tests, reduceCtorEq] at hc) <;> (try exact Zf))) | refine G.endOps ?_ | refine G.endBlk ?_ | (refine G.atBin ?_; first | (refine G.atAdd ?_; first | refine G.arith rfl rfl rfl rfl rfl Zi ?_) | refine G.op rfl rfl ?_) | refine G.op rfl rfl ?_ | (refine G.atBsl ?_; refine G.buildSlice (tyy rfl) (tyy rfl) rfl rfl rfl rfl ?_; intro _) | (refine G.atApp ?_; first | (refine G.append1S rfl rfl (tyy rfl) (tyy rfl) rfl rfl Za Za rfl Zo ?_; intro _)))
        all_goals (
          rw [show Lib.join (sortM (r.map (fA true))) [43] = fR true r from rfl, ← hnext]
          exact G.again ⟨i + 1, _⟩ ⟨sint (by omega), rfl, rfl, rfl, rfl, trivial⟩ Zu (by simp only; omega) (by solve | repeat first | assumption | exact Zr _ | refine Zq ?_ Zp) (by simp only; omega))
  . obtain rfl : i = d.length := by omega
    rw [List.take_length]
    repeat' (first | (show G _ (.ops .seq _ (⟨some _, .call { callee := .value (.func 48), args := _, argTypes := _ }, _, _, _, none⟩ :: _) :: _) _ _ _; refine G.call callJoinS rfl rfl (strs_JoinS _ _ [44] (d.map (fR b)) (by simp; omega) (by omega) _) Ze ?_; rintro _ h4 H4 ⟨rfl, rfl⟩ hle4) | (refine G.atCode ?_; first | refine G.seq ?_ | refine G.region ?_ | refine G.exit rfl ?_ | refine G.ret ?_ | (refine G.cond rfl ?_ ?_ <;> intro hc <;> (try simp only [tests, reduceCtorEq] at hc) <;> (try exact Zf))) | refine G.endOps ?_ | (refine G.atBin ?_; first | refine G.op rfl rfl ?_) | refine G.op rfl rfl ?_)
    all_goals first | (exfalso; omega) | exact G.done1 rfl rfl _ (SubH.nil _) ⟨rfl, rfl⟩
end Go.Proofs.Ytahpemfnhepgoaa
