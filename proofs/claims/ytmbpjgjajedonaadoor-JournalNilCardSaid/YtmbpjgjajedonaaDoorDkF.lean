/- Package disk: Flush. -/
import Derived.Test.YtmbpjgjajedonaaDoorDkC
import Derived.Test.YtmbpjgjajedonaaDoorLtR
namespace Go.Proofs.YtmbpjgjajedonaaDoor
set_option linter.all false
set_option maxRecDepth 4000
open Go.RowKit

structure Dk.Wk (D : Dk) : Prop where
  k : (D.W.map (·.1)).Nodup
  b : (D.W.map (·.2.2)).Nodup
  bc : ∀ x ∈ D.W, x.2.2 < D.c
  kr : ∀ x ∈ D.W, 0 <= x.1 /\ x.1 < D.lasts.length
abbrev Wl := List (Int × List UInt8 × Nat)
def wDel (q : Int) : Wl -> Wl
  | [] => []
  | (j, v, b) :: es => if q = j then es else (j, v, b) :: wDel q es
theorem wE_del (q : Int) : ∀ W : Wl, mDel q (wE W) = wE (wDel q W)
  | [] => rfl
  | (j, v, b) :: W => by
    have ih := wE_del q W
    simp only [wE] at ih
    by_cases h : q = j
    . simp [wE, mDel, wDel, h]
    . simp [wE, mDel, wDel, h, ih]
theorem wDel_sub (q : Int) : ∀ W : Wl, (wDel q W).Sublist W
  | [] => .slnil
  | (j, v, b) :: W => by
    unfold wDel
    split
    . exact List.sublist_cons_self _ _
    . exact (wDel_sub q W).cons₂ _
theorem wDel_len {q : Int} {s : List UInt8} {b : Nat} : ∀ {W : Wl}, (q, s, b) ∈ W -> (wDel q W).length < W.length
  | (j, v, c) :: W, h => by
    unfold wDel
    split
    . simp
    . rename_i hq
      rcases List.mem_cons.1 h with e | h
      . injection e with e; exact absurd e hq
      . have := wDel_len h; simp; exact this
theorem wGet_none {q : Int} : ∀ {W : Wl}, (∀ x ∈ W, x.1 ≠ q) -> wGet W q = none
  | [], _ => rfl
  | (j, v, b) :: W, h => by
    have h1 := h (j, v, b) (by simp)
    rw [wGet, if_neg (fun e => h1 e.symm)]
    exact wGet_none (fun x hx => h x (by simp [hx]))
theorem wGet_mem {q : Int} {s : List UInt8} {b : Nat} : ∀ {W : Wl}, (W.map (·.1)).Nodup -> (q, s, b) ∈ W -> wGet W q = some s
  | (j, v, c) :: W, hn, h => by
    rw [List.map_cons, List.nodup_cons] at hn
    rcases List.mem_cons.1 h with e | h
    . injection e with e1 e2
      injection e2 with e2
      subst e1 e2
      simp [wGet]
    . have : q ≠ j := fun e => hn.1 (e ▸ List.mem_map.2 ⟨_, h, rfl⟩)
      rw [wGet, if_neg this]
      exact wGet_mem hn.2 h
theorem wDel_get {q : Int} (i : Int) : ∀ {W : Wl}, (W.map (·.1)).Nodup -> wGet (wDel q W) i = if i = q then none else wGet W i
  | [], _ => by simp [wDel, wGet]
  | (j, v, c) :: W, hn => by
    rw [List.map_cons, List.nodup_cons] at hn
    unfold wDel
    by_cases h : q = j
    . subst h
      rw [if_pos rfl]
      by_cases hi : i = q
      . subst hi
        rw [if_pos rfl]
        exact wGet_none fun x hx e => hn.1 (e ▸ List.mem_map.2 ⟨x, hx, rfl⟩)
      . rw [if_neg hi, wGet, if_neg hi]
    . rw [if_neg h, wGet]
      by_cases hj : i = j
      . rw [if_pos hj, if_neg (fun e => h (e.symm.trans hj)), wGet, if_pos hj]
      . rw [if_neg hj, wDel_get i hn.2, wGet, if_neg hj]
theorem wDel_ne {q : Int} : ∀ {W : Wl}, (W.map (·.1)).Nodup -> ∀ x ∈ wDel q W, x.1 ≠ q
  | [], _, x, hx => by simp [wDel] at hx
  | (j, v, c) :: W, hn, x, hx => by
    rw [List.map_cons, List.nodup_cons] at hn
    unfold wDel at hx
    split at hx
    . rename_i h
      subst h
      exact fun e => hn.1 (e ▸ List.mem_map.2 ⟨x, hx, rfl⟩)
    . rename_i h
      rcases List.mem_cons.1 hx with rfl | hx
      . exact fun e => h e.symm
      . exact wDel_ne hn.2 x hx
theorem born_ne {W : Wl} (hn : (W.map (·.2.2)).Nodup) {x y : Int × List UInt8 × Nat} (hx : x ∈ W) (hy : y ∈ W) (hne : x ≠ y) : x.2.2 ≠ y.2.2 := by
  induction W with
  | nil => simp at hx
  | cons z W ih =>
    rw [List.map_cons, List.nodup_cons] at hn
    rcases List.mem_cons.1 hx with e1 | hx'
    . rcases List.mem_cons.1 hy with e2 | hy'
      . exact absurd (e1.trans e2.symm) hne
      . exact fun e => hn.1 (List.mem_map.2 ⟨y, hy', by rw [<- e, e1]⟩)
    . rcases List.mem_cons.1 hy with e2 | hy'
      . exact fun e => hn.1 (List.mem_map.2 ⟨x, hx', by rw [e, e2]⟩)
      . exact ih hn.2 hx' hy'
def flushAt (W : Wl) (L : List (List UInt8)) (i : Nat) : List UInt8 := (wGet W (i : Nat)).getD (strAt L i)
def flushD (D : Dk) : Dk := { D with lasts := (List.range D.lasts.length).map (flushAt D.W D.lasts), W := [] }
def flushM (D : Dk) : Dk × Int :=
  if D.off then (D, 10) else if (cutM D).2 then (failM (cutM D).1, 10) else (flushD (cutM D).1, 0)
theorem strAt_set_ne {L : List (List UInt8)} {i j : Nat} {s : List UInt8} (h : i ≠ j) : strAt (L.set i s) j = strAt L j := by
  unfold strAt
  rw [List.getElem?_set, if_neg h]
theorem strAt_set_eq {L : List (List UInt8)} {i : Nat} {s : List UInt8} (h : i < L.length) : strAt (L.set i s) i = s := by
  unfold strAt
  rw [List.getElem?_set]; simp [h]
theorem all_at {L : List (List UInt8)} {r : Nat -> List UInt8} {n : Nat} (hl : L.length = n) (h : ∀ i, i < n -> strAt L i = r i) : L = (List.range n).map r := by
  apply List.ext_getElem (by simp [hl])
  intro i h1 h2
  have := h i (by omega)
  unfold strAt at this
  rw [List.getElem?_eq_getElem h1] at this
  simpa using this

set_option maxRecDepth 8000 in
set_option maxHeartbeats 1000000 in
theorem disk_Flush (d m : Nat) (v : Value) (D : Dk) (hD : D.Ok) (hW : D.Wk) (h : Heap) :
    Spec Tryd.prog 39 [.pointer (some ⟨d, 0, none⟩)] h (dkC d m v D) (fun u _ H' => u = .int .i64 (flushM D).2 /\ H' = dkC d m v (flushM D).1) := by
  have sp := disk_fails d m v D 0
  have sc := disk_cut d m v D hD
  have sf := disk_fail d m v (cutM D).1 hD.cut
  by_cases hoff : D.off = true
  . have e : flushM D = (D, 10) := by unfold flushM; rw [if_pos hoff]
    have ef : failsM D 0 = 10 := by unfold failsM; rw [if_pos hoff]
    rw [e]
    unfold dkC at sp ⊢
    refine Spec.enter Tryd.func39 rfl rfl ?_; intro w0
    repeat' (first | (show G _ (.ops .seq _ (⟨some _, .call { callee := .value (.func 33), args := _, argTypes := _ }, _, _, _, none⟩ :: _) :: _) _ _ _; refine G.call callFails rfl rfl (sp _) Ze ?_; rintro _ h2 H2 ⟨rfl, rfl⟩ hle2; rw [ef]) | (refine G.atCode ?_; first | refine G.seq ?_ | refine G.region ?_ | refine G.block ?_ | refine G.skip ?_ | refine G.exit rfl ?_ | refine G.ret ?_ | (refine G.cond rfl ?_ ?_ <;> intro hc <;> (try simp only [tests, reduceCtorEq] at hc) <;> (try exact Zf))) | refine G.endOps ?_ | refine G.endStill ?_ | refine G.endHeld ?_ | refine G.back ?_ | refine G.endBlk ?_ | (refine G.atGd ?_; first | refine G.guardYes rfl rfl ?_ | refine G.guardNoS rfl rfl rfl ?_ | refine G.guardU rfl rfl rfl ?_ | (refine G.guardS rfl rfl rfl ?_ ?_ <;> intro hc <;> (try simp only [tests, reduceCtorEq] at hc) <;> (try exact Zf)) | refine G.guardNo rfl rfl ?_ (by rintro i ⟨⟩; rfl) | (refine G.guard rfl rfl ?_ ?_ (by rintro i ⟨⟩; rfl) <;> intro hc <;> (try simp only [tests, reduceCtorEq] at hc) <;> (try exact Zf))) | (refine G.atBin ?_; first | (refine G.atNeq ?_; first | refine G.op rfl rfl ?_ | refine G.neStr0 rfl rfl rfl ?_ | refine G.neStr rfl rfl rfl ?_ | refine G.nePtr rfl rfl (tyy rfl) rfl ?_ | refine G.neBool rfl rfl (tyy rfl) rfl ?_) | refine G.op rfl rfl ?_ ) | refine G.op rfl rfl ?_ | (refine G.atLoad ?_; first | refine G.loadOwn1 rfl (tyy rfl) rfl rfl Za rfl rfl ?_ | refine G.loadOwnA rfl (tyy rfl) rfl rfl Za rfl rfl ?_ | refine G.loadImm1 rfl (tyy rfl) rfl rfl Zp rfl ?_ | refine G.loadImmA rfl (tyy rfl) rfl rfl Zp Zp rfl ?_ | refine G.loadRowS rfl (tyy rfl) Zp Za Zo rfl ?_ | (refine G.loadRowB rfl (tyy rfl) Zp Za Zo rfl ?_; intro _)) | (refine G.atFld ?_; first | refine G.fieldAddr rfl (tyy rfl) rfl rfl ?_ | refine G.fieldAddrP rfl (tyy rfl) rfl rfl ?_) | (refine G.atSto ?_; refine G.storeOwn rfl rfl (tyy rfl) Za rfl rfl rfl rfl ?_) | (refine G.atIdx ?_; first | (refine G.idxImmI rfl rfl (tyy rfl) (tyy rfl) Zl Zp Zj rfl Zo ?_; intro _ _ _) | (refine G.idxImmS rfl rfl (tyy rfl) (tyy rfl) Zl Zj rfl Zo ?_; intro _ _) | (refine G.idxImmB rfl rfl (tyy rfl) (tyy rfl) Zl Zj rfl Zo ?_; intro _ _ _) | (refine G.idxRow' rfl rfl (tyy rfl) (tyy rfl) Za Zj rfl Zo ?_; intro _ _) | (refine G.idxImmN rfl rfl (tyy rfl) (tyy rfl) Zl Zj rfl Zo ?_; intro _ _ _ _ _))  )
    exact G.done1 rfl rfl _ Zu ⟨rfl, rfl⟩
  . have ef : failsM D 0 = 0 \/ failsM D 0 = 2 := by
      unfold failsM
      rw [if_neg hoff]
      split
      . exact .inr rfl
      . exact .inl rfl
    by_cases hcut : (cutM D).2 = true
    . have e : flushM D = (failM (cutM D).1, 10) := by unfold flushM; rw [if_neg hoff, if_pos hcut]
      rw [e]
      unfold dkC at sp sc sf ⊢
      refine Spec.enter Tryd.func39 rfl rfl ?_; intro w0
      repeat' (first | (show G _ (.ops .seq _ (⟨some _, .call { callee := .value (.func 33), args := _, argTypes := _ }, _, _, _, none⟩ :: _) :: _) _ _ _; refine G.call callFails rfl rfl (sp _) Ze ?_; rintro _ h2 H2 ⟨rfl, rfl⟩ hle2) | (show G _ (.ops .seq _ (⟨some _, .call { callee := .value (.func 49), args := _, argTypes := _ }, _, _, _, none⟩ :: _) :: _) _ _ _; refine G.call callCutD rfl rfl (sc _) Ze ?_; rintro _ h4 H4 ⟨rfl, rfl⟩ hle4; rw [hcut]) | (show G _ (.ops .seq _ (⟨some _, .call { callee := .value (.func 50), args := _, argTypes := _ }, _, _, _, none⟩ :: _) :: _) _ _ _; refine G.call callFail5 rfl rfl (sf _) Ze ?_; rintro _ h5 H5 ⟨rfl, rfl⟩ hle5) | (refine G.atCode ?_; first | refine G.seq ?_ | refine G.region ?_ | refine G.block ?_ | refine G.skip ?_ | refine G.exit rfl ?_ | refine G.ret ?_ | (refine G.cond rfl ?_ ?_ <;> intro hc <;> (try simp only [tests, reduceCtorEq] at hc) <;> (try exact Zf))) | refine G.endOps ?_ | refine G.endStill ?_ | refine G.endHeld ?_ | refine G.back ?_ | refine G.endBlk ?_ | (refine G.atGd ?_; first | refine G.guardYes rfl rfl ?_ | refine G.guardNoS rfl rfl rfl ?_ | refine G.guardU rfl rfl rfl ?_ | (refine G.guardS rfl rfl rfl ?_ ?_ <;> intro hc <;> (try simp only [tests, reduceCtorEq] at hc) <;> (try exact Zf)) | refine G.guardNo rfl rfl ?_ (by rintro i ⟨⟩; rfl) | (refine G.guard rfl rfl ?_ ?_ (by rintro i ⟨⟩; rfl) <;> intro hc <;> (try simp only [tests, reduceCtorEq] at hc) <;> (try exact Zf))) | (refine G.atBin ?_; first | (refine G.atNeq ?_; first | refine G.op rfl rfl ?_ | refine G.neStr0 rfl rfl rfl ?_ | refine G.neStr rfl rfl rfl ?_ | refine G.nePtr rfl rfl (tyy rfl) rfl ?_ | refine G.neBool rfl rfl (tyy rfl) rfl ?_) | refine G.op rfl rfl ?_ ) | refine G.op rfl rfl ?_ | (refine G.atLoad ?_; first | refine G.loadOwn1 rfl (tyy rfl) rfl rfl Za rfl rfl ?_ | refine G.loadOwnA rfl (tyy rfl) rfl rfl Za rfl rfl ?_ | refine G.loadImm1 rfl (tyy rfl) rfl rfl Zp rfl ?_ | refine G.loadImmA rfl (tyy rfl) rfl rfl Zp Zp rfl ?_ | refine G.loadRowS rfl (tyy rfl) Zp Za Zo rfl ?_ | (refine G.loadRowB rfl (tyy rfl) Zp Za Zo rfl ?_; intro _)) | (refine G.atFld ?_; first | refine G.fieldAddr rfl (tyy rfl) rfl rfl ?_ | refine G.fieldAddrP rfl (tyy rfl) rfl rfl ?_) | (refine G.atSto ?_; refine G.storeOwn rfl rfl (tyy rfl) Za rfl rfl rfl rfl ?_) | (refine G.atIdx ?_; first | (refine G.idxImmI rfl rfl (tyy rfl) (tyy rfl) Zl Zp Zj rfl Zo ?_; intro _ _ _) | (refine G.idxImmS rfl rfl (tyy rfl) (tyy rfl) Zl Zj rfl Zo ?_; intro _ _) | (refine G.idxImmB rfl rfl (tyy rfl) (tyy rfl) Zl Zj rfl Zo ?_; intro _ _ _) | (refine G.idxRow' rfl rfl (tyy rfl) (tyy rfl) Za Zj rfl Zo ?_; intro _ _) | (refine G.idxImmN rfl rfl (tyy rfl) (tyy rfl) Zl Zj rfl Zo ?_; intro _ _ _ _ _))  )
      all_goals first | (exfalso; omega) | exact G.done1 rfl rfl _ Zu ⟨rfl, rfl⟩
    . have e : flushM D = (flushD (cutM D).1, 0) := by unfold flushM; rw [if_neg hoff, if_neg hcut]
      rw [e]
      have hcw : (cutM D).1.W = D.W /\ (cutM D).1.c = D.c /\ (cutM D).1.lasts = D.lasts := by unfold cutM; split <;> exact ⟨rfl, rfl, rfl⟩
      have hD1 := hD.cut
      have hW1 : (cutM D).1.Wk := ⟨by rw [hcw.1]; exact hW.k, by rw [hcw.1]; exact hW.b, by rw [hcw.1, hcw.2.1]; exact hW.bc, by rw [hcw.1, hcw.2.2]; exact hW.kr⟩
      have hcf : (cutM D).2 = false := by simpa using hcut
      clear hcw
      generalize (cutM D).1 = D1 at *
      have hn1 := hD1.n
      unfold dkC at sp sc ⊢
      refine Spec.enter Tryd.func39 rfl rfl ?_; intro w0
      repeat' (first | (show G _ (.ops .seq _ (⟨some _, .call { callee := .value (.func 33), args := _, argTypes := _ }, _, _, _, none⟩ :: _) :: _) _ _ _; refine G.call callFails rfl rfl (sp _) Ze ?_; rintro _ h2 H2 ⟨rfl, rfl⟩ hle2) | (show G _ (.ops .seq _ (⟨some _, .call { callee := .value (.func 49), args := _, argTypes := _ }, _, _, _, none⟩ :: _) :: _) _ _ _; refine G.call callCutD rfl rfl (sc _) Ze ?_; rintro _ h4 H4 ⟨rfl, rfl⟩ hle4; rw [hcf]) | (refine G.rangeMap rfl (tyy rfl) Za rfl ?_; intro r) | (refine G.atCode ?_; refine G.stopLoop ?_) | (refine G.atCode ?_; first | refine G.seq ?_ | refine G.region ?_ | refine G.block ?_ | refine G.skip ?_ | refine G.exit rfl ?_ | refine G.ret ?_ | (refine G.cond rfl ?_ ?_ <;> intro hc <;> (try simp only [tests, reduceCtorEq] at hc) <;> (try exact Zf))) | refine G.endOps ?_ | refine G.endStill ?_ | refine G.endHeld ?_ | refine G.back ?_ | refine G.endBlk ?_ | (refine G.atGd ?_; first | refine G.guardYes rfl rfl ?_ | refine G.guardNoS rfl rfl rfl ?_ | refine G.guardU rfl rfl rfl ?_ | (refine G.guardS rfl rfl rfl ?_ ?_ <;> intro hc <;> (try simp only [tests, reduceCtorEq] at hc) <;> (try exact Zf)) | refine G.guardNo rfl rfl ?_ (by rintro i ⟨⟩; rfl) | (refine G.guard rfl rfl ?_ ?_ (by rintro i ⟨⟩; rfl) <;> intro hc <;> (try simp only [tests, reduceCtorEq] at hc) <;> (try exact Zf))) | (refine G.atBin ?_; first | (refine G.atNeq ?_; first | refine G.op rfl rfl ?_ | refine G.neStr0 rfl rfl rfl ?_ | refine G.neStr rfl rfl rfl ?_ | refine G.nePtr rfl rfl (tyy rfl) rfl ?_ | refine G.neBool rfl rfl (tyy rfl) rfl ?_) | refine G.op rfl rfl ?_ ) | refine G.op rfl rfl ?_ | (refine G.atLoad ?_; first | refine G.loadOwn1 rfl (tyy rfl) rfl rfl Za rfl rfl ?_ | refine G.loadOwnA rfl (tyy rfl) rfl rfl Za rfl rfl ?_ | refine G.loadImm1 rfl (tyy rfl) rfl rfl Zp rfl ?_ | refine G.loadImmA rfl (tyy rfl) rfl rfl Zp Zp rfl ?_ | refine G.loadRowS rfl (tyy rfl) Zp Za Zo rfl ?_ | (refine G.loadRowB rfl (tyy rfl) Zp Za Zo rfl ?_; intro _)) | (refine G.atFld ?_; first | refine G.fieldAddr rfl (tyy rfl) rfl rfl ?_ | refine G.fieldAddrP rfl (tyy rfl) rfl rfl ?_) | (refine G.atSto ?_; refine G.storeOwn rfl rfl (tyy rfl) Za rfl rfl rfl rfl ?_) | (refine G.atIdx ?_; first | (refine G.idxImmI rfl rfl (tyy rfl) (tyy rfl) Zl Zp Zj rfl Zo ?_; intro _ _ _) | (refine G.idxImmS rfl rfl (tyy rfl) (tyy rfl) Zl Zj rfl Zo ?_; intro _ _) | (refine G.idxImmB rfl rfl (tyy rfl) (tyy rfl) Zl Zj rfl Zo ?_; intro _ _ _) | (refine G.idxRow' rfl rfl (tyy rfl) (tyy rfl) Za Zj rfl Zo ?_; intro _ _) | (refine G.idxImmN rfl rfl (tyy rfl) (tyy rfl) Zl Zj rfl Zo ?_; intro _ _ _ _ _))  )
      all_goals (
        refine G.go ?_
        refine G.loop (σ := Wl × Array Nat × List (List UInt8)) (fun _ => [(23, .pointer (some ⟨r, 0, none⟩)), (0, .pointer (some ⟨d, 0, none⟩))])
          (fun x => [.obj r (.mapIter (some m) D1.c x.2.1 D1.c), .blk d [v, .map (some m), .int .i64 D1.limit, .bool D1.off, .int .i64 D1.left, .int .u64 D1.loss.keep, .int .i64 D1.loss.torn, .int .i64 D1.loss.pos] 44, .row v 9 1 (strsR x.2.2), .obj m (mapO (wE x.1) D1.c)])
          (fun x _ => (x.1.map (·.1)).Nodup /\ (x.1.map (·.2.2)).Nodup /\ (∀ y ∈ x.1, y.2.2 < D1.c /\ 0 <= y.1 /\ y.1 < D1.lasts.length /\ x.2.1.contains y.2.2 = false) /\ x.2.2.length = D1.lasts.length /\ ∀ i, i < D1.lasts.length -> flushAt x.1 x.2.2 i = flushAt D1.W D1.lasts i)
          (fun x => x.1.length) ⟨D1.W, #[], D1.lasts⟩ ⟨rfl, rfl, trivial⟩ Zu ⟨hW1.k, hW1.b, fun y hy => ⟨hW1.bc y hy, (hW1.kr y hy).1, (hW1.kr y hy).2, by simp⟩, rfl, fun _ _ => rfl⟩ ?_
        rintro ⟨W, seen, L⟩ h5 hle5 ⟨i1, i2, i3, i4, i5⟩
        simp only at i1 i2 i3 i4 i5
        refine G.norm (by (try dsimp only) <;> exact rfl) (by (try dsimp only) <;> exact rfl) ?_
        have hbn : (wE W).map (·.2.2) = W.map (·.2.2) := by simp [wE]
        have hold : ∀ x ∈ wE W, x.2.2 < D1.c := fun x hx => by
          simp only [wE, List.mem_map] at hx
          obtain ⟨y, hy, rfl⟩ := hx
          exact (i3 y hy).1
        repeat' (first | (refine G.nextMap rfl Za Za rfl hold (Nat.le_refl _) ?_ ?_) | (refine G.stop0 ?_) | (refine G.atCode ?_; first | refine G.seq ?_ | refine G.region ?_ | refine G.block ?_ | refine G.skip ?_ | refine G.exit rfl ?_ | refine G.ret ?_ | (refine G.cond rfl ?_ ?_ <;> intro hc <;> (try simp only [tests, reduceCtorEq] at hc) <;> (try exact Zf))) | refine G.endOps ?_ | refine G.endStill ?_ | refine G.endHeld ?_ | refine G.back ?_ | refine G.endBlk ?_ | (refine G.atGd ?_; first | refine G.guardYes rfl rfl ?_ | refine G.guardNoS rfl rfl rfl ?_ | refine G.guardU rfl rfl rfl ?_ | (refine G.guardS rfl rfl rfl ?_ ?_ <;> intro hc <;> (try simp only [tests, reduceCtorEq] at hc) <;> (try exact Zf)) | refine G.guardNo rfl rfl ?_ (by rintro i ⟨⟩; rfl) | (refine G.guard rfl rfl ?_ ?_ (by rintro i ⟨⟩; rfl) <;> intro hc <;> (try simp only [tests, reduceCtorEq] at hc) <;> (try exact Zf))) | (refine G.atBin ?_; first | (refine G.atNeq ?_; first | refine G.op rfl rfl ?_ | refine G.neStr0 rfl rfl rfl ?_ | refine G.neStr rfl rfl rfl ?_ | refine G.nePtr rfl rfl (tyy rfl) rfl ?_ | refine G.neBool rfl rfl (tyy rfl) rfl ?_) | refine G.op rfl rfl ?_ ) | refine G.op rfl rfl ?_ | (refine G.atLoad ?_; first | refine G.loadOwn1 rfl (tyy rfl) rfl rfl Za rfl rfl ?_ | refine G.loadOwnA rfl (tyy rfl) rfl rfl Za rfl rfl ?_ | refine G.loadImm1 rfl (tyy rfl) rfl rfl Zp rfl ?_ | refine G.loadImmA rfl (tyy rfl) rfl rfl Zp Zp rfl ?_ | refine G.loadRowS rfl (tyy rfl) Zp Za Zo rfl ?_ | (refine G.loadRowB rfl (tyy rfl) Zp Za Zo rfl ?_; intro _)) | (refine G.atFld ?_; first | refine G.fieldAddr rfl (tyy rfl) rfl rfl ?_ | refine G.fieldAddrP rfl (tyy rfl) rfl rfl ?_) | (refine G.atSto ?_; refine G.storeOwn rfl rfl (tyy rfl) Za rfl rfl rfl rfl ?_) | (refine G.atIdx ?_; first | (refine G.idxImmI rfl rfl (tyy rfl) (tyy rfl) Zl Zp Zj rfl Zo ?_; intro _ _ _) | (refine G.idxImmS rfl rfl (tyy rfl) (tyy rfl) Zl Zj rfl Zo ?_; intro _ _) | (refine G.idxImmB rfl rfl (tyy rfl) (tyy rfl) Zl Zj rfl Zo ?_; intro _ _ _) | (refine G.idxRow' rfl rfl (tyy rfl) (tyy rfl) Za Zj rfl Zo ?_; intro _ _) | (refine G.idxImmN rfl rfl (tyy rfl) (tyy rfl) Zl Zj rfl Zo ?_; intro _ _ _ _ _))  )
        . intro hall
          have hW0 : W = [] := by
            cases W with
            | nil => rfl
            | cons x W =>
              exfalso
              have h1 := hall (x.1, str x.2.1, x.2.2) (by simp [wE])
              have h2 := (i3 x (by simp)).2.2.2
              rw [h2] at h1; cases h1
          subst hW0
          have hL : L = (List.range D1.lasts.length).map (flushAt D1.W D1.lasts) := all_at i4 (fun i hi => by have := i5 i hi; simpa [flushAt, wGet] using this)
          rw [hL]
          repeat' (first | (refine G.atCode ?_; first | refine G.seq ?_ | refine G.region ?_ | refine G.block ?_ | refine G.skip ?_ | refine G.exit rfl ?_ | refine G.ret ?_ | (refine G.cond rfl ?_ ?_ <;> intro hc <;> (try simp only [tests, reduceCtorEq] at hc) <;> (try exact Zf))) | refine G.endOps ?_ | refine G.endStill ?_ | refine G.endHeld ?_ | refine G.back ?_ | refine G.endBlk ?_ | (refine G.atGd ?_; first | refine G.guardYes rfl rfl ?_ | refine G.guardNoS rfl rfl rfl ?_ | refine G.guardU rfl rfl rfl ?_ | (refine G.guardS rfl rfl rfl ?_ ?_ <;> intro hc <;> (try simp only [tests, reduceCtorEq] at hc) <;> (try exact Zf)) | refine G.guardNo rfl rfl ?_ (by rintro i ⟨⟩; rfl) | (refine G.guard rfl rfl ?_ ?_ (by rintro i ⟨⟩; rfl) <;> intro hc <;> (try simp only [tests, reduceCtorEq] at hc) <;> (try exact Zf))) | (refine G.atBin ?_; first | (refine G.atNeq ?_; first | refine G.op rfl rfl ?_ | refine G.neStr0 rfl rfl rfl ?_ | refine G.neStr rfl rfl rfl ?_ | refine G.nePtr rfl rfl (tyy rfl) rfl ?_ | refine G.neBool rfl rfl (tyy rfl) rfl ?_) | refine G.op rfl rfl ?_ ) | refine G.op rfl rfl ?_ | (refine G.atLoad ?_; first | refine G.loadOwn1 rfl (tyy rfl) rfl rfl Za rfl rfl ?_ | refine G.loadOwnA rfl (tyy rfl) rfl rfl Za rfl rfl ?_ | refine G.loadImm1 rfl (tyy rfl) rfl rfl Zp rfl ?_ | refine G.loadImmA rfl (tyy rfl) rfl rfl Zp Zp rfl ?_ | refine G.loadRowS rfl (tyy rfl) Zp Za Zo rfl ?_ | (refine G.loadRowB rfl (tyy rfl) Zp Za Zo rfl ?_; intro _)) | (refine G.atFld ?_; first | refine G.fieldAddr rfl (tyy rfl) rfl rfl ?_ | refine G.fieldAddrP rfl (tyy rfl) rfl rfl ?_) | (refine G.atSto ?_; refine G.storeOwn rfl rfl (tyy rfl) Za rfl rfl rfl rfl ?_) | (refine G.atIdx ?_; first | (refine G.idxImmI rfl rfl (tyy rfl) (tyy rfl) Zl Zp Zj rfl Zo ?_; intro _ _ _) | (refine G.idxImmS rfl rfl (tyy rfl) (tyy rfl) Zl Zj rfl Zo ?_; intro _ _) | (refine G.idxImmB rfl rfl (tyy rfl) (tyy rfl) Zl Zj rfl Zo ?_; intro _ _ _) | (refine G.idxRow' rfl rfl (tyy rfl) (tyy rfl) Za Zj rfl Zo ?_; intro _ _) | (refine G.idxImmN rfl rfl (tyy rfl) (tyy rfl) Zl Zj rfl Zo ?_; intro _ _ _ _ _))  )
          exact G.done1 rfl rfl _ Zu ⟨rfl, rfl⟩
        . intro q v' b' hm hs
          obtain ⟨s, hm', rfl⟩ : ∃ s, (q, s, b') ∈ W /\ v' = str s := by
            simp only [wE, List.mem_map] at hm
            obtain ⟨y, hy, e9⟩ := hm
            injection e9 with e1 e2
            injection e2 with e2 e3
            subst e1 e2 e3
            exact ⟨y.2.1, hy, rfl⟩
          obtain ⟨_, hq1, hq2, _⟩ := i3 _ hm'
          simp only at hq1 hq2
          have hdl := wDel_len hm'
          repeat' (first | (refine G.entryMap rfl Za Za rfl hm (by rw [hbn]; exact i2) ?_) | (refine G.atIdx ?_; refine G.idxRow' rfl rfl (tyy rfl) (tyy rfl) Za Zj rfl (by rw [strsR_length, i4]; omega) ?_; intro _ _) | (refine G.atSto ?_; refine G.storeRow rfl rfl (tyy rfl) Zp Za rfl rfl rfl (by rw [strsR_length, i4]; omega) ?_; rw [strsR_put]) | (refine G.deleteMap rfl rfl rfl (tyy rfl) (tyy rfl) Za ?_; rw [wE_del]) | (refine G.atCode ?_; first | refine G.seq ?_ | refine G.region ?_ | refine G.block ?_ | refine G.skip ?_ | refine G.exit rfl ?_ | refine G.ret ?_ | (refine G.cond rfl ?_ ?_ <;> intro hc <;> (try simp only [tests, reduceCtorEq] at hc) <;> (try exact Zf))) | refine G.endOps ?_ | refine G.endStill ?_ | refine G.endHeld ?_ | refine G.back ?_ | refine G.endBlk ?_ | (refine G.atGd ?_; first | refine G.guardYes rfl rfl ?_ | refine G.guardNoS rfl rfl rfl ?_ | refine G.guardU rfl rfl rfl ?_ | (refine G.guardS rfl rfl rfl ?_ ?_ <;> intro hc <;> (try simp only [tests, reduceCtorEq] at hc) <;> (try exact Zf)) | refine G.guardNo rfl rfl ?_ (by rintro i ⟨⟩; rfl) | (refine G.guard rfl rfl ?_ ?_ (by rintro i ⟨⟩; rfl) <;> intro hc <;> (try simp only [tests, reduceCtorEq] at hc) <;> (try exact Zf))) | (refine G.atBin ?_; first | (refine G.atNeq ?_; first | refine G.op rfl rfl ?_ | refine G.neStr0 rfl rfl rfl ?_ | refine G.neStr rfl rfl rfl ?_ | refine G.nePtr rfl rfl (tyy rfl) rfl ?_ | refine G.neBool rfl rfl (tyy rfl) rfl ?_) | refine G.op rfl rfl ?_ ) | refine G.op rfl rfl ?_ | (refine G.atLoad ?_; first | refine G.loadOwn1 rfl (tyy rfl) rfl rfl Za rfl rfl ?_ | refine G.loadOwnA rfl (tyy rfl) rfl rfl Za rfl rfl ?_ | refine G.loadImm1 rfl (tyy rfl) rfl rfl Zp rfl ?_ | refine G.loadImmA rfl (tyy rfl) rfl rfl Zp Zp rfl ?_ | refine G.loadRowS rfl (tyy rfl) Zp Za Zo rfl ?_ | (refine G.loadRowB rfl (tyy rfl) Zp Za Zo rfl ?_; intro _)) | (refine G.atFld ?_; first | refine G.fieldAddr rfl (tyy rfl) rfl rfl ?_ | refine G.fieldAddrP rfl (tyy rfl) rfl rfl ?_) | (refine G.atSto ?_; refine G.storeOwn rfl rfl (tyy rfl) Za rfl rfl rfl rfl ?_) | (refine G.atIdx ?_; first | (refine G.idxImmI rfl rfl (tyy rfl) (tyy rfl) Zl Zp Zj rfl Zo ?_; intro _ _ _) | (refine G.idxImmS rfl rfl (tyy rfl) (tyy rfl) Zl Zj rfl Zo ?_; intro _ _) | (refine G.idxImmB rfl rfl (tyy rfl) (tyy rfl) Zl Zj rfl Zo ?_; intro _ _ _) | (refine G.idxRow' rfl rfl (tyy rfl) (tyy rfl) Za Zj rfl Zo ?_; intro _ _) | (refine G.idxImmN rfl rfl (tyy rfl) (tyy rfl) Zl Zj rfl Zo ?_; intro _ _ _ _ _))  )
          refine G.again ⟨wDel q W, seen.push b', L.set q.toNat s⟩ ⟨rfl, rfl, trivial⟩ Zu ⟨i1.sublist ((wDel_sub q W).map _), i2.sublist ((wDel_sub q W).map _), fun y hy => ?_, by simp only [List.length_set]; exact i4, fun i hi => ?_⟩ (Heap.le_refl _) (by simp only; omega)
          . have hyW := (wDel_sub q W).subset hy
            obtain ⟨j1, j2, j3, j4⟩ := i3 y hyW
            refine ⟨j1, j2, j3, ?_⟩
            have hne := wDel_ne i1 y hy
            have hb9 : y.2.2 ≠ b' := born_ne i2 hyW hm' (fun e9 => hne (by rw [e9]))
            simp only [Array.contains_push, j4, Bool.false_or]
            simpa using hb9
          . rw [<- i5 i hi]
            unfold flushAt
            rw [wDel_get _ i1]
            by_cases hiq : ((i : Nat) : Int) = q
            . rw [if_pos hiq, hiq, wGet_mem i1 hm']
              have : q.toNat = i := by omega
              rw [this]
              simp [strAt_set_eq (show i < L.length by omega)]
            . rw [if_neg hiq, strAt_set_ne (by omega)])
end Go.Proofs.YtmbpjgjajedonaaDoor
