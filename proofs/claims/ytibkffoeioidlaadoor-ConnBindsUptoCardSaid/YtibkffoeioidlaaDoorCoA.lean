/- The plain law of package feed: what a buffer tells, whatever the parts are. No program in sight. -/
import Derived.Test.YtibkffoeioidlaaDoorFeed
import Derived.Test.YtibkffoeioidlaaDoorWrO
import Derived.Test.YtibkffoeioidlaaDoorWrZ
namespace Go.Proofs.YtibkffoeioidlaaDoor
set_option linter.all false
set_option maxRecDepth 4000

theorem byteAt_append {s t : List UInt8} {i : Nat} (h : i < s.length) : byteAt (s ++ t) i = byteAt s i := by
  simp [byteAt, List.getElem?_append_left h]

theorem getOk_mono {s t : List UInt8} {a n : Int} (h : getOk s a n = true) : getOk (s ++ t) a n = true := by
  unfold getOk at *
  simp only [decide_eq_true_eq, List.length_append] at *
  omega
theorem getV_append {s t : List UInt8} {a n : Int} (h : getOk s a n = true) : getV (s ++ t) a n = getV s a n := by
  unfold getV
  rw [if_pos h, if_pos (getOk_mono h)]
  unfold getOk at h
  simp only [decide_eq_true_eq] at h
  congr 1
  rw [List.drop_append_of_le_length (by omega), List.take_append_of_le_length (by simp; omega)]

theorem cutM_app_msg {s t : List UInt8} {n : Int} (h : cutM s = (n, 0)) (hn : 0 < n) : cutM (s ++ t) = (n, 0) := by
  have hb := byteAt_lt s 1
  unfold cutM at h
  simp only at h
  split at h
  . simp at h; omega
  . rename_i h0
    split at h
    . simp at h
    . rename_i h1
      split at h
      . simp at h; omega
      . rename_i h2
        have e0 : byteAt (s ++ t) 0 = byteAt s 0 := byteAt_append (by omega)
        have e1 : byteAt (s ++ t) 1 = byteAt s 1 := byteAt_append (by omega)
        have el : (s ++ t).length = s.length + t.length := List.length_append
        unfold cutM
        simp only [e0, e1, el]
        rw [if_neg (by omega), if_neg h1, if_neg (by omega)]
        split at h
        . rename_i h3
          rw [if_pos h3]
          split at h
          . simp at h; omega
          . simp only [Prod.mk.injEq, and_true] at h
            rw [if_neg (by omega), h]
        . rename_i h3
          rw [if_neg h3]
          split at h
          . simp at h
          . rename_i h4
            rw [if_neg h4]
            split at h
            . simp at h; omega
            . rename_i h5
              have h5' : getOk s 2 (↑(byteAt s 1) - 128) = true := by simpa using h5
              rw [getOk_mono h5', getV_append h5']
              split at h
              . simp at h
              . rename_i h6
                rw [if_neg (by simp), if_neg h6]
                split at h
                . simp at h; omega
                . simp only [Prod.mk.injEq, and_true] at h
                  rw [if_neg (by omega), h]

theorem cutM_app_err {s t : List UInt8} {n e : Int} (h : cutM s = (n, e)) (he : e ≠ 0) : cutM (s ++ t) = (n, e) := by
  have hb := byteAt_lt s 1
  unfold cutM at h
  simp only at h
  split at h
  . simp at h; omega
  . rename_i h0
    have e0 : byteAt (s ++ t) 0 = byteAt s 0 := byteAt_append (by omega)
    have el : (s ++ t).length = s.length + t.length := List.length_append
    unfold cutM
    simp only [e0, el]
    rw [if_neg (by omega)]
    split at h
    . rename_i h1; rw [if_pos h1, h]
    . rename_i h1
      rw [if_neg h1]
      split at h
      . simp at h; omega
      . rename_i h2
        have e1 : byteAt (s ++ t) 1 = byteAt s 1 := byteAt_append (by omega)
        simp only [e1]
        rw [if_neg (by omega)]
        split at h
        . split at h <;> (simp at h; omega)
        . rename_i h3
          rw [if_neg h3]
          split at h
          . rename_i h4; rw [if_pos h4, h]
          . rename_i h4
            rw [if_neg h4]
            split at h
            . simp at h; omega
            . rename_i h5
              have h5' : getOk s 2 (↑(byteAt s 1) - 128) = true := by simpa using h5
              rw [getOk_mono h5', getV_append h5', if_neg (by simp)]
              split at h
              . rename_i h6; rw [if_pos h6, h]
              . split at h <;> (simp at h; omega)

def allM : Nat -> List UInt8 -> List (List UInt8) × Int × List UInt8
  | 0, s => ([], 0, s)
  | f + 1, s =>
    if (cutM s).2 ≠ 0 then ([], (cutM s).2, []) else
    if (cutM s).1 = 0 then ([], 0, s) else
    let r := allM f (s.drop (cutM s).1.toNat)
    (s.take (cutM s).1.toNat :: r.1, r.2)
def allS (s : List UInt8) : List (List UInt8) × Int × List UInt8 := allM s.length s

theorem allM_fuel : ∀ (f g : Nat) (s : List UInt8), s.length <= f -> s.length <= g -> allM f s = allM g s
  | 0, 0, _, _, _ => rfl
  | 0, g + 1, s, hf, _ => by
    have : s = [] := List.eq_nil_of_length_eq_zero (by omega)
    subst this; simp [allM, cutM]
  | f + 1, 0, s, _, hg => by
    have : s = [] := List.eq_nil_of_length_eq_zero (by omega)
    subst this; simp [allM, cutM]
  | f + 1, g + 1, s, hf, hg => by
    simp only [allM]
    split
    . rfl
    . split
      . rfl
      . rename_i h1 h2
        have hr := cutM_range s
        have := allM_fuel f g (s.drop (cutM s).1.toNat) (by simp; omega) (by simp; omega)
        rw [this]

theorem allS_eq (s : List UInt8) : allS s = if (cutM s).2 ≠ 0 then ([], (cutM s).2, []) else if (cutM s).1 = 0 then ([], 0, s) else
    (s.take (cutM s).1.toNat :: (allS (s.drop (cutM s).1.toNat)).1, (allS (s.drop (cutM s).1.toNat)).2) := by
  unfold allS
  cases hl : s.length with
  | zero =>
    have : s = [] := List.eq_nil_of_length_eq_zero hl
    subst this; simp [allM, cutM]
  | succ n =>
    simp only [allM]
    split
    . rfl
    . split
      . rfl
      . rename_i h1 h2
        have hr := cutM_range s
        rw [allM_fuel n (s.drop (cutM s).1.toNat).length _ (by simp; omega) (Nat.le_refl _)]

theorem allS_append : ∀ (n : Nat) (a b : List UInt8), a.length <= n -> allS (a ++ b) =
    if (allS a).2.1 ≠ 0 then ((allS a).1, (allS a).2.1, []) else ((allS a).1 ++ (allS ((allS a).2.2 ++ b)).1, (allS ((allS a).2.2 ++ b)).2)
  | 0, a, b, hn => by
    have : a = [] := List.eq_nil_of_length_eq_zero (by omega)
    subst this
    simp [show allS [] = ([], 0, []) from rfl]
  | n + 1, a, b, hn => by
    have hr := cutM_range a
    rw [allS_eq a]
    by_cases h1 : (cutM a).2 ≠ 0
    . have h2 : cutM (a ++ b) = cutM a := cutM_app_err (s := a) (t := b) (n := (cutM a).1) (e := (cutM a).2) rfl h1
      rw [allS_eq (a ++ b), h2, if_pos h1, if_pos h1]
      simp [h1]
    . rw [if_neg h1]
      by_cases h2 : (cutM a).1 = 0
      . rw [if_pos h2]
        simp
      . rw [if_neg h2]
        have h1' : (cutM a).2 = 0 := by simpa using h1
        have h3 : cutM (a ++ b) = cutM a := by
          have := cutM_app_msg (s := a) (t := b) (n := (cutM a).1) (by rw [<- h1']) (by omega)
          rw [this, ← h1']
        rw [allS_eq (a ++ b), h3, if_neg h1, if_neg h2]
        have h4 : (a ++ b).take (cutM a).1.toNat = a.take (cutM a).1.toNat := List.take_append_of_le_length (by omega)
        have h5 : (a ++ b).drop (cutM a).1.toNat = a.drop (cutM a).1.toNat ++ b := List.drop_append_of_le_length (by omega)
        rw [h4, h5, allS_append n (a.drop (cutM a).1.toNat) b (by simp; omega)]
        simp only
        split
        . rfl
        . simp

abbrev B8 := List UInt8 × Int
def addB (b : B8) (p : List UInt8) : B8 := if b.2 = 0 then (b.1 ++ p, 0) else b
def allB (b : B8) : List (List UInt8) × B8 := if b.2 = 0 then ((allS b.1).1, ((allS b.1).2.2, (allS b.1).2.1)) else ([], ([], b.2))

def Told (a : List UInt8) (m : List (List UInt8)) (b : B8) : Prop :=
  ∀ t, allS (a ++ t) = if b.2 = 0 then (m ++ (allS (b.1 ++ t)).1, (allS (b.1 ++ t)).2) else (m, b.2, [])
theorem Told.start : Told [] [] ([], 0) := fun t => by simp
theorem Told.add {a : List UInt8} {m : List (List UInt8)} {b : B8} (h : Told a m b) (p : List UInt8) : Told (a ++ p) m (addB b p) := fun t => by
  rw [List.append_assoc, h (p ++ t)]
  unfold addB
  by_cases hb : b.2 = 0
  . simp [hb]
  . simp [hb]
theorem Told.all {a : List UInt8} {m : List (List UInt8)} {b : B8} (h : Told a m b) : Told a (m ++ (allB b).1) (allB b).2 := fun t => by
  rw [h t]
  unfold allB
  by_cases hb : b.2 = 0
  . rw [if_pos hb, if_pos hb, allS_append b.1.length b.1 t (Nat.le_refl _)]
    simp only
    by_cases he : (allS b.1).2.1 = 0
    . rw [if_neg (by simpa using he), if_pos he, List.append_assoc]
    . rw [if_pos he, if_neg he]
  . rw [if_neg hb, if_neg hb]
    simp [hb]
theorem Told.whole {s : List UInt8} {m : List (List UInt8)} {b : B8} (h : Told s m b) : (allS s).1 = m ++ (allB b).1 /\ (allS s).2.1 = (allB b).2.2 /\ (allS s).2.2 = (allB b).2.1 := by
  have := h.all []
  rw [List.append_nil] at this
  have h2 := h []
  rw [List.append_nil] at h2
  unfold allB
  by_cases hb : b.2 = 0
  . rw [if_pos hb] at h2
    rw [if_pos hb]
    simp only [List.append_nil] at h2
    rw [h2]
    exact ⟨rfl, rfl, rfl⟩
  . rw [if_neg hb] at h2
    rw [if_neg hb]
    rw [h2]
    simp
end Go.Proofs.YtibkffoeioidlaaDoor
namespace Go.Proofs.YtibkffoeioidlaaDoor
set_option linter.all false
set_option maxRecDepth 4000
open Go.RowKit

theorem callCnNew : Callable Tryd.prog 14 := ⟨_, Tryd.func14, by kernel_rfl, rfl⟩
theorem callCnClosed : Callable Tryd.prog 17 := ⟨_, Tryd.func17, by kernel_rfl, rfl⟩
theorem callCnClose : Callable Tryd.prog 22 := ⟨_, Tryd.func22, by kernel_rfl, rfl⟩
theorem callCnFeed : Callable Tryd.prog 15 := ⟨_, Tryd.func15, by kernel_rfl, rfl⟩
theorem callRequest : Callable Tryd.prog 35 := ⟨_, Tryd.func35, by kernel_rfl, rfl⟩
def reqM (op : Int) : Bool := decide (op = 0 \/ op = 2 \/ op = 3 \/ op = 6 \/ op = 8 \/ op = 10 \/ op = 12 \/ op = 14 \/ op = 16 \/ op = 23)
structure Cn where
  out : List Ms
  bad : Bool
  closed : Bool
  rest : Bs
  err : Int
def cnOne (s : Bs) : Except Bool Ms := match readM s with
  | .error _ => .error true
  | .ok m => if m.id = 0 \/ reqM m.op = false then .error true else if m.op = 2 then .error false else .ok m
def connM : Nat -> Bs -> Cn
  | 0, s => ⟨[], false, false, s, 0⟩
  | f + 1, s =>
    if (cutM s).2 ≠ 0 then ⟨[], true, true, [], (cutM s).2⟩ else
    if (cutM s).1 = 0 then ⟨[], false, false, s, 0⟩ else
    match cnOne (s.take (cutM s).1.toNat) with
    | .error b => ⟨[], b, true, s.drop (cutM s).1.toNat, 0⟩
    | .ok m => { connM f (s.drop (cutM s).1.toNat) with out := m :: (connM f (s.drop (cutM s).1.toNat)).out }
def connS (s : Bs) : Cn := connM (s.length + 1) s
theorem connM_fuel : ∀ (f g : Nat) (s : Bs), s.length < f -> s.length < g -> connM f s = connM g s
  | 0, _, s, hf, _ => by omega
  | f + 1, 0, s, _, hg => by omega
  | f + 1, g + 1, s, hf, hg => by
    have hr := cutM_range s
    rw [connM, connM]
    by_cases h1 : (cutM s).2 ≠ 0
    . rw [if_pos h1, if_pos h1]
    . rw [if_neg h1, if_neg h1]
      by_cases h2 : (cutM s).1 = 0
      . rw [if_pos h2, if_pos h2]
      . rw [if_neg h2, if_neg h2]
        rw [connM_fuel f g (s.drop (cutM s).1.toNat) (by rw [List.length_drop]; omega) (by rw [List.length_drop]; omega)]
theorem connS_err {s : Bs} (h : (cutM s).2 ≠ 0) : connS s = ⟨[], true, true, [], (cutM s).2⟩ := by
  unfold connS
  rw [connM, if_pos h]
theorem connS_none {s : Bs} (h : (cutM s).2 = 0) (h0 : (cutM s).1 = 0) : connS s = ⟨[], false, false, s, 0⟩ := by
  unfold connS
  rw [connM, if_neg (by omega), if_pos h0]
theorem connS_stop {s : Bs} (h : (cutM s).2 = 0) (h0 : (cutM s).1 ≠ 0) {b : Bool} (ho : cnOne (s.take (cutM s).1.toNat) = .error b) : connS s = ⟨[], b, true, s.drop (cutM s).1.toNat, 0⟩ := by
  unfold connS
  rw [connM, if_neg (by omega), if_neg h0, ho]
theorem connS_msg {s : Bs} (h : (cutM s).2 = 0) (h0 : (cutM s).1 ≠ 0) {m : Ms} (ho : cnOne (s.take (cutM s).1.toNat) = .ok m) : connS s = { connS (s.drop (cutM s).1.toNat) with out := m :: (connS (s.drop (cutM s).1.toNat)).out } := by
  have hr := cutM_range s
  have hf : connM s.length (s.drop (cutM s).1.toNat) = connS (s.drop (cutM s).1.toNat) := connM_fuel _ _ _ (by rw [List.length_drop]; omega) (by omega)
  rw [<- hf]
  conv => lhs; unfold connS
  rw [connM, if_neg (by omega), if_neg h0, ho]
abbrev CnH (gc gb : Nat) (wv : Value) (s : Bs) (e : Int) (closed : Bool) : List Chunk := [.blk gc [wv, .pointer (some ⟨gb, 0, none⟩), .bool closed] 79, .blk gb [str s, .int .i64 e] 125]
theorem conn_New (h : Heap) : Spec Tryd.prog 14 [] h [] (fun u _ H' => ∃ gc gb, u = .pointer (some ⟨gc, 0, none⟩) /\ H' = CnH gc gb (.slice none 0 0) [] 0 false) := by
  refine Spec.enter Tryd.func14 rfl rfl ?_; intro w0
  repeat' (first | (show G _ (.ops .seq _ (⟨some _, .call { callee := .value (.func 29), args := _, argTypes := _ }, _, _, _, none⟩ :: _) :: _) _ _ _; refine G.call callNew rfl rfl (feed_New _) (by solve | repeat first | apply Zn | apply Zh | apply Zt | apply Zc) ?_; rintro _ h1 H1 ⟨g, rfl, rfl⟩ hle) | (refine G.atCode ?_; first | refine G.seq ?_ | refine G.region ?_ | refine G.ret ?_) | refine G.endOps ?_ | refine G.op rfl rfl ?_ | (refine G.atBox ?_; refine G.box rfl rfl rfl ?_; intro _) | (refine G.atBld ?_; refine G.build (tyy rfl) rfl rfl rfl ?_))
  all_goals exact G.done1 rfl rfl _ (by solve | repeat first | apply Zm | apply Zh | apply Zt | apply Zk) ⟨_, _, rfl, rfl⟩
theorem conn_Closed (gc : Nat) (wv pv : Value) (b : Bool) (h : Heap) : Spec Tryd.prog 17 [.pointer (some ⟨gc, 0, none⟩)] h [.blk gc [wv, pv, .bool b] 79] (fun u _ H' => u = .bool b /\ H' = [.blk gc [wv, pv, .bool b] 79]) := by
  refine Spec.enter Tryd.func17 rfl rfl ?_; intro w0
  repeat' (first | (refine G.atCode ?_; first | refine G.seq ?_ | refine G.region ?_ | refine G.ret ?_) | refine G.endOps ?_ | (refine G.atGd ?_; first | refine G.guardYes rfl rfl ?_) | (refine G.atBin ?_; first | (refine G.atEql ?_; first | refine G.eqPtr rfl rfl (tyy rfl) rfl ?_)) | refine G.op rfl rfl ?_ | (refine G.atLoad ?_; first | refine G.loadOwn1 rfl (tyy rfl) rfl rfl (by solve | repeat first | apply Zh | apply Zt) rfl rfl ?_) | (refine G.atFld ?_; first | refine G.fieldAddr rfl (tyy rfl) rfl rfl ?_))
  all_goals first | (exfalso; simp_all; done) | exact G.done1 rfl rfl _ (by solve | repeat first | apply Zm | apply Zh | apply Zt | apply Zk) ⟨rfl, rfl⟩
theorem conn_Close (gc : Nat) (wv pv : Value) (b : Bool) (h : Heap) : Spec Tryd.prog 22 [.pointer (some ⟨gc, 0, none⟩)] h [.blk gc [wv, pv, .bool b] 79] (fun u _ H' => u = .tuple #[] /\ H' = [.blk gc [wv, pv, .bool true] 79]) := by
  refine Spec.enter Tryd.func22 rfl rfl ?_; intro w0
  repeat' (first | (refine G.atCode ?_; first | refine G.seq ?_ | refine G.region ?_ | (refine G.cond rfl ?_ ?_ <;> intro hc <;> (try simp only [tests, reduceCtorEq] at hc) <;> (try (exfalso; first | omega | exact Zx hc | exact Zy hc | exact Zb hc | exact hc | exact hc trivial)))) | refine G.endOps ?_ | (refine G.atBin ?_; first | (refine G.atNeq ?_; first | refine G.nePtr rfl rfl (tyy rfl) rfl ?_)) | refine G.op rfl rfl ?_ | (refine G.atFld ?_; first | refine G.fieldAddr rfl (tyy rfl) rfl rfl ?_) | (refine G.atSto ?_; refine G.storeOwn rfl rfl (tyy rfl) (by solve | repeat first | apply Zh | apply Zt) rfl rfl rfl rfl ?_))
  all_goals first | (exfalso; simp_all; done) | exact G.done (rs := []) rfl .nil rfl _ (by solve | repeat first | apply Zm | apply Zh | apply Zt | apply Zk) ⟨rfl, rfl⟩
theorem conn_Request (op : Int) (h : Heap) : Spec Tryd.prog 35 [.int .i64 op] h [] (fun u _ H' => u = .bool (reqM op) /\ H' = []) := by
  refine Spec.enter Tryd.func35 rfl rfl ?_; intro w0
  repeat' (first | (refine G.atCode ?_; first | refine G.seq ?_ | refine G.region ?_ | refine G.block ?_ | refine G.skip ?_ | refine G.ret ?_ | (refine G.cond rfl ?_ ?_ <;> intro hc <;> (try simp only [tests, reduceCtorEq] at hc) <;> (try (exfalso; first | omega | exact Zx hc | exact Zy hc | exact Zb hc | exact hc | exact hc trivial)))) | refine G.endOps ?_ | refine G.endBlk ?_ | (refine G.atBin ?_; first | (refine G.atEql ?_; first | refine G.op rfl rfl ?_)) | refine G.op rfl rfl ?_)
  all_goals first | (exfalso; omega) | exact G.done1 rfl rfl [] (SubH.nil _) ⟨congrArg Value.bool (decide_eq_true (by omega)).symm, rfl⟩ | exact G.done1 rfl rfl [] (SubH.nil _) ⟨congrArg Value.bool (decide_eq_false (by omega)).symm, rfl⟩
end Go.Proofs.YtibkffoeioidlaaDoor
