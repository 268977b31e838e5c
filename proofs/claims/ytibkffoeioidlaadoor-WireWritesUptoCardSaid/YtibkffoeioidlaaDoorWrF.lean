/- wire: parts that are read one by one: next, text, within, bounded, number, truth, maybe, end. -/
import Derived.Test.YtibkffoeioidlaaDoorWrC
import Derived.Test.YtibkffoeioidlaaDoorTlvB
import Derived.Test.YtibkffoeioidlaaDoorLtQ
import Derived.Test.YtibkffoeioidlaaDoorWrT
namespace Go.Proofs.YtibkffoeioidlaaDoor
set_option linter.all false
set_option maxRecDepth 4000
open Go.RowKit

theorem callNextW : Callable Tryd.prog 87 := ⟨_, Tryd.func87, by kernel_rfl, rfl⟩
theorem callTextW : Callable Tryd.prog 91 := ⟨_, Tryd.func91, by kernel_rfl, rfl⟩
theorem callWithin : Callable Tryd.prog 60 := ⟨_, Tryd.func60, by kernel_rfl, rfl⟩
theorem callBounded : Callable Tryd.prog 88 := ⟨_, Tryd.func88, by kernel_rfl, rfl⟩
theorem callNumberP : Callable Tryd.prog 61 := ⟨_, Tryd.func61, by kernel_rfl, rfl⟩
theorem callTruthP : Callable Tryd.prog 94 := ⟨_, Tryd.func94, by kernel_rfl, rfl⟩
theorem callMaybe : Callable Tryd.prog 95 := ⟨_, Tryd.func95, by kernel_rfl, rfl⟩
theorem callEnd : Callable Tryd.prog 93 := ⟨_, Tryd.func93, by kernel_rfl, rfl⟩
theorem callNumberT : Callable Tryd.prog 106 := ⟨_, Tryd.func106, by kernel_rfl, rfl⟩
theorem callBoolT : Callable Tryd.prog 108 := ⟨_, Tryd.func108, by kernel_rfl, rfl⟩
def KsC (h : Heap) (ks : List Nd) (v : Value) : Prop := ∃ rows, HSl h v 3 rows /\ KidsC h ks rows
theorem KsC.mono {h h' : Heap} {ks : List Nd} {v : Value} (s : KsC h ks v) (hl : Heap.le h h') : KsC h' ks v := by
  obtain ⟨rows, h1, h2⟩ := s
  exact ⟨rows, h1.mono hl, h2.mono' hl⟩
theorem KsC.form {h : Heap} {ks : List Nd} {v : Value} (s : KsC h ks v) : ∃ A c, v = .slice A ks.length c /\ ks.length <= c /\ ks.length <= 9223372036854775807 := by
  obtain ⟨rows, h1, h2⟩ := s
  obtain ⟨A, c, e, h3, h4, _⟩ := h1.form
  rw [h2.len] at e h3
  simp only [maxLen] at h4
  exact ⟨A, c, e, h3, by omega⟩
theorem KsC.nil (h : Heap) : KsC h [] (.slice none 0 0) := ⟨[], HSl.nil h 3, by simp only [KidsC]⟩
theorem NodeC.ks {h : Heap} {n : Nd} {r : List Value} (hn : NodeC h n r) : ∃ v, r = [.int .i64 n.tag, str n.data, v] /\ KsC h n.kids v := by
  cases n with
  | mk t d ks =>
    obtain ⟨v, rows, rfl, h1, h2⟩ := hn.open_
    exact ⟨v, rfl, rows, h1, h2⟩
theorem KsC.node {h : Heap} {n : Nd} {v : Value} (s : KsC h n.kids v) : NodeC h n [.int .i64 n.tag, str n.data, v] := by
  cases n with
  | mk t d ks =>
    obtain ⟨rows, h1, h2⟩ := s
    exact NodeC.mk_ h1 h2
def PtC (h : Heap) (s : PS) (v : Value) (bad : Bool) : Prop := match s with
  | none => bad = true /\ ∃ l, KsC h l v
  | some l => bad = false /\ KsC h l v
theorem PtC.mono {h h' : Heap} {s : PS} {v : Value} {bad : Bool} (p : PtC h s v bad) (hl : Heap.le h h') : PtC h' s v bad := by
  match s, p with
  | none, ⟨e, l, h1⟩ => exact ⟨e, l, h1.mono hl⟩
  | some l, ⟨e, h1⟩ => exact ⟨e, h1.mono hl⟩
abbrev prt (g : Nat) (v : Value) (bad : Bool) : Chunk := .blk g [v, .bool bad] 114
def NxR (g : Nat) (t : Int) (s : PS) (u : Value) (h' : Heap) (H' : List Chunk) : Prop := ∃ (v' : Value) (bad' : Bool) (A : Option Addr) (c : Nat), H' = [prt g v' bad'] /\ PtC h' (nxt t s) v' bad' /\ u = .agg #[.int .i64 (nxN t s).tag, str (nxN t s).data, .slice A (nxN t s).kids.length c] /\ KsC h' (nxN t s).kids (.slice A (nxN t s).kids.length c)
set_option maxHeartbeats 1000000 in
theorem wire_next (g : Nat) (t : Int) (s : PS) (v : Value) (bad : Bool) (h : Heap) (hp : PtC h s v bad) :
    Spec Tryd.prog 87 [.pointer (some ⟨g, 0, none⟩), .int .i64 t] h [prt g v bad] (fun u h' H' => NxR g t s u h' H') := by
  match s, hp with
  | none, ⟨e, l, hk⟩ =>
    subst e
    obtain ⟨A, c, rfl, _, hm⟩ := hk.form
    refine Spec.enter Tryd.func87 rfl rfl ?_; intro w0
    repeat' (first | (refine G.atCode ?_; first | refine G.seq ?_ | refine G.region ?_ | refine G.ret ?_ | (refine G.cond rfl ?_ ?_ <;> intro hc <;> (try simp only [tests, reduceCtorEq] at hc) <;> (try exact Zf))) | refine G.endOps ?_ | (refine G.atGd ?_; first | refine G.guardNoS rfl rfl rfl ?_) | refine G.op rfl rfl ?_ | (refine G.atLoad ?_; first | refine G.loadOwn1 rfl (tyy rfl) rfl rfl Za rfl rfl ?_) | (refine G.atFld ?_; first | refine G.fieldAddr rfl (tyy rfl) rfl rfl ?_) | (refine G.atSto ?_; refine G.storeOwn rfl rfl (tyy rfl) Za rfl rfl rfl rfl ?_) | (refine G.atAlc ?_; refine G.alloc (tyy rfl) rfl rfl ?_; intro _) | (refine G.atBld ?_; refine G.build (tyy rfl) rfl rfl rfl ?_))
    all_goals first | (exfalso; omega) | exact G.done (rs := [.cell 4 90]) rfl (.cellA rfl (tyy rfl) rfl rfl Za rfl .nil) rfl [prt g _ true] Zu ⟨_, _, _, _, rfl, ⟨rfl, l, hk⟩, rfl, KsC.nil _⟩ | skip
  | some [], ⟨e, hk⟩ =>
    subst e
    obtain ⟨A, c, rfl, _, hm⟩ := hk.form
    simp only [List.length_nil] at *
    refine Spec.enter Tryd.func87 rfl rfl ?_; intro w0
    repeat' (first | (refine G.atCode ?_; first | refine G.seq ?_ | refine G.region ?_ | refine G.ret ?_ | (refine G.cond rfl ?_ ?_ <;> intro hc <;> (try simp only [tests, reduceCtorEq] at hc) <;> (try exact Zf))) | refine G.endOps ?_ | (refine G.atGd ?_; first | refine G.guardYes rfl rfl ?_ | refine G.guardNoS rfl rfl rfl ?_) | (refine G.atBin ?_; first | (refine G.atEql ?_; first | refine G.op rfl rfl ?_)) | refine G.op rfl rfl ?_ | (refine G.atLen ?_; first | refine G.lenSlice rfl (tyy rfl) rfl ?_) | (refine G.atLoad ?_; first | refine G.loadOwn1 rfl (tyy rfl) rfl rfl Za rfl rfl ?_) | (refine G.atFld ?_; first | refine G.fieldAddr rfl (tyy rfl) rfl rfl ?_) | (refine G.atSto ?_; refine G.storeOwn rfl rfl (tyy rfl) Za rfl rfl rfl rfl ?_) | (refine G.atAlc ?_; refine G.alloc (tyy rfl) rfl rfl ?_; intro _) | (refine G.atBld ?_; refine G.build (tyy rfl) rfl rfl rfl ?_))
    all_goals first | (exfalso; omega) | exact G.done (rs := [.cell 4 90]) rfl (.cellA rfl (tyy rfl) rfl rfl Za rfl .nil) rfl [prt g _ true] Zu ⟨_, _, _, _, rfl, ⟨rfl, [], hk⟩, rfl, KsC.nil _⟩ | skip
  | some (n :: l), ⟨e, hk⟩ =>
    subst e
    obtain ⟨A, c, rfl, hc, hm⟩ := hk.form
    have hk0 := hk
    obtain ⟨rows, hs, hr⟩ := hk
    have hrl := hr.len
    simp only [KidsC] at hr
    obtain ⟨r, rs, rfl, hn, hrs⟩ := hr
    have hn0 := hn
    obtain ⟨kv, rfl, hkv⟩ := hn.ks
    obtain ⟨A2, c2, rfl, _, _⟩ := hkv.form
    have hl3 : ([.int .i64 n.tag, str n.data, .slice A2 n.kids.length c2] : List Value).length = 3 := rfl
    simp only [List.length_cons] at *
    by_cases ht : n.tag = t
    . have e1 : nxt t (some (n :: l)) = some l := by rw [nxt, if_pos ht]
      have e2 : nxN t (some (n :: l)) = n := by rw [nxN, if_pos ht]
      have htl := hs.tail 1 (by simp only [List.length_cons]; omega)
      refine Spec.enter Tryd.func87 rfl rfl ?_; intro w0
      repeat' (first | (refine G.atIdx ?_; refine G.idxImm rfl rfl (tyy rfl) (tyy rfl) (hs.mono (by solve | repeat first | assumption | exact Zr _ | refine Zq ?_ Zp)) Zj rfl (by simp only [List.length_cons]; omega) ?_; intro pp rr hx9 hp9; (obtain rfl := Option.some.inj hx9)) | (refine G.atLoad ?_; refine G.loadImmAt1 rfl (tyy rfl) rfl rfl Zp rfl rfl ?_) | (refine G.atSlc ?_; refine G.sliceSl rfl rfl rfl (tyy rfl) (tyy rfl) rfl Zj Zj (by omega) ?_) | (refine G.atCode ?_; first | refine G.seq ?_ | refine G.region ?_ | refine G.skip ?_ | refine G.ret ?_ | (refine G.cond rfl ?_ ?_ <;> intro hc <;> (try simp only [tests, reduceCtorEq] at hc) <;> (try exact Zf))) | refine G.endOps ?_ | (refine G.atGd ?_; first | refine G.guardYes rfl rfl ?_) | (refine G.atBin ?_; first | (refine G.atEql ?_; first | refine G.op rfl rfl ?_) | (refine G.atNeq ?_; first | refine G.op rfl rfl ?_)) | refine G.op rfl rfl ?_ | (refine G.atLen ?_; first | refine G.lenSlice rfl (tyy rfl) rfl ?_) | (refine G.atLoad ?_; first | refine G.loadOwn1 rfl (tyy rfl) rfl rfl Za rfl rfl ?_ | refine G.loadOwnA rfl (tyy rfl) rfl rfl Za rfl rfl ?_ | refine G.loadImmA rfl (tyy rfl) rfl rfl Zp Zp rfl ?_) | (refine G.atFld ?_; first | refine G.fieldAddr rfl (tyy rfl) rfl rfl ?_ | refine G.fieldAddrP rfl (tyy rfl) rfl rfl ?_) | (refine G.atSto ?_; refine G.storeOwn rfl rfl (tyy rfl) Za rfl rfl rfl rfl ?_) | (refine G.atAlc ?_; refine G.alloc (tyy rfl) rfl rfl ?_; intro _))
      all_goals first | (exfalso; omega) | exact G.done (rs := [.cell 4 90]) rfl (.cellA rfl (tyy rfl) rfl rfl Za rfl .nil) rfl [prt g _ false] Zu ⟨_, _, _, _, rfl, by rw [e1]; exact ⟨rfl, rs, htl, hrs⟩, by rw [e2]; rfl, by rw [e2]; exact hkv⟩ | skip
    . have e1 : nxt t (some (n :: l)) = none := by rw [nxt, if_neg ht]
      have e2 : nxN t (some (n :: l)) = zN := by rw [nxN, if_neg ht]
      refine Spec.enter Tryd.func87 rfl rfl ?_; intro w0
      repeat' (first | (refine G.atIdx ?_; refine G.idxImm rfl rfl (tyy rfl) (tyy rfl) (hs.mono (by solve | repeat first | assumption | exact Zr _ | refine Zq ?_ Zp)) Zj rfl (by simp only [List.length_cons]; omega) ?_; intro pp rr hx9 hp9; (obtain rfl := Option.some.inj hx9)) | (refine G.atLoad ?_; refine G.loadImmAt1 rfl (tyy rfl) rfl rfl Zp rfl rfl ?_) | (refine G.atCode ?_; first | refine G.seq ?_ | refine G.region ?_ | refine G.ret ?_ | (refine G.cond rfl ?_ ?_ <;> intro hc <;> (try simp only [tests, reduceCtorEq] at hc) <;> (try exact Zf))) | refine G.endOps ?_ | (refine G.atGd ?_; first | refine G.guardYes rfl rfl ?_) | (refine G.atBin ?_; first | (refine G.atEql ?_; first | refine G.op rfl rfl ?_) | (refine G.atNeq ?_; first | refine G.op rfl rfl ?_)) | refine G.op rfl rfl ?_ | (refine G.atLen ?_; first | refine G.lenSlice rfl (tyy rfl) rfl ?_) | (refine G.atLoad ?_; first | refine G.loadOwn1 rfl (tyy rfl) rfl rfl Za rfl rfl ?_) | (refine G.atFld ?_; first | refine G.fieldAddr rfl (tyy rfl) rfl rfl ?_ | refine G.fieldAddrP rfl (tyy rfl) rfl rfl ?_) | (refine G.atSto ?_; refine G.storeOwn rfl rfl (tyy rfl) Za rfl rfl rfl rfl ?_) | (refine G.atAlc ?_; refine G.alloc (tyy rfl) rfl rfl ?_; intro _) | (refine G.atBld ?_; refine G.build (tyy rfl) rfl rfl rfl ?_))
      all_goals first | (exfalso; omega) | skip
      all_goals exact G.done (rs := [.cell 4 90]) rfl (.cellA rfl (tyy rfl) rfl rfl Za rfl .nil) rfl [prt g _ true] Zu ⟨_, _, _, _, rfl, by rw [e1]; exact ⟨rfl, _, hk0⟩, by rw [e2]; rfl, by rw [e2]; exact KsC.nil _⟩
theorem wire_text (g : Nat) (s : PS) (v : Value) (bad : Bool) (h : Heap) (hp : PtC h s v bad) :
    Spec Tryd.prog 91 [.pointer (some ⟨g, 0, none⟩)] h [prt g v bad] (fun u h' H' => (∃ v' bad', H' = [prt g v' bad'] /\ PtC h' (nxt 4 s) v' bad') /\ u = str (txV s)) := by
  refine Spec.enter Tryd.func91 rfl rfl ?_; intro w0
  repeat' (first | (refine G.fieldV rfl (tyy rfl) rfl (tyy rfl) rfl rfl rfl rfl ?_) | (show G _ (.ops .seq _ (⟨some _, .call { callee := .value (.func 87), args := _, argTypes := _ }, _, _, _, none⟩ :: _) :: _) _ _ _; refine G.call callNextW rfl rfl (wire_next g 4 s v bad _ (hp.mono (by solve | repeat first | assumption | exact Zr _ | refine Zq ?_ Zp))) Ze ?_; rintro _ h2 H2 ⟨v2, b2, kA, kc, rfl, hp2, rfl, hk2⟩ hle2) | (refine G.atCode ?_; first | refine G.seq ?_ | refine G.region ?_ | refine G.ret ?_) | refine G.endOps ?_ | refine G.op rfl rfl ?_)
  all_goals first | exact G.done1 rfl rfl [prt g _ _] Zu ⟨⟨_, _, rfl, hp2⟩, rfl⟩ | skip
theorem nxN_of_none {t : Int} {s : PS} (h : nxt t s = none) : nxN t s = zN := by
  match s, h with
  | none, _ => rfl
  | some [], _ => rfl
  | some (n :: l), h =>
    have h' : (if n.tag = t then some l else none) = (none : PS) := h
    show (if n.tag = t then n else zN) = zN
    split at h'
    . cases h'
    . rename_i hc; rw [if_neg hc]
def WiR (g : Nat) (t : Int) (s : PS) (u : Value) (h' : Heap) (H' : List Chunk) : Prop := ∃ v' bad' q w' bq, H' = [prt q w' bq, prt g v' bad'] /\ PtC h' (nxt t s) v' bad' /\ u = .pointer (some ⟨q, 0, none⟩) /\ PtC h' (wiS t s) w' bq /\ (wiS t s = none -> KsC h' [] w')
set_option maxHeartbeats 1000000 in
theorem wire_within (g : Nat) (t : Int) (s : PS) (v : Value) (bad : Bool) (h : Heap) (hp : PtC h s v bad) :
    Spec Tryd.prog 60 [.pointer (some ⟨g, 0, none⟩), .int .i64 t] h [prt g v bad] (fun u h' H' => WiR g t s u h' H') := by
  refine Spec.enter Tryd.func60 rfl rfl ?_; intro w0
  repeat' (first | (show G _ (.ops .seq _ (⟨some _, .call { callee := .value (.func 87), args := _, argTypes := _ }, _, _, _, none⟩ :: _) :: _) _ _ _; refine G.call callNextW rfl rfl (wire_next g t s v bad _ (hp.mono (by solve | repeat first | assumption | exact Zr _ | refine Zq ?_ Zp))) Ze ?_; rintro _ h2 H2 ⟨v2, b2, kA, kc, rfl, hp2, rfl, hk2⟩ hle2) | (refine G.atCode ?_; first | refine G.seq ?_ | refine G.region ?_ | refine G.drawAuto mixedOk rfl Zw ?_ | refine G.ret ?_) | refine G.endOps ?_ | refine G.endStill ?_ | refine G.op rfl rfl ?_ | (refine G.atLoad ?_; first | refine G.loadOwn1 rfl (tyy rfl) rfl rfl Za rfl rfl ?_) | (refine G.atFld ?_; first | refine G.fieldAddr rfl (tyy rfl) rfl rfl ?_) | (refine G.atSto ?_; refine G.storeOwn rfl rfl (tyy rfl) Za rfl rfl rfl rfl ?_) | (refine G.atAlc ?_; refine G.alloc (tyy rfl) rfl rfl ?_; intro _) | (refine G.atBox ?_; refine G.box rfl rfl rfl ?_; intro _) | (refine G.atBld ?_; refine G.build (tyy rfl) rfl rfl rfl ?_))
  all_goals first | refine G.done1 rfl rfl [prt _ _ _, prt g _ _] Zu ⟨_, _, _, _, _, rfl, hp2, rfl, ?_⟩ | skip
  . unfold wiS
    cases hnx : nxt t s with
    | none => rw [hnx] at hp2; rw [if_neg (by simp)]; refine ⟨⟨hp2.1, _, hk2⟩, fun _ => ?_⟩; rw [nxN_of_none hnx] at hk2 ⊢; exact hk2
    | some l => rw [hnx] at hp2; rw [if_pos (show (some l : PS).isSome = true from rfl)]; exact ⟨⟨hp2.1, hk2⟩, fun e => by cases e⟩
def NmR (g : Nat) (s' : PS) (n : Int) (u : Value) (h' : Heap) (H' : List Chunk) : Prop := (∃ v' bad', H' = [prt g v' bad'] /\ PtC h' s' v' bad') /\ u = .int .i64 n
theorem tlv_NumberY {d : Bs} (hd : d.length <= 9223372036854775807) (h1 : numOk d = true) (h : Heap) : Spec Tryd.prog 106 [str d] h [] (fun v _ H' => H' = [] /\ v = .tuple #[.int .i64 (numV d), .bool true]) := by
  have := tlv_Number d hd h
  rw [h1] at this
  exact this
theorem tlv_NumberN {d : Bs} (hd : d.length <= 9223372036854775807) (h1 : numOk d = false) (h : Heap) : Spec Tryd.prog 106 [str d] h [] (fun v _ H' => H' = [] /\ v = .tuple #[.int .i64 0, .bool false]) := by
  have := tlv_Number d hd h
  rw [h1] at this
  exact this
set_option maxHeartbeats 1000000 in
theorem wire_bounded (g : Nat) (d : Bs) (lo hi : Int) (hd : d.length <= 9223372036854775807) (hlo : inR .i64 lo) (hhi : inR .i64 hi) (s : PS) (v : Value) (bad : Bool) (h : Heap) (hp : PtC h s v bad) :
    Spec Tryd.prog 88 [.pointer (some ⟨g, 0, none⟩), str d, .int .i64 lo, .int .i64 hi] h [prt g v bad] (fun u h' H' => NmR g (bdS s d lo hi) (bdV s d lo hi) u h' H') := by
  unfold bdV bdS
  match s, hp with
  | none, ⟨e, l, hk⟩ =>
    subst e
    obtain ⟨A, c, rfl, _, hm⟩ := hk.form
    rw [show (if numOk d = true /\ lo <= numV d /\ numV d <= hi then (none : PS) else none) = none by split <;> rfl, if_neg (by simp)]
    refine Spec.enter Tryd.func88 rfl rfl ?_; intro w0
    repeat' (first | (show G _ (.ops .seq _ (⟨some _, .call { callee := .value (.func 106), args := _, argTypes := _ }, _, _, _, none⟩ :: _) :: _) _ _ _; refine G.call callNumberT rfl rfl (tlv_Number d hd _) Ze ?_; rintro _ h2 H2 ⟨rfl, rfl⟩ hle2) | (refine G.atCode ?_; first | refine G.seq ?_ | refine G.region ?_ | refine G.ret ?_ | (refine G.cond rfl ?_ ?_ <;> intro hc <;> (try simp only [tests, reduceCtorEq] at hc) <;> (try exact Zf))) | refine G.endOps ?_ | (refine G.atGd ?_; first | refine G.guardNoS rfl rfl rfl ?_) | refine G.op rfl rfl ?_ | (refine G.atLoad ?_; first | refine G.loadOwn1 rfl (tyy rfl) rfl rfl Za rfl rfl ?_) | (refine G.atFld ?_; first | refine G.fieldAddr rfl (tyy rfl) rfl rfl ?_) | (refine G.atSto ?_; refine G.storeOwn rfl rfl (tyy rfl) Za rfl rfl rfl rfl ?_))
    all_goals first | (exfalso; omega) | exact G.done1 rfl rfl [prt g _ true] Zu ⟨⟨_, _, rfl, ⟨rfl, l, hk.mono (by solve | repeat first | assumption | exact Zr _ | refine Zq ?_ Zp)⟩⟩, rfl⟩ | skip
  | some l, ⟨e, hk⟩ =>
    subst e
    obtain ⟨A, c, rfl, _, hm⟩ := hk.form
    by_cases hc : numOk d = true /\ lo <= numV d /\ numV d <= hi
    . rw [if_pos hc, if_pos (show (some l : PS).isSome = true from rfl)]
      obtain ⟨h1, h2, h3⟩ := hc
      have hN := tlv_NumberY hd h1
      refine Spec.enter Tryd.func88 rfl rfl ?_; intro w0
      repeat' (first | (show G _ (.ops .seq _ (⟨some _, .call { callee := .value (.func 106), args := _, argTypes := _ }, _, _, _, none⟩ :: _) :: _) _ _ _; refine G.call callNumberT rfl rfl (hN _) Ze ?_; rintro _ h2' H2 ⟨rfl, rfl⟩ hle2) | (refine G.atCode ?_; first | refine G.seq ?_ | refine G.region ?_ | refine G.skip ?_ | refine G.ret ?_ | (refine G.cond rfl ?_ ?_ <;> intro hc <;> (try simp only [tests, reduceCtorEq] at hc) <;> (try exact Zf))) | refine G.endOps ?_ | (refine G.atGd ?_; first | refine G.guardYes rfl rfl ?_ | (refine G.guardS rfl rfl rfl ?_ ?_ <;> intro hc <;> (try simp only [tests, reduceCtorEq] at hc) <;> (try exact Zf))) | (refine G.atBin ?_; first | refine G.op rfl rfl ?_) | refine G.op rfl rfl ?_ | (refine G.atLoad ?_; first | refine G.loadOwn1 rfl (tyy rfl) rfl rfl Za rfl rfl ?_) | (refine G.atFld ?_; first | refine G.fieldAddr rfl (tyy rfl) rfl rfl ?_))
      all_goals first | (exfalso; omega) | (exfalso; simp_all; done) | exact G.done1 rfl rfl [prt g _ false] Zu ⟨⟨_, _, rfl, ⟨rfl, hk.mono (by solve | repeat first | assumption | exact Zr _ | refine Zq ?_ Zp)⟩⟩, rfl⟩ | skip
    . rw [if_neg hc, if_neg (by simp)]
      cases h1 : numOk d with
      | false =>
        have hN := tlv_NumberN hd h1
        refine Spec.enter Tryd.func88 rfl rfl ?_; intro w0
        repeat' (first | (show G _ (.ops .seq _ (⟨some _, .call { callee := .value (.func 106), args := _, argTypes := _ }, _, _, _, none⟩ :: _) :: _) _ _ _; refine G.call callNumberT rfl rfl (hN _) Ze ?_; rintro _ h2' H2 ⟨rfl, rfl⟩ hle2) | (refine G.atCode ?_; first | refine G.seq ?_ | refine G.region ?_ | refine G.ret ?_ | (refine G.cond rfl ?_ ?_ <;> intro hc <;> (try simp only [tests, reduceCtorEq] at hc) <;> (try exact Zf))) | refine G.endOps ?_ | (refine G.atGd ?_; first | refine G.guardYes rfl rfl ?_ | refine G.guardNoS rfl rfl rfl ?_) | refine G.op rfl rfl ?_ | (refine G.atLoad ?_; first | refine G.loadOwn1 rfl (tyy rfl) rfl rfl Za rfl rfl ?_) | (refine G.atFld ?_; first | refine G.fieldAddr rfl (tyy rfl) rfl rfl ?_) | (refine G.atSto ?_; refine G.storeOwn rfl rfl (tyy rfl) Za rfl rfl rfl rfl ?_))
        all_goals first | (exfalso; omega) | (exfalso; simp_all; done) | exact G.done1 rfl rfl [prt g _ true] Zu ⟨⟨_, _, rfl, ⟨rfl, _, hk.mono (by solve | repeat first | assumption | exact Zr _ | refine Zq ?_ Zp)⟩⟩, rfl⟩ | skip
      | true =>
        have hN := tlv_NumberY hd h1
        rw [h1] at hc
        have hc' : ¬ (lo <= numV d /\ numV d <= hi) := fun h9 => hc ⟨rfl, h9⟩
        refine Spec.enter Tryd.func88 rfl rfl ?_; intro w0
        repeat' (first | (show G _ (.ops .seq _ (⟨some _, .call { callee := .value (.func 106), args := _, argTypes := _ }, _, _, _, none⟩ :: _) :: _) _ _ _; refine G.call callNumberT rfl rfl (hN _) Ze ?_; rintro _ h2' H2 ⟨rfl, rfl⟩ hle2) | (refine G.atCode ?_; first | refine G.seq ?_ | refine G.region ?_ | refine G.ret ?_ | (refine G.cond rfl ?_ ?_ <;> intro hc <;> (try simp only [tests, reduceCtorEq] at hc) <;> (try exact Zf))) | refine G.endOps ?_ | (refine G.atGd ?_; first | refine G.guardYes rfl rfl ?_ | refine G.guardNoS rfl rfl rfl ?_ | (refine G.guardS rfl rfl rfl ?_ ?_ <;> intro hc <;> (try simp only [tests, reduceCtorEq] at hc) <;> (try exact Zf))) | (refine G.atBin ?_; first | refine G.op rfl rfl ?_) | refine G.op rfl rfl ?_ | (refine G.atLoad ?_; first | refine G.loadOwn1 rfl (tyy rfl) rfl rfl Za rfl rfl ?_) | (refine G.atFld ?_; first | refine G.fieldAddr rfl (tyy rfl) rfl rfl ?_) | (refine G.atSto ?_; refine G.storeOwn rfl rfl (tyy rfl) Za rfl rfl rfl rfl ?_))
        all_goals first | (exfalso; omega) | (exfalso; simp_all; done) | exact G.done1 rfl rfl [prt g _ true] Zu ⟨⟨_, _, rfl, ⟨rfl, _, hk.mono (by solve | repeat first | assumption | exact Zr _ | refine Zq ?_ Zp)⟩⟩, rfl⟩ | skip
theorem wire_number (g : Nat) (t lo hi : Int) (hlo : inR .i64 lo) (hhi : inR .i64 hi) (s : PS) (v : Value) (bad : Bool) (h : Heap) (hp : PtC h s v bad) (hd : (nxN t s).data.length <= 9223372036854775807) :
    Spec Tryd.prog 61 [.pointer (some ⟨g, 0, none⟩), .int .i64 t, .int .i64 lo, .int .i64 hi] h [prt g v bad] (fun u h' H' => NmR g (nmS t lo hi s) (nmV t lo hi s) u h' H') := by
  refine Spec.enter Tryd.func61 rfl rfl ?_; intro w0
  repeat' (first | (refine G.fieldV rfl (tyy rfl) rfl (tyy rfl) rfl rfl rfl rfl ?_) | (show G _ (.ops .seq _ (⟨some _, .call { callee := .value (.func 87), args := _, argTypes := _ }, _, _, _, none⟩ :: _) :: _) _ _ _; refine G.call callNextW rfl rfl (wire_next g t s v bad _ (hp.mono (by solve | repeat first | assumption | exact Zr _ | refine Zq ?_ Zp))) Ze ?_; rintro _ h2 H2 ⟨v2, b2, kA, kc, rfl, hp2, rfl, hk2⟩ hle2) | (show G _ (.ops .seq _ (⟨some _, .call { callee := .value (.func 88), args := _, argTypes := _ }, _, _, _, none⟩ :: _) :: _) _ _ _; refine G.call callBounded rfl rfl (wire_bounded g _ lo hi hd hlo hhi _ v2 b2 _ (hp2.mono (by solve | repeat first | assumption | exact Zr _ | refine Zq ?_ Zp))) Ze ?_; rintro _ h3 H3 ⟨⟨v3, b3, rfl, hp3⟩, rfl⟩ hle3) | (refine G.atCode ?_; first | refine G.seq ?_ | refine G.region ?_ | refine G.ret ?_) | refine G.endOps ?_ | refine G.op rfl rfl ?_)
  all_goals first | exact G.done1 rfl rfl [prt g _ _] Zu ⟨⟨_, _, rfl, hp3⟩, rfl⟩ | skip
theorem wire_nextN {t : Int} {s : PS} (e : nxt t s = none) (g : Nat) (v : Value) (bad : Bool) (h : Heap) (hp : PtC h s v bad) :
    Spec Tryd.prog 87 [.pointer (some ⟨g, 0, none⟩), .int .i64 t] h [prt g v bad] (fun u h' H' => ∃ (v' : Value) (A : Option Addr) (c : Nat) (l : List Nd), H' = [prt g v' true] /\ KsC h' l v' /\ u = .agg #[.int .i64 0, str [], .slice A 0 c]) := by
  refine (wire_next g t s v bad h hp).mono ?_
  rintro u h' H' ⟨v', bad', A, c, rfl, hp', rfl, hk⟩ _
  rw [e] at hp'
  obtain ⟨rfl, l, hl⟩ := hp'
  refine ⟨v', A, c, l, rfl, hl, ?_⟩
  rw [nxN_of_none e]; rfl
theorem wire_nextS {t : Int} {s : PS} {l : List Nd} (e : nxt t s = some l) (g : Nat) (v : Value) (bad : Bool) (h : Heap) (hp : PtC h s v bad) :
    Spec Tryd.prog 87 [.pointer (some ⟨g, 0, none⟩), .int .i64 t] h [prt g v bad] (fun u h' H' => ∃ (v' : Value) (A : Option Addr) (c : Nat), H' = [prt g v' false] /\ KsC h' l v' /\ u = .agg #[.int .i64 (nxN t s).tag, str (nxN t s).data, .slice A (nxN t s).kids.length c] /\ KsC h' (nxN t s).kids (.slice A (nxN t s).kids.length c)) := by
  refine (wire_next g t s v bad h hp).mono ?_
  rintro u h' H' ⟨v', bad', A, c, rfl, hp', rfl, hk⟩ _
  rw [e] at hp'
  obtain ⟨rfl, hl⟩ := hp'
  exact ⟨v', A, c, rfl, hl, rfl, hk⟩
theorem tlv_BoolOf {d : Bs} {a b : Bool} (e1 : decide (d = [255]) = a) (e2 : decide (d = [255] \/ d = [0]) = b) (h : Heap) : Spec Tryd.prog 108 [str d] h [] (fun v _ H' => H' = [] /\ v = .tuple #[.bool a, .bool b]) := by
  rw [<- e1, ← e2]
  exact tlv_Bool d h
set_option maxHeartbeats 1000000 in
theorem wire_truthP (g : Nat) (s : PS) (v : Value) (bad : Bool) (h : Heap) (hp : PtC h s v bad) :
    Spec Tryd.prog 94 [.pointer (some ⟨g, 0, none⟩)] h [prt g v bad] (fun u h' H' => (∃ v' bad', H' = [prt g v' bad'] /\ PtC h' (trS s) v' bad') /\ u = .bool (trV s)) := by
  cases hnx : nxt 1 s with
  | none =>
    have e0 := nxN_of_none hnx
    have e1 : trS s = none := by unfold trS; rw [hnx]; split <;> rfl
    have e2 : trV s = false := by unfold trV; rw [e0]; rfl
    rw [e1, e2]
    refine Spec.enter Tryd.func94 rfl rfl ?_; intro w0
    repeat' (first | (refine G.fieldV rfl (tyy rfl) rfl (tyy rfl) rfl rfl rfl rfl ?_) | (show G _ (.ops .seq _ (⟨some _, .call { callee := .value (.func 87), args := _, argTypes := _ }, _, _, _, none⟩ :: _) :: _) _ _ _; refine G.call callNextW rfl rfl (wire_nextN hnx g v bad _ (hp.mono (by solve | repeat first | assumption | exact Zr _ | refine Zq ?_ Zp))) Ze ?_; rintro _ h2 H2 ⟨v2, kA, kc, kl, rfl, hp2, rfl⟩ hle2) | (show G _ (.ops .seq _ (⟨some _, .call { callee := .value (.func 108), args := _, argTypes := _ }, _, _, _, none⟩ :: _) :: _) _ _ _; refine G.call callBoolT rfl rfl (tlv_BoolOf (d := []) (a := false) (b := false) rfl rfl _) Ze ?_; rintro _ h3 H3 ⟨rfl, rfl⟩ hle3) | (refine G.atCode ?_; first | refine G.seq ?_ | refine G.region ?_ | refine G.ret ?_) | refine G.endOps ?_ | (refine G.atGd ?_; first | refine G.guardNoS rfl rfl rfl ?_) | refine G.op rfl rfl ?_ | (refine G.atLoad ?_; first | refine G.loadOwn1 rfl (tyy rfl) rfl rfl Za rfl rfl ?_) | (refine G.atFld ?_; first | refine G.fieldAddr rfl (tyy rfl) rfl rfl ?_) | (refine G.atSto ?_; refine G.storeOwn rfl rfl (tyy rfl) Za rfl rfl rfl rfl ?_))
    all_goals first | (exfalso; simp_all; done) | exact G.done1 rfl rfl [prt g _ _] Zu ⟨⟨_, _, rfl, ⟨rfl, _, hp2.mono (by solve | repeat first | assumption | exact Zr _ | refine Zq ?_ Zp)⟩⟩, rfl⟩ | skip
  | some l =>
    by_cases hd : (nxN 1 s).data = [255] \/ (nxN 1 s).data = [0]
    . have e1 : trS s = some l := by unfold trS; rw [if_pos hd, hnx]
      rw [e1]
      have hB := tlv_BoolOf (d := (nxN 1 s).data) (a := trV s) (b := true) rfl (decide_eq_true hd)
      refine Spec.enter Tryd.func94 rfl rfl ?_; intro w0
      repeat' (first | (refine G.fieldV rfl (tyy rfl) rfl (tyy rfl) rfl rfl rfl rfl ?_) | (show G _ (.ops .seq _ (⟨some _, .call { callee := .value (.func 87), args := _, argTypes := _ }, _, _, _, none⟩ :: _) :: _) _ _ _; refine G.call callNextW rfl rfl (wire_nextS hnx g v bad _ (hp.mono (by solve | repeat first | assumption | exact Zr _ | refine Zq ?_ Zp))) Ze ?_; rintro _ h2 H2 ⟨v2, kA, kc, rfl, hp2, rfl, hk2⟩ hle2) | (show G _ (.ops .seq _ (⟨some _, .call { callee := .value (.func 108), args := _, argTypes := _ }, _, _, _, none⟩ :: _) :: _) _ _ _; refine G.call callBoolT rfl rfl (hB _) Ze ?_; rintro _ h3 H3 ⟨rfl, rfl⟩ hle3) | (refine G.atCode ?_; first | refine G.seq ?_ | refine G.region ?_ | refine G.ret ?_) | refine G.endOps ?_ | (refine G.atGd ?_; first | refine G.guardYes rfl rfl ?_) | refine G.op rfl rfl ?_ | (refine G.atLoad ?_; first | refine G.loadOwn1 rfl (tyy rfl) rfl rfl Za rfl rfl ?_) | (refine G.atFld ?_; first | refine G.fieldAddr rfl (tyy rfl) rfl rfl ?_) | (refine G.atSto ?_; refine G.storeOwn rfl rfl (tyy rfl) Za rfl rfl rfl rfl ?_))
      all_goals first | (exfalso; simp_all; done) | exact G.done1 rfl rfl [prt g _ _] Zu ⟨⟨_, _, rfl, ⟨rfl, hp2.mono (by solve | repeat first | assumption | exact Zr _ | refine Zq ?_ Zp)⟩⟩, rfl⟩ | skip
    . have e1 : trS s = none := by unfold trS; rw [if_neg hd]
      have e2 : trV s = false := by unfold trV; exact decide_eq_false fun q => hd (.inl q)
      rw [e1, e2]
      have hB := tlv_BoolOf (d := (nxN 1 s).data) (a := false) (b := false) e2 (decide_eq_false hd)
      refine Spec.enter Tryd.func94 rfl rfl ?_; intro w0
      repeat' (first | (refine G.fieldV rfl (tyy rfl) rfl (tyy rfl) rfl rfl rfl rfl ?_) | (show G _ (.ops .seq _ (⟨some _, .call { callee := .value (.func 87), args := _, argTypes := _ }, _, _, _, none⟩ :: _) :: _) _ _ _; refine G.call callNextW rfl rfl (wire_nextS hnx g v bad _ (hp.mono (by solve | repeat first | assumption | exact Zr _ | refine Zq ?_ Zp))) Ze ?_; rintro _ h2 H2 ⟨v2, kA, kc, rfl, hp2, rfl, hk2⟩ hle2) | (show G _ (.ops .seq _ (⟨some _, .call { callee := .value (.func 108), args := _, argTypes := _ }, _, _, _, none⟩ :: _) :: _) _ _ _; refine G.call callBoolT rfl rfl (hB _) Ze ?_; rintro _ h3 H3 ⟨rfl, rfl⟩ hle3) | (refine G.atCode ?_; first | refine G.seq ?_ | refine G.region ?_ | refine G.ret ?_) | refine G.endOps ?_ | (refine G.atGd ?_; first | refine G.guardYes rfl rfl ?_) | refine G.op rfl rfl ?_ | (refine G.atLoad ?_; first | refine G.loadOwn1 rfl (tyy rfl) rfl rfl Za rfl rfl ?_) | (refine G.atFld ?_; first | refine G.fieldAddr rfl (tyy rfl) rfl rfl ?_) | (refine G.atSto ?_; refine G.storeOwn rfl rfl (tyy rfl) Za rfl rfl rfl rfl ?_))
      all_goals first | (exfalso; simp_all; done) | exact G.done1 rfl rfl [prt g _ _] Zu ⟨⟨_, _, rfl, ⟨rfl, _, hp2.mono (by solve | repeat first | assumption | exact Zr _ | refine Zq ?_ Zp)⟩⟩, rfl⟩ | skip
set_option maxHeartbeats 1000000 in
theorem wire_maybe (g : Nat) (t : Int) (s : PS) (v : Value) (bad : Bool) (h : Heap) (hp : PtC h s v bad) :
    Spec Tryd.prog 95 [.pointer (some ⟨g, 0, none⟩), .int .i64 t] h [prt g v bad] (fun u h' H' => (∃ v' bad', H' = [prt g v' bad'] /\ PtC h' (myS t s) v' bad') /\ u = .tuple #[str (nxN t s).data, .bool (myB t s)]) := by
  have hN := wire_next g t s v bad
  unfold myS
  match s, hp with
  | none, ⟨e, l, hk⟩ =>
    subst e
    obtain ⟨A, c, rfl, _, hm⟩ := hk.form
    rw [show myB t none = false from rfl, if_neg Bool.false_ne_true]
    refine Spec.enter Tryd.func95 rfl rfl ?_; intro w0
    repeat' (first | (refine G.atCode ?_; first | refine G.seq ?_ | refine G.region ?_ | refine G.ret ?_ | (refine G.cond rfl ?_ ?_ <;> intro hc <;> (try simp only [tests, reduceCtorEq] at hc) <;> (try exact Zf))) | refine G.endOps ?_ | (refine G.atGd ?_; first | refine G.guardNoS rfl rfl rfl ?_) | refine G.op rfl rfl ?_ | (refine G.atLoad ?_; first | refine G.loadOwn1 rfl (tyy rfl) rfl rfl Za rfl rfl ?_) | (refine G.atFld ?_; first | refine G.fieldAddr rfl (tyy rfl) rfl rfl ?_))
    all_goals first | (exfalso; omega) | exact G.done2 rfl rfl rfl [prt g _ true] Zu ⟨⟨_, _, rfl, ⟨rfl, l, hk⟩⟩, rfl⟩ | skip
  | some [], ⟨e, hk⟩ =>
    subst e
    obtain ⟨A, c, rfl, _, hm⟩ := hk.form
    simp only [List.length_nil] at *
    rw [show myB t (some []) = false from rfl, if_neg Bool.false_ne_true]
    refine Spec.enter Tryd.func95 rfl rfl ?_; intro w0
    repeat' (first | (refine G.atCode ?_; first | refine G.seq ?_ | refine G.region ?_ | refine G.ret ?_ | (refine G.cond rfl ?_ ?_ <;> intro hc <;> (try simp only [tests, reduceCtorEq] at hc) <;> (try exact Zf))) | refine G.endOps ?_ | (refine G.atGd ?_; first | refine G.guardYes rfl rfl ?_ | refine G.guardNoS rfl rfl rfl ?_) | (refine G.atBin ?_; first | (refine G.atEql ?_; first | refine G.op rfl rfl ?_)) | refine G.op rfl rfl ?_ | (refine G.atLen ?_; first | refine G.lenSlice rfl (tyy rfl) rfl ?_) | (refine G.atLoad ?_; first | refine G.loadOwn1 rfl (tyy rfl) rfl rfl Za rfl rfl ?_) | (refine G.atFld ?_; first | refine G.fieldAddr rfl (tyy rfl) rfl rfl ?_))
    all_goals first | (exfalso; omega) | exact G.done2 rfl rfl rfl [prt g _ false] Zu ⟨⟨_, _, rfl, ⟨rfl, hk⟩⟩, rfl⟩ | skip
  | some (n :: l), ⟨e, hk⟩ =>
    subst e
    have hk0 := hk
    obtain ⟨A, c, rfl, hc, hm⟩ := hk.form
    obtain ⟨rows, hs, hr⟩ := hk
    have hrl := hr.len
    simp only [KidsC] at hr
    obtain ⟨r, rs, rfl, hn, hrs⟩ := hr
    obtain ⟨kv, rfl, hkv⟩ := hn.ks
    obtain ⟨A2, c2, rfl, _, _⟩ := hkv.form
    have hl3 : ([.int .i64 n.tag, str n.data, .slice A2 n.kids.length c2] : List Value).length = 3 := rfl
    simp only [List.length_cons] at *
    by_cases ht : n.tag = t
    . have e1 : nxt t (some (n :: l)) = some l := by rw [nxt, if_pos ht]
      have e2 : nxN t (some (n :: l)) = n := by rw [nxN, if_pos ht]
      have e3 : myB t (some (n :: l)) = true := by unfold myB; rw [e1]; rfl
      rw [e3, if_pos rfl]
      refine Spec.enter Tryd.func95 rfl rfl ?_; intro w0
      repeat' (first | (refine G.atIdx ?_; refine G.idxImm rfl rfl (tyy rfl) (tyy rfl) (hs.mono (by solve | repeat first | assumption | exact Zr _ | refine Zq ?_ Zp)) Zj rfl (by simp only [List.length_cons]; omega) ?_; intro pp rr hx9 hp9; (obtain rfl := Option.some.inj hx9)) | (refine G.atLoad ?_; refine G.loadImmAt1 rfl (tyy rfl) rfl rfl Zp rfl rfl ?_) | (refine G.fieldV rfl (tyy rfl) rfl (tyy rfl) rfl rfl rfl rfl ?_) | (show G _ (.ops .seq _ (⟨some _, .call { callee := .value (.func 87), args := _, argTypes := _ }, _, _, _, none⟩ :: _) :: _) _ _ _; refine G.call callNextW rfl rfl (hN _ ⟨rfl, hk0.mono (by solve | repeat first | assumption | exact Zr _ | refine Zq ?_ Zp)⟩) Ze ?_; rintro _ h2 H2 ⟨v2, b2, kA, kc, rfl, hp2, rfl, hk2⟩ hle2) | (refine G.atCode ?_; first | refine G.seq ?_ | refine G.region ?_ | refine G.skip ?_ | refine G.ret ?_ | (refine G.cond rfl ?_ ?_ <;> intro hc <;> (try simp only [tests, reduceCtorEq] at hc) <;> (try exact Zf))) | refine G.endOps ?_ | (refine G.atGd ?_; first | refine G.guardYes rfl rfl ?_) | (refine G.atBin ?_; first | (refine G.atEql ?_; first | refine G.op rfl rfl ?_) | (refine G.atNeq ?_; first | refine G.op rfl rfl ?_)) | refine G.op rfl rfl ?_ | (refine G.atLen ?_; first | refine G.lenSlice rfl (tyy rfl) rfl ?_) | (refine G.atLoad ?_; first | refine G.loadOwn1 rfl (tyy rfl) rfl rfl Za rfl rfl ?_) | (refine G.atFld ?_; first | refine G.fieldAddr rfl (tyy rfl) rfl rfl ?_ | refine G.fieldAddrP rfl (tyy rfl) rfl rfl ?_))
      all_goals first | (exfalso; omega) | exact G.done2 rfl rfl rfl [prt g _ _] Zu ⟨⟨_, _, rfl, hp2⟩, rfl⟩ | skip
    . have e1 : nxt t (some (n :: l)) = none := by rw [nxt, if_neg ht]
      have e2 : nxN t (some (n :: l)) = zN := by rw [nxN, if_neg ht]
      have e3 : myB t (some (n :: l)) = false := by unfold myB; rw [e1]; rfl
      rw [e3, e2, if_neg Bool.false_ne_true]
      refine Spec.enter Tryd.func95 rfl rfl ?_; intro w0
      repeat' (first | (refine G.atIdx ?_; refine G.idxImm rfl rfl (tyy rfl) (tyy rfl) (hs.mono (by solve | repeat first | assumption | exact Zr _ | refine Zq ?_ Zp)) Zj rfl (by simp only [List.length_cons]; omega) ?_; intro pp rr hx9 hp9; (obtain rfl := Option.some.inj hx9)) | (refine G.atLoad ?_; refine G.loadImmAt1 rfl (tyy rfl) rfl rfl Zp rfl rfl ?_) | (refine G.atCode ?_; first | refine G.seq ?_ | refine G.region ?_ | refine G.ret ?_ | (refine G.cond rfl ?_ ?_ <;> intro hc <;> (try simp only [tests, reduceCtorEq] at hc) <;> (try exact Zf))) | refine G.endOps ?_ | (refine G.atGd ?_; first | refine G.guardYes rfl rfl ?_) | (refine G.atBin ?_; first | (refine G.atEql ?_; first | refine G.op rfl rfl ?_) | (refine G.atNeq ?_; first | refine G.op rfl rfl ?_)) | refine G.op rfl rfl ?_ | (refine G.atLen ?_; first | refine G.lenSlice rfl (tyy rfl) rfl ?_) | (refine G.atLoad ?_; first | refine G.loadOwn1 rfl (tyy rfl) rfl rfl Za rfl rfl ?_) | (refine G.atFld ?_; first | refine G.fieldAddr rfl (tyy rfl) rfl rfl ?_ | refine G.fieldAddrP rfl (tyy rfl) rfl rfl ?_))
      all_goals first | (exfalso; omega) | exact G.done2 rfl rfl rfl [prt g _ _] Zu ⟨⟨_, _, rfl, ⟨rfl, hk0⟩⟩, rfl⟩ | skip
theorem endP_len {h : Heap} {l : List Nd} {v : Value} (hk : KsC h l v) : endP (some l) = decide ((l.length : Int) = 0) := by
  cases l with
  | nil => rfl
  | cons a l => simp [endP]; omega
set_option maxHeartbeats 1000000 in
theorem wire_end0 (g : Nat) (s : PS) (v : Value) (bad : Bool) (h : Heap) (hp : PtC h s v bad) :
    Spec Tryd.prog 93 [.pointer (some ⟨g, 0, none⟩), .slice none 0 0] h [prt g v bad] (fun u _ H' => u = .bool (endP s) /\ H' = [prt g v bad]) := by
  match s, hp with
  | none, ⟨e, l, hk⟩ =>
    subst e
    obtain ⟨A, c, rfl, _, hm⟩ := hk.form
    refine Spec.enter Tryd.func93 rfl rfl ?_; intro w0
    repeat' (first | (refine G.atCode ?_; refine G.stopLoop ?_) | (refine G.atCode ?_; first | refine G.seq ?_ | refine G.region ?_ | refine G.block ?_) | refine G.endOps ?_ | (refine G.atGd ?_; first | refine G.guardNoS rfl rfl rfl ?_) | refine G.op rfl rfl ?_ | (refine G.atLen ?_; first | refine G.lenSlice rfl (tyy rfl) rfl ?_) | (refine G.atLoad ?_; first | refine G.loadOwn1 rfl (tyy rfl) rfl rfl Za rfl rfl ?_) | (refine G.atFld ?_; first | refine G.fieldAddr rfl (tyy rfl) rfl rfl ?_))
    all_goals first | (exfalso; omega) | skip
    refine G.go ?_
    refine G.loop (σ := Unit) (fun _ => [(23, .int .i64 0), (22, .int .i64 0), (5, .bool false)]) (fun _ => [prt g (.slice A l.length c) true]) (fun _ _ => True) (fun _ => 0) () ⟨rfl, rfl, rfl, trivial⟩ Zu trivial ?_
    rintro _ h1 hle1 _
    repeat' (first | (refine G.atCode ?_; first | refine G.seq ?_ | refine G.region ?_ | refine G.exit rfl ?_ | refine G.ret ?_ | (refine G.cond rfl ?_ ?_ <;> intro hc <;> (try simp only [tests, reduceCtorEq] at hc) <;> (try exact Zf))) | refine G.endOps ?_ | (refine G.atBin ?_; first | refine G.op rfl rfl ?_) | refine G.op rfl rfl ?_)
    all_goals first | (exfalso; omega) | exact G.done1 rfl rfl [prt g (.slice A l.length c) true] Zu ⟨rfl, rfl⟩ | skip
  | some l, ⟨e, hk⟩ =>
    subst e
    rw [endP_len hk]
    obtain ⟨A, c, rfl, _, hm⟩ := hk.form
    refine Spec.enter Tryd.func93 rfl rfl ?_; intro w0
    repeat' (first | (refine G.atCode ?_; refine G.stopLoop ?_) | (refine G.atCode ?_; first | refine G.seq ?_ | refine G.region ?_ | refine G.block ?_) | refine G.endOps ?_ | (refine G.atGd ?_; first | refine G.guardYes rfl rfl ?_) | (refine G.atBin ?_; first | (refine G.atEql ?_; first | refine G.op rfl rfl ?_)) | refine G.op rfl rfl ?_ | (refine G.atLen ?_; first | refine G.lenSlice rfl (tyy rfl) rfl ?_) | (refine G.atLoad ?_; first | refine G.loadOwn1 rfl (tyy rfl) rfl rfl Za rfl rfl ?_) | (refine G.atFld ?_; first | refine G.fieldAddr rfl (tyy rfl) rfl rfl ?_))
    all_goals first | (exfalso; omega) | skip
    refine G.go ?_
    refine G.loop (σ := Unit) (fun _ => [(23, .int .i64 0), (22, .int .i64 0), (5, .bool (decide ((l.length : Int) = 0)))]) (fun _ => [prt g (.slice A l.length c) false]) (fun _ _ => True) (fun _ => 0) () ⟨rfl, rfl, rfl, trivial⟩ Zu trivial ?_
    rintro _ h1 hle1 _
    repeat' (first | (refine G.atCode ?_; first | refine G.seq ?_ | refine G.region ?_ | refine G.exit rfl ?_ | refine G.ret ?_ | (refine G.cond rfl ?_ ?_ <;> intro hc <;> (try simp only [tests, reduceCtorEq] at hc) <;> (try exact Zf))) | refine G.endOps ?_ | (refine G.atBin ?_; first | refine G.op rfl rfl ?_) | refine G.op rfl rfl ?_)
    all_goals first | (exfalso; omega) | exact G.done1 rfl rfl [prt g (.slice A l.length c) false] Zu ⟨rfl, rfl⟩ | skip
end Go.Proofs.YtibkffoeioidlaaDoor
