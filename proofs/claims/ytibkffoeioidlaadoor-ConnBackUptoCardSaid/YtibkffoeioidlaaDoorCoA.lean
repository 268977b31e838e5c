/- Walks of package feed. -/
import Derived.Test.YtibkffoeioidlaaDoorTlvB
import Derived.Test.YtibkffoeioidlaaDoorWrJ
import Derived.Test.YtibkffoeioidlaaDoorTlvT
import Derived.Test.YtibkffoeioidlaaDoorOcA
import Derived.Test.YtibkffoeioidlaaDoorLtQ
import Derived.Test.YtibkffoeioidlaaDoorTy
import Derived.Test.YtibkffoeioidlaaDoorLtA
import Derived.Test.YtibkffoeioidlaaDoorProg
import Derived.Ground.NamesProg
import Derived.Shelf.Sort.Plain
import Derived.Shelf.Strings.OnBuilder
import Derived.Shelf.Slices.In.SortNone
import Derived.Test.YtibkffoeioidlaaDoorWrY
import Derived.Test.YtibkffoeioidlaaDoorWrW
import Derived.Test.YtibkffoeioidlaaDoorWrO
import Derived.Test.YtibkffoeioidlaaDoorFlOpen
namespace Go.Proofs.YtibkffoeioidlaaDoor
set_option linter.all false
set_option maxRecDepth 4000
open Go.RowKit

def cutM (l : List UInt8) : Int × Int :=
  if l.length = 0 then (0, 0) else if byteAt l 0 ≠ 48 then (0, 4) else if l.length < 2 then (0, 0) else
  let k : Int := byteAt l 1
  if k < 128 then (if l.length < 2 + k then (0, 0) else (2 + k, 0))
  else if k = 128 \/ 132 < k then (0, 8)
  else if getOk l 2 (k - 128) = false then (0, 0)
  else if 1048576 < getV l 2 (k - 128) then (0, 5)
  else if (l.length : Int) < k - 126 + getV l 2 (k - 128) then (0, 0) else (k - 126 + getV l 2 (k - 128), 0)
theorem cutM_eq {l : List UInt8} {a b : Int} (h : cutM l = (a, b)) : Value.tuple #[.int .i64 a, .int .i64 b] = .tuple #[.int .i64 (cutM l).1, .int .i64 (cutM l).2] := by rw [h]
theorem cutM_range (l : List UInt8) : 0 <= (cutM l).1 /\ (cutM l).1 <= l.length /\ 0 <= (cutM l).2 /\ (cutM l).2 <= 8 := by
  unfold cutM
  have := byteAt_lt l 1
  simp only
  split
  . simp
  . split
    . simp
    . split
      . simp
      . split
        . split <;> (simp only; omega)
        . split
          . simp
          . split
            . simp
            . split
              . simp
              . split <;> (simp only; omega)

theorem callGet : Callable Tryd.prog 96 := ⟨_, Tryd.func96, by kernel_rfl, rfl⟩
theorem callFeedCut : Callable Tryd.prog 64 := ⟨_, Tryd.func64, by kernel_rfl, rfl⟩
theorem callNew : Callable Tryd.prog 29 := ⟨_, Tryd.func29, by kernel_rfl, rfl⟩
theorem callAdd : Callable Tryd.prog 30 := ⟨_, Tryd.func30, by kernel_rfl, rfl⟩
theorem callNext : Callable Tryd.prog 31 := ⟨_, Tryd.func31, by kernel_rfl, rfl⟩

set_option maxHeartbeats 1000000 in
theorem feed_Cut (l : List UInt8) (hl : l.length <= 9223372036854775807) (h : Heap) :
    Spec Tryd.prog 64 [str l] h [] (fun v _ H' => H' = [] /\ v = .tuple #[.int .i64 (cutM l).1, .int .i64 (cutM l).2]) := by
  refine Spec.enter Tryd.func64 rfl rfl ?_; intro w0
  repeat' (first | (show G _ (.ops .seq _ (⟨some _, .call { callee := .value (.func 96), args := _, argTypes := _ }, _, _, _, none⟩ :: _) :: _) _ _ _; refine G.call callGet rfl rfl (octet_Get _ _ _ hl (by omega) (by omega) _) Ze ?_; rintro _ h1 H1 ⟨rfl, rfl⟩ hle) | (refine G.atCode ?_; first | refine G.seq ?_ | refine G.region ?_ | refine G.block ?_ | refine G.skip ?_ | refine G.ret ?_ | (refine G.cond rfl ?_ ?_ <;> intro hc <;> (try simp only [tests, reduceCtorEq] at hc) <;> (try exact Zf))) | refine G.endOps ?_ | refine G.endBlk ?_ | (refine G.atGd ?_; first | refine G.guardYes rfl rfl ?_ | refine G.guardNoS rfl rfl rfl ?_ | (refine G.guardS rfl rfl rfl ?_ ?_ <;> intro hc <;> (try simp only [tests, reduceCtorEq] at hc) <;> (try exact Zf))) | (refine G.atBin ?_; first | (refine G.atAdd ?_; first | refine G.arith rfl rfl rfl rfl rfl Zi ?_) | (refine G.atSub ?_; first | refine G.arith rfl rfl rfl rfl rfl Zi ?_) | (refine G.atEql ?_; first | refine G.op rfl rfl ?_ | refine G.eqStr0 rfl rfl rfl ?_) | (refine G.atNeq ?_; first | refine G.op rfl rfl ?_) | refine G.op rfl rfl ?_) | refine G.op rfl rfl ?_ | (refine G.atLen ?_; first | refine G.lenStr rfl (tyy rfl) rfl ?_) | (refine G.atInd ?_; refine G.idxStr rfl rfl (tyy rfl) rfl Zj Zo ?_; intro _) | (refine G.atConv ?_; first | refine G.conv rfl (tyy rfl) (tyy rfl) rfl Zi ?_))
  all_goals (refine G.done2 rfl rfl rfl [] (SubH.nil _) ⟨rfl, cutM_eq ?_⟩; unfold cutM; repeat (first | rw [if_pos (by omega)] | rw [if_neg (by omega)] | rw [if_pos Zp] | rw [if_neg Zp] | rw [if_neg (by simp only [*]; decide)] | rw [if_neg (show ¬ (true = false) from fun e => by cases e)]))

def buf (g : Nat) (s : List UInt8) (bad : Int) : Chunk := .blk g [str s, .int .i64 bad] 125

theorem feed_New (h : Heap) : Spec Tryd.prog 29 [] h [] (fun v _ H' => ∃ g, H' = [buf g [] 0] /\ v = .pointer (some ⟨g, 0, none⟩)) := by
  refine Spec.enter Tryd.func29 rfl rfl ?_; intro w0
  repeat' (first | (refine G.atCode ?_; first | refine G.seq ?_ | refine G.region ?_ | refine G.ret ?_) | refine G.endOps ?_ | refine G.op rfl rfl ?_ | (refine G.atBox ?_; refine G.box rfl rfl rfl ?_; intro _) | (refine G.atBld ?_; refine G.build (tyy rfl) rfl rfl rfl ?_))
  rename_i g
  exact G.done1 rfl rfl _ (SubH.rfl_ _) ⟨g, rfl, rfl⟩

theorem feed_Add (g : Nat) (s : List UInt8) (v : Value) (ps : List (List UInt8)) (h : Heap) (hv : HSl h v 1 (strsR ps)) (hlen : s.length + ps.flatten.length <= 9223372036854775807) :
    Spec Tryd.prog 30 [.pointer (some ⟨g, 0, none⟩), v] h [buf g s 0] (fun v _ H' => H' = [buf g (s ++ ps.flatten) 0] /\ v = .tuple #[]) := by
  have hl := hv.len
  simp only [strsR_length] at hl
  unfold buf
  refine Spec.enter Tryd.func30 rfl rfl ?_; intro w0
  repeat' (first | (refine G.atCode ?_; first | refine G.seq ?_ | refine G.region ?_ | refine G.block ?_ | refine G.skip ?_ | (refine G.cond rfl ?_ ?_ <;> intro hc <;> (try simp only [tests, reduceCtorEq] at hc) <;> (try exact Zf))) | refine G.endOps ?_ | (refine G.atGd ?_; first | refine G.guardYes rfl rfl ?_) | (refine G.atBin ?_; first | (refine G.atEql ?_; first | refine G.eqPtr rfl rfl (tyy rfl) rfl ?_) | (refine G.atNeq ?_; first | refine G.op rfl rfl ?_)) | refine G.op rfl rfl ?_ | (refine G.atLen ?_; first | refine G.lenImmS rfl (tyy rfl) Zl rfl ?_) | (refine G.atLoad ?_; first | refine G.loadOwn1 rfl (tyy rfl) rfl rfl Za rfl rfl ?_) | (refine G.atFld ?_; first | refine G.fieldAddr rfl (tyy rfl) rfl rfl ?_))
  have e0 : (ps.take 0).flatten = [] := rfl
  refine G.loop (σ := Nat) (fun i => [(17, .int .i64 i), (16, .int .i64 ps.length), (15, v), (0, .pointer (some ⟨g, 0, none⟩))]) (fun i => [.blk g [str (s ++ (ps.take i).flatten), .int .i64 0] 125]) (fun i _ => i <= ps.length) (fun i => ps.length - i) 0
    ⟨rfl, rfl, rfl, rfl, trivial⟩ (by rw [e0, List.append_nil]; exact SubH.rfl_ _) (Nat.zero_le _) ?_
  intro i h1 hle hi
  have hv1 := hv.mono hle
  clear hv
  have hfl : i < ps.length -> (ps.take i).flatten.length + (strAt ps i).length <= ps.flatten.length := fun hlt => by
    have h1 : ps.take (i + 1) = ps.take i ++ [strAt ps i] := by rw [List.take_succ_eq_append_getElem hlt]; simp [strAt, hlt]
    have h2 : (ps.take (i + 1)).flatten.length <= ps.flatten.length := by
      conv => rhs; rw [<- List.take_append_drop (i + 1) ps]
      simp only [List.flatten_append, List.length_append]; omega
    rw [h1] at h2
    simpa using h2
  repeat' (first | (refine G.atCode ?_; first | refine G.seq ?_ | refine G.region ?_ | refine G.block ?_ | refine G.skip ?_ | refine G.exit rfl ?_ | (refine G.cond rfl ?_ ?_ <;> intro hc <;> (try simp only [tests, reduceCtorEq] at hc) <;> (try exact Zf))) | refine G.endOps ?_ | refine G.endBlk ?_ | (refine G.atBin ?_; first | (refine G.atAdd ?_; first | refine G.arith rfl rfl rfl rfl rfl Zi ?_ | refine G.catStr rfl rfl rfl Zo ?_) | refine G.op rfl rfl ?_) | refine G.op rfl rfl ?_ | (refine G.atLoad ?_; first | refine G.loadOwn1 rfl (tyy rfl) rfl rfl Za rfl rfl ?_ | refine G.loadImm1 rfl (tyy rfl) rfl rfl Zp rfl ?_) | (refine G.atFld ?_; first | refine G.fieldAddr rfl (tyy rfl) rfl rfl ?_) | (refine G.atSto ?_; refine G.storeOwn rfl rfl (tyy rfl) Za rfl rfl rfl rfl ?_) | (refine G.atIdx ?_; first | (refine G.idxImmS rfl rfl (tyy rfl) (tyy rfl) Zl Zj rfl Zo ?_; intro _ _)))
  . have hlt : i < ps.length := by omega
    have h2 : ps.take (i + 1) = ps.take i ++ [strAt ps i] := by rw [List.take_succ_eq_append_getElem hlt]; simp [strAt, hlt]
    refine G.again (i + 1) ⟨sint (by omega), rfl, rfl, rfl, trivial⟩ ?_ hlt (Heap.le_refl _) (by omega)
    rw [h2, List.flatten_append, ← List.append_assoc]
    simp only [List.flatten_cons, List.flatten_nil, List.append_nil]
    exact SubH.rfl_ _
  . have h2 : ps.take i = ps := List.take_of_length_le (by omega)
    rw [h2]
    exact G.done (rs := []) rfl .nil rfl _ (SubH.rfl_ _) ⟨rfl, rfl⟩

set_option maxHeartbeats 1000000 in
theorem feed_Next_err (g : Nat) (s : List UInt8) (hl : s.length <= 9223372036854775807) (e : Int) (he : (cutM s).2 = e) (h0 : e ≠ 0) (h : Heap) :
    Spec Tryd.prog 31 [.pointer (some ⟨g, 0, none⟩)] h [buf g s 0] (fun v _ H' => H' = [buf g [] e] /\ v = .tuple #[str [], .bool false, .int .i64 e]) := by
  unfold buf
  refine Spec.enter Tryd.func31 rfl rfl ?_; intro w0
  repeat' (first | (show G _ (.ops .seq _ (⟨some _, .call { callee := .value (.func 64), args := _, argTypes := _ }, _, _, _, none⟩ :: _) :: _) _ _ _; refine G.call callFeedCut rfl rfl (feed_Cut _ hl _) Ze ?_; rintro _ h1 H1 ⟨rfl, rfl⟩ hle; rw [he]) | (refine G.atCode ?_; first | refine G.seq ?_ | refine G.region ?_ | refine G.skip ?_ | refine G.drawAll slB Zw mixedOk Zw ?_ | refine G.ret ?_ | (refine G.cond rfl ?_ ?_ <;> intro hc <;> (try simp only [tests, reduceCtorEq] at hc) <;> (try exact Zf))) | refine G.endOps ?_ | refine G.endStill ?_ | (refine G.atBin ?_; first | (refine G.atEql ?_; first | refine G.op rfl rfl ?_ | refine G.eqPtr rfl rfl (tyy rfl) rfl ?_) | (refine G.atNeq ?_; first | refine G.op rfl rfl ?_)) | refine G.op rfl rfl ?_ | (refine G.atLoad ?_; first | refine G.loadOwn1 rfl (tyy rfl) rfl rfl Za rfl rfl ?_) | (refine G.atFld ?_; first | refine G.fieldAddr rfl (tyy rfl) rfl rfl ?_) | (refine G.atSto ?_; refine G.storeOwn rfl rfl (tyy rfl) Za rfl rfl rfl rfl ?_))
  exact G.done3 rfl rfl rfl rfl _ (SubH.rfl_ _) ⟨rfl, rfl⟩

set_option maxHeartbeats 1000000 in
theorem feed_Next (g : Nat) (s : List UInt8) (hl : s.length <= 9223372036854775807) (n : Nat) (hn : (cutM s).1 = n) (he : (cutM s).2 = 0) (h : Heap) :
    Spec Tryd.prog 31 [.pointer (some ⟨g, 0, none⟩)] h [buf g s 0] (fun v _ H' => H' = [buf g (s.drop n) 0] /\ v = .tuple #[str (s.take n), .bool (decide (0 < n)), .int .i64 0]) := by
  have hr := cutM_range s
  rw [hn] at hr
  have hn1 : (n : Int) <= s.length := hr.2.1
  clear hr
  unfold buf
  refine Spec.enter Tryd.func31 rfl rfl ?_; intro w0
  repeat' (first | (show G _ (.ops .seq _ (⟨some _, .call { callee := .value (.func 64), args := _, argTypes := _ }, _, _, _, none⟩ :: _) :: _) _ _ _; refine G.call callFeedCut rfl rfl (feed_Cut _ hl _) Ze ?_; rintro _ h1 H1 ⟨rfl, rfl⟩ hle; rw [he, hn]) | (refine G.atCode ?_; first | refine G.seq ?_ | refine G.region ?_ | refine G.skip ?_ | refine G.ret ?_ | (refine G.cond rfl ?_ ?_ <;> intro hc <;> (try simp only [tests, reduceCtorEq] at hc) <;> (try exact Zf))) | refine G.endOps ?_ | (refine G.atBin ?_; first | (refine G.atEql ?_; first | refine G.op rfl rfl ?_ | refine G.eqPtr rfl rfl (tyy rfl) rfl ?_) | (refine G.atNeq ?_; first | refine G.op rfl rfl ?_) | refine G.op rfl rfl ?_) | refine G.op rfl rfl ?_ | (refine G.atLoad ?_; first | refine G.loadOwn1 rfl (tyy rfl) rfl rfl Za rfl rfl ?_) | (refine G.atFld ?_; first | refine G.fieldAddr rfl (tyy rfl) rfl rfl ?_) | (refine G.atSto ?_; refine G.storeOwn rfl rfl (tyy rfl) Za rfl rfl rfl rfl ?_) | (refine G.atSlc ?_; first | refine G.dropStr rfl rfl (tyy rfl) rfl Zj Zo ?_ | refine G.takeStr rfl rfl (tyy rfl) rfl Zj Zo ?_))
  refine G.done3 rfl rfl rfl rfl _ (SubH.rfl_ _) ⟨rfl, ?_⟩
  rw [show decide ((0 : Int) < (n : Int)) = decide (0 < n) by simp]
end Go.Proofs.YtibkffoeioidlaaDoor
namespace Go.Proofs.YtibkffoeioidlaaDoor
set_option linter.all false
set_option maxRecDepth 4000
open Go.RowKit

theorem cut_bnd {s : List UInt8} {n m : Int} (h0 : byteAt s 0 = 48) (hb : bndM s = (n, m, 0)) (hl : n + m <= s.length) : cutM s = (n + m, 0) := by
  unfold bndM at hb
  simp only at hb
  split at hb
  . simp only [Prod.mk.injEq] at hb; omega
  . rename_i c1
    unfold cutM
    simp only
    rw [if_neg (by omega), if_neg (by omega), if_neg (by omega)]
    split at hb
    . rename_i c2
      simp only [Prod.mk.injEq] at hb; obtain ⟨e1, e2, _⟩ := hb
      rw [if_pos c2, if_neg (by omega)]
      refine Prod.ext ?_ rfl
      simp only; omega
    . rename_i c2
      rw [if_neg c2]
      split at hb
      . simp only [Prod.mk.injEq] at hb; omega
      . rename_i c3
        rw [if_neg c3]
        split at hb
        . simp only [Prod.mk.injEq] at hb; omega
        . rename_i c4
          rw [if_neg c4]
          split at hb
          . simp only [Prod.mk.injEq] at hb; omega
          . rename_i c5
            simp only [Prod.mk.injEq] at hb; obtain ⟨e1, e2, _⟩ := hb
            rw [if_neg c5, if_neg (by omega)]
            refine Prod.ext ?_ rfl
            simp only; omega
def Msg (w : List UInt8) : Prop := 0 < w.length /\ ∀ t, cutM (w ++ t) = ((w.length : Int), 0)
theorem msg_put {ks : List Nd} (h : (putM 1 (.mk 48 [] ks)).2 = 0) : Msg (putM 1 (.mk 48 [] ks)).1 := by
  obtain ⟨h1, h2, h3, h4, _, _, _, h8, h9⟩ := putM_ok h
  refine ⟨by have := putM_pos h; omega, fun t => ?_⟩
  rw [h9, List.append_assoc]
  have hb := bnd_head 48 _ h8 (([] : List UInt8) ++ (putsM (1 + 1) ks).1 ++ t)
  rw [cut_bnd (head_byte 48 _ ⟨by omega, by omega⟩ _) hb (by simp only [List.length_append]; omega)]
  refine Prod.ext ?_ rfl
  simp only [List.length_append]; omega
theorem flatten_cons (w : List UInt8) (ws : List (List UInt8)) : (w :: ws).flatten = w ++ ws.flatten := rfl
end Go.Proofs.YtibkffoeioidlaaDoor
namespace Go.Proofs.YtibkffoeioidlaaDoor
set_option linter.all false
set_option maxRecDepth 4000
open Go.RowKit

theorem St.grow {c : Ctx} {h : Heap} {H : List Chunk} {w w' : World} (s : St c h H w) {os : Array Obj} (hh : w'.heap = w.heap ++ os) (ho : w'.os = w.os) (ht : w'.tape = w.tape) (hp : w'.output = w.output) : St c h H w' := by
  have hk : ∀ b, b < w.heap.size -> w'.heap[b]? = w.heap[b]? := fun b hb => by rw [hh, Array.getElem?_append_left hb]
  refine ⟨ho.trans s.os, ht.trans s.tape, hp.trans s.output, by rw [hh, Array.size_append]; have := s.size; omega, fun b hb hK => ?_, s.mono, fun b o hb => ?_, fun x hx => ?_, s.nodup, s.sep, s.ksub, s.isub⟩
  . rw [hk b (Nat.lt_of_lt_of_le hb s.size)]; exact s.fr b hb hK
  . rw [hk b (lt_of_get (s.imm b o hb))]; exact s.imm b o hb
  . exact Chunk.holds_congr (fun g hg => hk g (Chunk.holds_lt (s.own x hx) g hg)) (s.own x hx)
theorem St.below {h : Heap} {H : List Chunk} {w w' : World} (s : StI h H w) (b : Below w.heap.size w w') : St ⟨w, keys H, h⟩ h H w' := by
  have hk : ∀ x ∈ H, ∀ g, x.key = some g -> w'.heap[g]? = w.heap[g]? := fun x hx g hg => b.block g (Chunk.holds_lt (s.own x hx) g hg)
  exact ⟨b.os, b.tape, b.output, b.size, fun q hq _ => b.block q hq, Heap.le_refl h, fun q o ho => by
      have h1 := s.imm q o ho
      rw [b.block q (lt_of_get h1)]; exact h1, fun x hx => Chunk.holds_congr (hk x hx) (s.own x hx), s.nodup, s.sep, fun g hg => .inl hg, fun q o ho => .inl ⟨o, ho⟩⟩
end Go.Proofs.YtibkffoeioidlaaDoor
namespace Go.Proofs.YtibkffoeioidlaaDoor
set_option linter.all false
set_option maxRecDepth 4000
open Go.RowKit

theorem RdR.ok_inv {m : Ms} {u : Value} {h' : Heap} (h : RdR (.ok m) u h') : ∃ pv kv nv av mv cv, u = .tuple #[.agg (msR m pv kv nv av mv cv).toArray, .int .i64 0] /\ MsV h' m pv kv nv av mv cv := by
  obtain ⟨m', pv, kv, nv, av, mv, cv, e, rfl, hV, ⟨rfl, h⟩ | ⟨_, h, _⟩⟩ := h
  . injection h with h
    subst h
    exact ⟨_, _, _, _, _, _, rfl, hV⟩
  . cases h
theorem RdR.err_inv {x : Int} {u : Value} {h' : Heap} (h : RdR (.error x) u h') : x ≠ 0 /\ ∃ pv kv nv av mv cv, u = .tuple #[.agg (msR zM pv kv nv av mv cv).toArray, .int .i64 x] /\ MsV h' zM pv kv nv av mv cv := by
  obtain ⟨m', pv, kv, nv, av, mv, cv, e, rfl, hV, ⟨rfl, h⟩ | ⟨he, h, rfl⟩⟩ := h
  . cases h
  . injection h with h
    subst h
    exact ⟨he, _, _, _, _, _, _, rfl, hV⟩
def awN : Ms := { zM with id := 1, op := 0, ver := 3 }
theorem aw2 : writeM awN = ([48, 12, 2, 1, 1, 96, 7, 2, 1, 3, 4, 0, 128, 0], 0) := by kernel_rfl
theorem awN_I : MsI awN := by
  constructor <;> first | (simp only [inR, awN, zM]; omega) | (intro x hx; cases hx)
end Go.Proofs.YtibkffoeioidlaaDoor
namespace Go.Proofs.YtibkffoeioidlaaDoor
set_option linter.all false
set_option maxRecDepth 4000
open Go.RowKit

theorem write_len {m : Ms} (h : (writeM m).2 = 0) : 2 <= (writeM m).1.length /\ (writeM m).1.length <= 1048581 /\ Msg (writeM m).1 := by
  obtain ⟨_, _, _, h4, h5⟩ := write_ok h
  rw [h5]
  have hp := putM_pos h4
  unfold nodeM sqN at h4 hp ⊢
  refine ⟨hp, ?_, msg_put h4⟩
  obtain ⟨_, _, _, _, _, _, _, h8, h9⟩ := putM_ok h4
  rw [h9, List.length_append]
  have := headB_len 48 (([] : Bs) ++ (putsM (1 + 1) (numN 2 m.id :: elemM m :: (if m.ctls.length = 0 then [] else [.mk 160 [] (m.ctls.map ctlN)]))).1).length
  omega
end Go.Proofs.YtibkffoeioidlaaDoor
namespace Go.Proofs.YtibkffoeioidlaaDoor
set_option linter.all false
set_option maxRecDepth 4000

theorem byteAt_append {s t : List UInt8} {i : Nat} (h : i < s.length) : byteAt (s ++ t) i = byteAt s i := by
  simp [byteAt, List.getElem?_append_left h]

theorem getOk_mono {s t : List UInt8} {a n : Int} (h : getOk s a n = true) : getOk (s ++ t) a n = true := by
  unfold getOk at *
  simp only [decide_eq_true_eq, List.length_append] at *
  omega
theorem getV_append {s t : List UInt8} {a n : Int} (h : getOk s a n = true) : getV (s ++ t) a n = getV s a n := by
  unfold getV
  rw [if_pos h, if_pos (getOk_mono h)]
  unfold getOk at h
  simp only [decide_eq_true_eq] at h
  congr 1
  rw [List.drop_append_of_le_length (by omega), List.take_append_of_le_length (by simp; omega)]

theorem cutM_app_msg {s t : List UInt8} {n : Int} (h : cutM s = (n, 0)) (hn : 0 < n) : cutM (s ++ t) = (n, 0) := by
  have hb := byteAt_lt s 1
  unfold cutM at h
  simp only at h
  split at h
  . simp at h; omega
  . rename_i h0
    split at h
    . simp at h
    . rename_i h1
      split at h
      . simp at h; omega
      . rename_i h2
        have e0 : byteAt (s ++ t) 0 = byteAt s 0 := byteAt_append (by omega)
        have e1 : byteAt (s ++ t) 1 = byteAt s 1 := byteAt_append (by omega)
        have el : (s ++ t).length = s.length + t.length := List.length_append
        unfold cutM
        simp only [e0, e1, el]
        rw [if_neg (by omega), if_neg h1, if_neg (by omega)]
        split at h
        . rename_i h3
          rw [if_pos h3]
          split at h
          . simp at h; omega
          . simp only [Prod.mk.injEq, and_true] at h
            rw [if_neg (by omega), h]
        . rename_i h3
          rw [if_neg h3]
          split at h
          . simp at h
          . rename_i h4
            rw [if_neg h4]
            split at h
            . simp at h; omega
            . rename_i h5
              have h5' : getOk s 2 (↑(byteAt s 1) - 128) = true := by simpa using h5
              rw [getOk_mono h5', getV_append h5']
              split at h
              . simp at h
              . rename_i h6
                rw [if_neg (by simp), if_neg h6]
                split at h
                . simp at h; omega
                . simp only [Prod.mk.injEq, and_true] at h
                  rw [if_neg (by omega), h]

theorem cutM_app_err {s t : List UInt8} {n e : Int} (h : cutM s = (n, e)) (he : e ≠ 0) : cutM (s ++ t) = (n, e) := by
  have hb := byteAt_lt s 1
  unfold cutM at h
  simp only at h
  split at h
  . simp at h; omega
  . rename_i h0
    have e0 : byteAt (s ++ t) 0 = byteAt s 0 := byteAt_append (by omega)
    have el : (s ++ t).length = s.length + t.length := List.length_append
    unfold cutM
    simp only [e0, el]
    rw [if_neg (by omega)]
    split at h
    . rename_i h1; rw [if_pos h1, h]
    . rename_i h1
      rw [if_neg h1]
      split at h
      . simp at h; omega
      . rename_i h2
        have e1 : byteAt (s ++ t) 1 = byteAt s 1 := byteAt_append (by omega)
        simp only [e1]
        rw [if_neg (by omega)]
        split at h
        . split at h <;> (simp at h; omega)
        . rename_i h3
          rw [if_neg h3]
          split at h
          . rename_i h4; rw [if_pos h4, h]
          . rename_i h4
            rw [if_neg h4]
            split at h
            . simp at h; omega
            . rename_i h5
              have h5' : getOk s 2 (↑(byteAt s 1) - 128) = true := by simpa using h5
              rw [getOk_mono h5', getV_append h5', if_neg (by simp)]
              split at h
              . rename_i h6; rw [if_pos h6, h]
              . split at h <;> (simp at h; omega)

def allM : Nat -> List UInt8 -> List (List UInt8) × Int × List UInt8
  | 0, s => ([], 0, s)
  | f + 1, s =>
    if (cutM s).2 ≠ 0 then ([], (cutM s).2, []) else
    if (cutM s).1 = 0 then ([], 0, s) else
    let r := allM f (s.drop (cutM s).1.toNat)
    (s.take (cutM s).1.toNat :: r.1, r.2)
def allS (s : List UInt8) : List (List UInt8) × Int × List UInt8 := allM s.length s

theorem allM_fuel : ∀ (f g : Nat) (s : List UInt8), s.length <= f -> s.length <= g -> allM f s = allM g s
  | 0, 0, _, _, _ => rfl
  | 0, g + 1, s, hf, _ => by
    have : s = [] := List.eq_nil_of_length_eq_zero (by omega)
    subst this; simp [allM, cutM]
  | f + 1, 0, s, _, hg => by
    have : s = [] := List.eq_nil_of_length_eq_zero (by omega)
    subst this; simp [allM, cutM]
  | f + 1, g + 1, s, hf, hg => by
    simp only [allM]
    split
    . rfl
    . split
      . rfl
      . rename_i h1 h2
        have hr := cutM_range s
        have := allM_fuel f g (s.drop (cutM s).1.toNat) (by simp; omega) (by simp; omega)
        rw [this]

theorem allS_eq (s : List UInt8) : allS s = if (cutM s).2 ≠ 0 then ([], (cutM s).2, []) else if (cutM s).1 = 0 then ([], 0, s) else
    (s.take (cutM s).1.toNat :: (allS (s.drop (cutM s).1.toNat)).1, (allS (s.drop (cutM s).1.toNat)).2) := by
  unfold allS
  cases hl : s.length with
  | zero =>
    have : s = [] := List.eq_nil_of_length_eq_zero hl
    subst this; simp [allM, cutM]
  | succ n =>
    simp only [allM]
    split
    . rfl
    . split
      . rfl
      . rename_i h1 h2
        have hr := cutM_range s
        rw [allM_fuel n (s.drop (cutM s).1.toNat).length _ (by simp; omega) (Nat.le_refl _)]

theorem allS_append : ∀ (n : Nat) (a b : List UInt8), a.length <= n -> allS (a ++ b) =
    if (allS a).2.1 ≠ 0 then ((allS a).1, (allS a).2.1, []) else ((allS a).1 ++ (allS ((allS a).2.2 ++ b)).1, (allS ((allS a).2.2 ++ b)).2)
  | 0, a, b, hn => by
    have : a = [] := List.eq_nil_of_length_eq_zero (by omega)
    subst this
    simp [show allS [] = ([], 0, []) from rfl]
  | n + 1, a, b, hn => by
    have hr := cutM_range a
    rw [allS_eq a]
    by_cases h1 : (cutM a).2 ≠ 0
    . have h2 : cutM (a ++ b) = cutM a := cutM_app_err (s := a) (t := b) (n := (cutM a).1) (e := (cutM a).2) rfl h1
      rw [allS_eq (a ++ b), h2, if_pos h1, if_pos h1]
      simp [h1]
    . rw [if_neg h1]
      by_cases h2 : (cutM a).1 = 0
      . rw [if_pos h2]
        simp
      . rw [if_neg h2]
        have h1' : (cutM a).2 = 0 := by simpa using h1
        have h3 : cutM (a ++ b) = cutM a := by
          have := cutM_app_msg (s := a) (t := b) (n := (cutM a).1) (by rw [<- h1']) (by omega)
          rw [this, ← h1']
        rw [allS_eq (a ++ b), h3, if_neg h1, if_neg h2]
        have h4 : (a ++ b).take (cutM a).1.toNat = a.take (cutM a).1.toNat := List.take_append_of_le_length (by omega)
        have h5 : (a ++ b).drop (cutM a).1.toNat = a.drop (cutM a).1.toNat ++ b := List.drop_append_of_le_length (by omega)
        rw [h4, h5, allS_append n (a.drop (cutM a).1.toNat) b (by simp; omega)]
        simp only
        split
        . rfl
        . simp

abbrev B8 := List UInt8 × Int
def addB (b : B8) (p : List UInt8) : B8 := if b.2 = 0 then (b.1 ++ p, 0) else b
def allB (b : B8) : List (List UInt8) × B8 := if b.2 = 0 then ((allS b.1).1, ((allS b.1).2.2, (allS b.1).2.1)) else ([], ([], b.2))

def Told (a : List UInt8) (m : List (List UInt8)) (b : B8) : Prop :=
  ∀ t, allS (a ++ t) = if b.2 = 0 then (m ++ (allS (b.1 ++ t)).1, (allS (b.1 ++ t)).2) else (m, b.2, [])
theorem Told.start : Told [] [] ([], 0) := fun t => by simp
theorem Told.add {a : List UInt8} {m : List (List UInt8)} {b : B8} (h : Told a m b) (p : List UInt8) : Told (a ++ p) m (addB b p) := fun t => by
  rw [List.append_assoc, h (p ++ t)]
  unfold addB
  by_cases hb : b.2 = 0
  . simp [hb]
  . simp [hb]
theorem Told.all {a : List UInt8} {m : List (List UInt8)} {b : B8} (h : Told a m b) : Told a (m ++ (allB b).1) (allB b).2 := fun t => by
  rw [h t]
  unfold allB
  by_cases hb : b.2 = 0
  . rw [if_pos hb, if_pos hb, allS_append b.1.length b.1 t (Nat.le_refl _)]
    simp only
    by_cases he : (allS b.1).2.1 = 0
    . rw [if_neg (by simpa using he), if_pos he, List.append_assoc]
    . rw [if_pos he, if_neg he]
  . rw [if_neg hb, if_neg hb]
    simp [hb]
theorem Told.whole {s : List UInt8} {m : List (List UInt8)} {b : B8} (h : Told s m b) : (allS s).1 = m ++ (allB b).1 /\ (allS s).2.1 = (allB b).2.2 /\ (allS s).2.2 = (allB b).2.1 := by
  have := h.all []
  rw [List.append_nil] at this
  have h2 := h []
  rw [List.append_nil] at h2
  unfold allB
  by_cases hb : b.2 = 0
  . rw [if_pos hb] at h2
    rw [if_pos hb]
    simp only [List.append_nil] at h2
    rw [h2]
    exact ⟨rfl, rfl, rfl⟩
  . rw [if_neg hb] at h2
    rw [if_neg hb]
    rw [h2]
    simp
end Go.Proofs.YtibkffoeioidlaaDoor
namespace Go.Proofs.YtibkffoeioidlaaDoor
set_option linter.all false
set_option maxRecDepth 4000
open Go.RowKit

theorem callCnNew : Callable Tryd.prog 14 := ⟨_, Tryd.func14, by kernel_rfl, rfl⟩
theorem callCnClosed : Callable Tryd.prog 17 := ⟨_, Tryd.func17, by kernel_rfl, rfl⟩
theorem callCnFeed : Callable Tryd.prog 15 := ⟨_, Tryd.func15, by kernel_rfl, rfl⟩
theorem callRequest : Callable Tryd.prog 35 := ⟨_, Tryd.func35, by kernel_rfl, rfl⟩
def reqM (op : Int) : Bool := decide (op = 0 \/ op = 2 \/ op = 3 \/ op = 6 \/ op = 8 \/ op = 10 \/ op = 12 \/ op = 14 \/ op = 16 \/ op = 23)
structure Cn where
  out : List Ms
  bad : Bool
  closed : Bool
  rest : Bs
  err : Int
def cnOne (s : Bs) : Except Bool Ms := match readM s with
  | .error _ => .error true
  | .ok m => if m.id = 0 \/ reqM m.op = false then .error true else if m.op = 2 then .error false else .ok m
def connM : Nat -> Bs -> Cn
  | 0, s => ⟨[], false, false, s, 0⟩
  | f + 1, s =>
    if (cutM s).2 ≠ 0 then ⟨[], true, true, [], (cutM s).2⟩ else
    if (cutM s).1 = 0 then ⟨[], false, false, s, 0⟩ else
    match cnOne (s.take (cutM s).1.toNat) with
    | .error b => ⟨[], b, true, s.drop (cutM s).1.toNat, 0⟩
    | .ok m => { connM f (s.drop (cutM s).1.toNat) with out := m :: (connM f (s.drop (cutM s).1.toNat)).out }
def connS (s : Bs) : Cn := connM (s.length + 1) s
theorem connM_fuel : ∀ (f g : Nat) (s : Bs), s.length < f -> s.length < g -> connM f s = connM g s
  | 0, _, s, hf, _ => by omega
  | f + 1, 0, s, _, hg => by omega
  | f + 1, g + 1, s, hf, hg => by
    have hr := cutM_range s
    rw [connM, connM]
    by_cases h1 : (cutM s).2 ≠ 0
    . rw [if_pos h1, if_pos h1]
    . rw [if_neg h1, if_neg h1]
      by_cases h2 : (cutM s).1 = 0
      . rw [if_pos h2, if_pos h2]
      . rw [if_neg h2, if_neg h2]
        rw [connM_fuel f g (s.drop (cutM s).1.toNat) (by rw [List.length_drop]; omega) (by rw [List.length_drop]; omega)]
theorem connS_err {s : Bs} (h : (cutM s).2 ≠ 0) : connS s = ⟨[], true, true, [], (cutM s).2⟩ := by
  unfold connS
  rw [connM, if_pos h]
theorem connS_none {s : Bs} (h : (cutM s).2 = 0) (h0 : (cutM s).1 = 0) : connS s = ⟨[], false, false, s, 0⟩ := by
  unfold connS
  rw [connM, if_neg (by omega), if_pos h0]
theorem connS_stop {s : Bs} (h : (cutM s).2 = 0) (h0 : (cutM s).1 ≠ 0) {b : Bool} (ho : cnOne (s.take (cutM s).1.toNat) = .error b) : connS s = ⟨[], b, true, s.drop (cutM s).1.toNat, 0⟩ := by
  unfold connS
  rw [connM, if_neg (by omega), if_neg h0, ho]
theorem connS_msg {s : Bs} (h : (cutM s).2 = 0) (h0 : (cutM s).1 ≠ 0) {m : Ms} (ho : cnOne (s.take (cutM s).1.toNat) = .ok m) : connS s = { connS (s.drop (cutM s).1.toNat) with out := m :: (connS (s.drop (cutM s).1.toNat)).out } := by
  have hr := cutM_range s
  have hf : connM s.length (s.drop (cutM s).1.toNat) = connS (s.drop (cutM s).1.toNat) := connM_fuel _ _ _ (by rw [List.length_drop]; omega) (by omega)
  rw [<- hf]
  conv => lhs; unfold connS
  rw [connM, if_neg (by omega), if_neg h0, ho]
abbrev CnH (gc gb : Nat) (wv : Value) (s : Bs) (e : Int) (closed : Bool) : List Chunk := [.blk gc [wv, .pointer (some ⟨gb, 0, none⟩), .bool closed] 79, .blk gb [str s, .int .i64 e] 125]
theorem conn_New (h : Heap) : Spec Tryd.prog 14 [] h [] (fun u _ H' => ∃ gc gb, u = .pointer (some ⟨gc, 0, none⟩) /\ H' = CnH gc gb (.slice none 0 0) [] 0 false) := by
  refine Spec.enter Tryd.func14 rfl rfl ?_; intro w0
  repeat' (first | (show G _ (.ops .seq _ (⟨some _, .call { callee := .value (.func 29), args := _, argTypes := _ }, _, _, _, none⟩ :: _) :: _) _ _ _; refine G.call callNew rfl rfl (feed_New _) Ze ?_; rintro _ h1 H1 ⟨g, rfl, rfl⟩ hle) | (refine G.atCode ?_; first | refine G.seq ?_ | refine G.region ?_ | refine G.ret ?_) | refine G.endOps ?_ | refine G.op rfl rfl ?_ | (refine G.atBox ?_; refine G.box rfl rfl rfl ?_; intro _) | (refine G.atBld ?_; refine G.build (tyy rfl) rfl rfl rfl ?_))
  all_goals exact G.done1 rfl rfl _ Zu ⟨_, _, rfl, rfl⟩
theorem conn_Closed (gc : Nat) (wv pv : Value) (b : Bool) (h : Heap) : Spec Tryd.prog 17 [.pointer (some ⟨gc, 0, none⟩)] h [.blk gc [wv, pv, .bool b] 79] (fun u _ H' => u = .bool b /\ H' = [.blk gc [wv, pv, .bool b] 79]) := by
  refine Spec.enter Tryd.func17 rfl rfl ?_; intro w0
  repeat' (first | (refine G.atCode ?_; first | refine G.seq ?_ | refine G.region ?_ | refine G.ret ?_) | refine G.endOps ?_ | (refine G.atGd ?_; first | refine G.guardYes rfl rfl ?_) | (refine G.atBin ?_; first | (refine G.atEql ?_; first | refine G.eqPtr rfl rfl (tyy rfl) rfl ?_)) | refine G.op rfl rfl ?_ | (refine G.atLoad ?_; first | refine G.loadOwn1 rfl (tyy rfl) rfl rfl Za rfl rfl ?_) | (refine G.atFld ?_; first | refine G.fieldAddr rfl (tyy rfl) rfl rfl ?_))
  all_goals first | (exfalso; simp_all; done) | exact G.done1 rfl rfl _ Zu ⟨rfl, rfl⟩
theorem conn_Request (op : Int) (h : Heap) : Spec Tryd.prog 35 [.int .i64 op] h [] (fun u _ H' => u = .bool (reqM op) /\ H' = []) := by
  refine Spec.enter Tryd.func35 rfl rfl ?_; intro w0
  repeat' (first | (refine G.atCode ?_; first | refine G.seq ?_ | refine G.region ?_ | refine G.block ?_ | refine G.skip ?_ | refine G.ret ?_ | (refine G.cond rfl ?_ ?_ <;> intro hc <;> (try simp only [tests, reduceCtorEq] at hc) <;> (try exact Zf))) | refine G.endOps ?_ | refine G.endBlk ?_ | (refine G.atBin ?_; first | (refine G.atEql ?_; first | refine G.op rfl rfl ?_)) | refine G.op rfl rfl ?_)
  all_goals first | (exfalso; omega) | exact G.done1 rfl rfl [] (SubH.nil _) ⟨congrArg Value.bool (decide_eq_true (by omega)).symm, rfl⟩ | exact G.done1 rfl rfl [] (SubH.nil _) ⟨congrArg Value.bool (decide_eq_false (by omega)).symm, rfl⟩
end Go.Proofs.YtibkffoeioidlaaDoor
