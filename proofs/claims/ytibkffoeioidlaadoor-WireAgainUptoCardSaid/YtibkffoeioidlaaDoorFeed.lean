/- Walks of package feed. -/
import Derived.Test.YtibkffoeioidlaaDoorTlvN
namespace Go.Proofs.YtibkffoeioidlaaDoor
set_option linter.all false
set_option maxRecDepth 4000
open Go.RowKit

def cutM (l : List UInt8) : Int × Int :=
  if l.length = 0 then (0, 0) else if byteAt l 0 ≠ 48 then (0, 4) else if l.length < 2 then (0, 0) else
  let k : Int := byteAt l 1
  if k < 128 then (if l.length < 2 + k then (0, 0) else (2 + k, 0))
  else if k = 128 \/ 132 < k then (0, 8)
  else if getOk l 2 (k - 128) = false then (0, 0)
  else if 1048576 < getV l 2 (k - 128) then (0, 5)
  else if (l.length : Int) < k - 126 + getV l 2 (k - 128) then (0, 0) else (k - 126 + getV l 2 (k - 128), 0)
theorem cutM_eq {l : List UInt8} {a b : Int} (h : cutM l = (a, b)) : Value.tuple #[.int .i64 a, .int .i64 b] = .tuple #[.int .i64 (cutM l).1, .int .i64 (cutM l).2] := by rw [h]
theorem cutM_range (l : List UInt8) : 0 <= (cutM l).1 /\ (cutM l).1 <= l.length /\ 0 <= (cutM l).2 /\ (cutM l).2 <= 8 := by
  unfold cutM
  have := byteAt_lt l 1
  simp only
  split
  . simp
  . split
    . simp
    . split
      . simp
      . split
        . split <;> (simp only; omega)
        . split
          . simp
          . split
            . simp
            . split
              . simp
              . split <;> (simp only; omega)

theorem callGet : Callable Tryd.prog 96 := ⟨_, Tryd.func96, by kernel_rfl, rfl⟩
theorem callFeedCut : Callable Tryd.prog 64 := ⟨_, Tryd.func64, by kernel_rfl, rfl⟩
theorem callNew : Callable Tryd.prog 29 := ⟨_, Tryd.func29, by kernel_rfl, rfl⟩
theorem callAdd : Callable Tryd.prog 30 := ⟨_, Tryd.func30, by kernel_rfl, rfl⟩
theorem callNext : Callable Tryd.prog 31 := ⟨_, Tryd.func31, by kernel_rfl, rfl⟩

set_option maxHeartbeats 1000000 in
theorem feed_Cut (l : List UInt8) (hl : l.length <= 9223372036854775807) (h : Heap) :
    Spec Tryd.prog 64 [str l] h [] (fun v _ H' => H' = [] /\ v = .tuple #[.int .i64 (cutM l).1, .int .i64 (cutM l).2]) := by
  refine Spec.enter Tryd.func64 rfl rfl ?_; intro w0
  repeat' (first | (show G _ (.ops .seq _ (⟨some _, .call { callee := .value (.func 96), args := _, argTypes := _ }, _, _, _, none⟩ :: _) :: _) _ _ _; refine G.call callGet rfl rfl (octet_Get _ _ _ hl (by omega) (by omega) _) Ze ?_; rintro _ h1 H1 ⟨rfl, rfl⟩ hle) | (refine G.atCode ?_; first | refine G.seq ?_ | refine G.region ?_ | refine G.block ?_ | refine G.skip ?_ | refine G.ret ?_ | (refine G.cond rfl ?_ ?_ <;> intro hc <;> (try simp only [tests, reduceCtorEq] at hc) <;> (try exact Zf))) | refine G.endOps ?_ | refine G.endBlk ?_ | (refine G.atGd ?_; first | refine G.guardYes rfl rfl ?_ | refine G.guardNoS rfl rfl rfl ?_ | (refine G.guardS rfl rfl rfl ?_ ?_ <;> intro hc <;> (try simp only [tests, reduceCtorEq] at hc) <;> (try exact Zf))) | (refine G.atBin ?_; first | (refine G.atAdd ?_; first | refine G.arith rfl rfl rfl rfl rfl Zi ?_) | (refine G.atSub ?_; first | refine G.arith rfl rfl rfl rfl rfl Zi ?_) | (refine G.atEql ?_; first | refine G.op rfl rfl ?_ | refine G.eqStr0 rfl rfl rfl ?_) | (refine G.atNeq ?_; first | refine G.op rfl rfl ?_) | refine G.op rfl rfl ?_) | refine G.op rfl rfl ?_ | (refine G.atLen ?_; first | refine G.lenStr rfl (tyy rfl) rfl ?_) | (refine G.atInd ?_; refine G.idxStr rfl rfl (tyy rfl) rfl Zj Zo ?_; intro _) | (refine G.atConv ?_; first | refine G.conv rfl (tyy rfl) (tyy rfl) rfl Zi ?_))
  all_goals (refine G.done2 rfl rfl rfl [] (SubH.nil _) ⟨rfl, cutM_eq ?_⟩; unfold cutM; repeat (first | rw [if_pos (by omega)] | rw [if_neg (by omega)] | rw [if_pos Zp] | rw [if_neg Zp] | rw [if_neg (by simp only [*]; decide)] | rw [if_neg (show ¬ (true = false) from fun e => by cases e)]))

def buf (g : Nat) (s : List UInt8) (bad : Int) : Chunk := .blk g [str s, .int .i64 bad] 125

theorem feed_New (h : Heap) : Spec Tryd.prog 29 [] h [] (fun v _ H' => ∃ g, H' = [buf g [] 0] /\ v = .pointer (some ⟨g, 0, none⟩)) := by
  refine Spec.enter Tryd.func29 rfl rfl ?_; intro w0
  repeat' (first | (refine G.atCode ?_; first | refine G.seq ?_ | refine G.region ?_ | refine G.ret ?_) | refine G.endOps ?_ | refine G.op rfl rfl ?_ | (refine G.atBox ?_; refine G.box rfl rfl rfl ?_; intro _) | (refine G.atBld ?_; refine G.build (tyy rfl) rfl rfl rfl ?_))
  rename_i g
  exact G.done1 rfl rfl _ (SubH.rfl_ _) ⟨g, rfl, rfl⟩

theorem feed_Add (g : Nat) (s : List UInt8) (v : Value) (ps : List (List UInt8)) (h : Heap) (hv : HSl h v 1 (strsR ps)) (hlen : s.length + ps.flatten.length <= 9223372036854775807) :
    Spec Tryd.prog 30 [.pointer (some ⟨g, 0, none⟩), v] h [buf g s 0] (fun v _ H' => H' = [buf g (s ++ ps.flatten) 0] /\ v = .tuple #[]) := by
  have hl := hv.len
  simp only [strsR_length] at hl
  unfold buf
  refine Spec.enter Tryd.func30 rfl rfl ?_; intro w0
  repeat' (first | (refine G.atCode ?_; first | refine G.seq ?_ | refine G.region ?_ | refine G.block ?_ | refine G.skip ?_ | (refine G.cond rfl ?_ ?_ <;> intro hc <;> (try simp only [tests, reduceCtorEq] at hc) <;> (try exact Zf))) | refine G.endOps ?_ | (refine G.atGd ?_; first | refine G.guardYes rfl rfl ?_) | (refine G.atBin ?_; first | (refine G.atEql ?_; first | refine G.eqPtr rfl rfl (tyy rfl) rfl ?_) | (refine G.atNeq ?_; first | refine G.op rfl rfl ?_)) | refine G.op rfl rfl ?_ | (refine G.atLen ?_; first | refine G.lenImmS rfl (tyy rfl) Zl rfl ?_) | (refine G.atLoad ?_; first | refine G.loadOwn1 rfl (tyy rfl) rfl rfl Za rfl rfl ?_) | (refine G.atFld ?_; first | refine G.fieldAddr rfl (tyy rfl) rfl rfl ?_))
  have e0 : (ps.take 0).flatten = [] := rfl
  refine G.loop (σ := Nat) (fun i => [(17, .int .i64 i), (16, .int .i64 ps.length), (15, v), (0, .pointer (some ⟨g, 0, none⟩))]) (fun i => [.blk g [str (s ++ (ps.take i).flatten), .int .i64 0] 125]) (fun i _ => i <= ps.length) (fun i => ps.length - i) 0
    ⟨rfl, rfl, rfl, rfl, trivial⟩ (by rw [e0, List.append_nil]; exact SubH.rfl_ _) (Nat.zero_le _) ?_
  intro i h1 hle hi
  have hv1 := hv.mono hle
  clear hv
  have hfl : i < ps.length -> (ps.take i).flatten.length + (strAt ps i).length <= ps.flatten.length := fun hlt => by
    have h1 : ps.take (i + 1) = ps.take i ++ [strAt ps i] := by rw [List.take_succ_eq_append_getElem hlt]; simp [strAt, hlt]
    have h2 : (ps.take (i + 1)).flatten.length <= ps.flatten.length := by
      conv => rhs; rw [<- List.take_append_drop (i + 1) ps]
      simp only [List.flatten_append, List.length_append]; omega
    rw [h1] at h2
    simpa using h2
  repeat' (first | (refine G.atCode ?_; first | refine G.seq ?_ | refine G.region ?_ | refine G.block ?_ | refine G.skip ?_ | refine G.exit rfl ?_ | (refine G.cond rfl ?_ ?_ <;> intro hc <;> (try simp only [tests, reduceCtorEq] at hc) <;> (try exact Zf))) | refine G.endOps ?_ | refine G.endBlk ?_ | (refine G.atBin ?_; first | (refine G.atAdd ?_; first | refine G.arith rfl rfl rfl rfl rfl Zi ?_ | refine G.catStr rfl rfl rfl Zo ?_) | refine G.op rfl rfl ?_) | refine G.op rfl rfl ?_ | (refine G.atLoad ?_; first | refine G.loadOwn1 rfl (tyy rfl) rfl rfl Za rfl rfl ?_ | refine G.loadImm1 rfl (tyy rfl) rfl rfl Zp rfl ?_) | (refine G.atFld ?_; first | refine G.fieldAddr rfl (tyy rfl) rfl rfl ?_) | (refine G.atSto ?_; refine G.storeOwn rfl rfl (tyy rfl) Za rfl rfl rfl rfl ?_) | (refine G.atIdx ?_; first | (refine G.idxImmS rfl rfl (tyy rfl) (tyy rfl) Zl Zj rfl Zo ?_; intro _ _)))
  . have hlt : i < ps.length := by omega
    have h2 : ps.take (i + 1) = ps.take i ++ [strAt ps i] := by rw [List.take_succ_eq_append_getElem hlt]; simp [strAt, hlt]
    refine G.again (i + 1) ⟨sint (by omega), rfl, rfl, rfl, trivial⟩ ?_ hlt (Heap.le_refl _) (by omega)
    rw [h2, List.flatten_append, ← List.append_assoc]
    simp only [List.flatten_cons, List.flatten_nil, List.append_nil]
    exact SubH.rfl_ _
  . have h2 : ps.take i = ps := List.take_of_length_le (by omega)
    rw [h2]
    exact G.done (rs := []) rfl .nil rfl _ (SubH.rfl_ _) ⟨rfl, rfl⟩

set_option maxHeartbeats 1000000 in
theorem feed_Next (g : Nat) (s : List UInt8) (hl : s.length <= 9223372036854775807) (n : Nat) (hn : (cutM s).1 = n) (he : (cutM s).2 = 0) (h : Heap) :
    Spec Tryd.prog 31 [.pointer (some ⟨g, 0, none⟩)] h [buf g s 0] (fun v _ H' => H' = [buf g (s.drop n) 0] /\ v = .tuple #[str (s.take n), .bool (decide (0 < n)), .int .i64 0]) := by
  have hr := cutM_range s
  rw [hn] at hr
  have hn1 : (n : Int) <= s.length := hr.2.1
  clear hr
  unfold buf
  refine Spec.enter Tryd.func31 rfl rfl ?_; intro w0
  repeat' (first | (show G _ (.ops .seq _ (⟨some _, .call { callee := .value (.func 64), args := _, argTypes := _ }, _, _, _, none⟩ :: _) :: _) _ _ _; refine G.call callFeedCut rfl rfl (feed_Cut _ hl _) Ze ?_; rintro _ h1 H1 ⟨rfl, rfl⟩ hle; rw [he, hn]) | (refine G.atCode ?_; first | refine G.seq ?_ | refine G.region ?_ | refine G.skip ?_ | refine G.ret ?_ | (refine G.cond rfl ?_ ?_ <;> intro hc <;> (try simp only [tests, reduceCtorEq] at hc) <;> (try exact Zf))) | refine G.endOps ?_ | (refine G.atBin ?_; first | (refine G.atEql ?_; first | refine G.op rfl rfl ?_ | refine G.eqPtr rfl rfl (tyy rfl) rfl ?_) | (refine G.atNeq ?_; first | refine G.op rfl rfl ?_) | refine G.op rfl rfl ?_) | refine G.op rfl rfl ?_ | (refine G.atLoad ?_; first | refine G.loadOwn1 rfl (tyy rfl) rfl rfl Za rfl rfl ?_) | (refine G.atFld ?_; first | refine G.fieldAddr rfl (tyy rfl) rfl rfl ?_) | (refine G.atSto ?_; refine G.storeOwn rfl rfl (tyy rfl) Za rfl rfl rfl rfl ?_) | (refine G.atSlc ?_; first | refine G.dropStr rfl rfl (tyy rfl) rfl Zj Zo ?_ | refine G.takeStr rfl rfl (tyy rfl) rfl Zj Zo ?_))
  refine G.done3 rfl rfl rfl rfl _ (SubH.rfl_ _) ⟨rfl, ?_⟩
  rw [show decide ((0 : Int) < (n : Int)) = decide (0 < n) by simp]
end Go.Proofs.YtibkffoeioidlaaDoor
