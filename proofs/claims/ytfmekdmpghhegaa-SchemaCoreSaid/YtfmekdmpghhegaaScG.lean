/- castellanref13.Has, put; schema.sorted. -/
import Derived.Test.YtfmekdmpghhegaaScQ
import Derived.Test.YtfmekdmpghhegaaScC
import Derived.Test.YtfmekdmpghhegaaLtX
namespace Go.Proofs.Ytfmekdmpghhegaa
set_option linter.all false
set_option maxRecDepth 4000
open Go.RowKit

section
variable {E : Env} {k : List It} {f : Fr} {h : Heap} {H : List Chunk} {st : Md} [hmd : OkMd st h H] {all : Array Oper} {rest : List Oper} {d : Nat} {ty : TypeId} {pos : String} {aft : Array Edge}
theorem G.ltStr {t t' : TypeId} {x y : Operand} {l l' : List UInt8} (hx : ev f x = some (str l)) (hy : ev f y = some (str l')) (hd : Nat.blt d E.n = true)
    (g : G E (.ops st all rest :: k) ((d, .bool (decide (l < l'))) :: f) h H) :
    G E (.ops st all (⟨some d, .binOp .lss t x y t', ty, pos, aft, none⟩ :: rest) :: k) f h H := by
  refine G.opVal hd (fun _ a w ha _ => ?_) g
  have hbd : Op.bytesLess l l' = decide (l < l') := bytesLess_eq l l'
  simp only [execOp, ev_eq ha hx, ev_eq ha hy, str, eqGuard, binOp, Op.stringOp, ba_toList, hbd]
  simp
end
theorem callHas : Callable Try.prog 21 := ⟨_, Try.func21, by kernel_rfl, rfl⟩
theorem callPut13 : Callable Try.prog 37 := ⟨_, Try.func37, by kernel_rfl, rfl⟩
theorem callSorted : Callable Try.prog 36 := ⟨_, Try.func36, by kernel_rfl, rfl⟩
theorem ref13_Has (L : List (List UInt8)) (s : List UInt8) (v : Value) (h : Heap) (hv : HSl h v 1 (strsR L)) : Spec Try.prog 21 [v, str s] h [] (fun u _ H' => u = .bool (decide (s ∈ L)) /\ H' = []) := by
  have hl := hv.len
  obtain ⟨A, c, rfl, _⟩ := hv.form
  rw [strsR_length] at *
  refine Spec.enter Try.func21 rfl rfl ?_; intro w0
  repeat' (first | (refine G.atCode ?_; refine G.stopLoop ?_) | (refine G.atCode ?_; first | refine G.seq ?_ | refine G.region ?_ | refine G.block ?_) | refine G.endOps ?_ | refine G.op rfl rfl ?_ | (refine G.atLen ?_; first | refine G.lenSlice rfl (tyy rfl) rfl ?_))
  refine G.go ?_
  refine G.loop (σ := Nat) (fun i => [(9, .int .i64 i), (8, .int .i64 L.length), (7, .slice A L.length c), (1, str s)])
    (fun _ => []) (fun i _ => i <= L.length /\ s ∉ L.take i) (fun i => L.length - i) 0 ⟨rfl, rfl, rfl, rfl, trivial⟩ (SubH.nil _) ⟨Nat.zero_le _, by simp⟩ ?_
  rintro i h1 hle1 ⟨hi, hno⟩
  by_cases hlt : i < L.length
  . obtain ⟨x, hx⟩ : ∃ t, L[i]? = some t := ⟨L[i], List.getElem?_eq_getElem hlt⟩
    have hget : (strsR L)[i]? = some [str x] := by simp [strsR, hx]
    by_cases hsx : s = x
    . subst hsx
      have hm : s ∈ L := List.mem_of_getElem? hx
      repeat' (first | (refine G.atIdx ?_; refine G.idxImm rfl rfl (tyy rfl) (tyy rfl) (hv.mono (by solve | repeat first | assumption | exact Zr _ | refine Zq ?_ Zp)) Zj rfl (by rw [strsR_length]; omega) ?_; intro pp rr hx9 hp9; (rw [hget] at hx9); (obtain rfl := Option.some.inj hx9)) | (refine G.atCode ?_; first | refine G.seq ?_ | refine G.region ?_ | refine G.block ?_ | refine G.skip ?_ | refine G.ret ?_ | (refine G.cond rfl ?_ ?_ <;> intro hc <;> (try simp only [tests, reduceCtorEq] at hc) <;> (try exact Zf))) | refine G.endOps ?_ | (refine G.atBin ?_; first | (refine G.atEql ?_; first | refine G.eqStr rfl rfl rfl ?_) | refine G.op rfl rfl ?_) | refine G.op rfl rfl ?_ | (refine G.atLoad ?_; first | refine G.loadImm1 rfl (tyy rfl) rfl rfl Zp rfl ?_))
      all_goals first | (exfalso; omega) | (exfalso; simp_all; done) | exact G.done1 rfl rfl [] (SubH.nil _) ⟨by rw [decide_eq_true hm], rfl⟩
    . have hsx2 : ¬ x = s := fun e => hsx e.symm
      repeat' (first | (refine G.atIdx ?_; refine G.idxImm rfl rfl (tyy rfl) (tyy rfl) (hv.mono (by solve | repeat first | assumption | exact Zr _ | refine Zq ?_ Zp)) Zj rfl (by rw [strsR_length]; omega) ?_; intro pp rr hx9 hp9; (rw [hget] at hx9); (obtain rfl := Option.some.inj hx9)) | (refine G.atCode ?_; first | refine G.seq ?_ | refine G.region ?_ | refine G.block ?_ | refine G.skip ?_ | (refine G.cond rfl ?_ ?_ <;> intro hc <;> (try simp only [tests, reduceCtorEq] at hc) <;> (try exact Zf))) | refine G.endOps ?_ | refine G.endBlk ?_ | (refine G.atBin ?_; first | (refine G.atAdd ?_; first | refine G.arith rfl rfl rfl rfl rfl Zi ?_) | (refine G.atEql ?_; first | refine G.eqStr rfl rfl rfl ?_) | refine G.op rfl rfl ?_) | refine G.op rfl rfl ?_ | (refine G.atLoad ?_; first | refine G.loadImm1 rfl (tyy rfl) rfl rfl Zp rfl ?_))
      all_goals first | (exfalso; omega) | (exfalso; simp_all; done) | exact G.again (i + 1) ⟨sint (by simp), rfl, rfl, rfl, trivial⟩ (SubH.nil _) ⟨by omega, by rw [take_get hx]; simp [hno, hsx]⟩ (by solve | repeat first | assumption | exact Zr _ | refine Zq ?_ Zp) (by omega)
  . obtain rfl : i = L.length := by omega
    rw [List.take_length] at hno
    repeat' (first | (refine G.atCode ?_; first | refine G.seq ?_ | refine G.region ?_ | refine G.exit rfl ?_ | refine G.ret ?_ | (refine G.cond rfl ?_ ?_ <;> intro hc <;> (try simp only [tests, reduceCtorEq] at hc) <;> (try exact Zf))) | refine G.endOps ?_ | (refine G.atBin ?_; first | refine G.op rfl rfl ?_) | refine G.op rfl rfl ?_)
    all_goals first | (exfalso; omega) | exact G.done1 rfl rfl [] (SubH.nil _) ⟨by rw [decide_eq_false hno], rfl⟩
theorem insM_app {s x : List UInt8} : ∀ {a : List (List UInt8)} (b : List (List UInt8)), (∀ y ∈ a, ¬ s < y) -> insM (a ++ b) s = a ++ insM b s
  | [], b, _ => rfl
  | y :: a, b, h => by
    rw [List.cons_append, insM, if_neg (h y List.mem_cons_self), insM_app (x := x) b fun z hz => h z (List.mem_cons_of_mem _ hz)]; rfl
set_option maxHeartbeats 2000000 in
theorem ref13_put (L : List (List UInt8)) (s : List UInt8) (v : Value) (hL : L.length <= 4000000000000) (h : Heap) (hv : HSl h v 1 (strsR L)) : Spec Try.prog 37 [v, str s] h [] (fun u h' H' => HSl h' u 1 (strsR (putU L s)) /\ H' = []) := by
  have hl := hv.len
  obtain ⟨A, c, rfl, _⟩ := hv.form
  rw [strsR_length] at *
  refine Spec.enter Try.func37 rfl rfl ?_; intro w0
  repeat' (first | (refine G.atCode ?_; refine G.stopLoop ?_) | (refine G.atCode ?_; first | refine G.seq ?_ | refine G.region ?_ | refine G.block ?_) | refine G.endOps ?_ | refine G.op rfl rfl ?_ | (refine G.atLen ?_; first | refine G.lenSlice rfl (tyy rfl) rfl ?_))
  refine G.nilRow 9 1 ?_
  refine G.go ?_
  refine G.loop (σ := Nat × Bool × Value × List (List UInt8)) (fun x => [(11, .int .i64 x.1), (10, .int .i64 L.length), (9, .slice A L.length c), (0, .slice A L.length c), (1, str s), (5, x.2.2.1), (6, .bool x.2.1)])
    (fun x => [.row x.2.2.1 9 1 (strsR x.2.2.2)]) (fun x _ => x.1 <= L.length /\ s ∉ L.take x.1 /\ (x.2.1 = false -> x.2.2.2 = L.take x.1 /\ ∀ y ∈ L.take x.1, ¬ s < y) /\ (x.2.1 = true -> x.2.2.2 ++ L.drop x.1 = insM L s)) (fun x => L.length - x.1) ⟨0, false, .slice none 0 0, []⟩ ⟨rfl, rfl, rfl, rfl, rfl, rfl, rfl, trivial⟩ Zu ⟨Nat.zero_le _, by simp, fun _ => ⟨by simp, by simp⟩, fun e => by cases e⟩ ?_
  rintro ⟨i, dn, ov, out⟩ h1 hle1 ⟨hi, hno, hf, ht⟩
  simp only at hi hno hf ht
  refine G.norm (by (try dsimp only) <;> exact rfl) (by (try dsimp only) <;> exact rfl) ?_
  have hol : out.length <= L.length + 1 := by
    cases dn with
    | false => rw [(hf rfl).1, List.length_take]; omega
    | true =>
      have e := congrArg List.length (ht rfl)
      have e2 : ∀ l : List (List UInt8), (insM l s).length = l.length + 1 := fun l => by
        induction l with
        | nil => rfl
        | cons y l ih => rw [insM]; split <;> simp [ih]
      rw [e2, List.length_append] at e; omega
  by_cases hlt : i < L.length
  . obtain ⟨x, hx⟩ : ∃ t, L[i]? = some t := ⟨L[i], List.getElem?_eq_getElem hlt⟩
    have hget : (strsR L)[i]? = some [str x] := by simp [strsR, hx]
    have hdr : L.drop i = x :: L.drop (i + 1) := by
      obtain ⟨h9, e9⟩ := List.getElem?_eq_some_iff.1 hx
      rw [List.drop_eq_getElem_cons h9, e9]
    by_cases hsx : s = x
    . subst hsx
      have hm : s ∈ L := List.mem_of_getElem? hx
      repeat' (first | (refine G.atIdx ?_; refine G.idxImm rfl rfl (tyy rfl) (tyy rfl) (hv.mono (by solve | repeat first | assumption | exact Zr _ | refine Zq ?_ Zp)) Zj rfl (by rw [strsR_length]; omega) ?_; intro pp rr hx9 hp9; (rw [hget] at hx9); (obtain rfl := Option.some.inj hx9)) | (refine G.atCode ?_; first | refine G.seq ?_ | refine G.region ?_ | refine G.block ?_ | refine G.skip ?_ | refine G.ret ?_ | (refine G.cond rfl ?_ ?_ <;> intro hc <;> (try simp only [tests, reduceCtorEq] at hc) <;> (try exact Zf))) | refine G.endOps ?_ | (refine G.atBin ?_; first | (refine G.atEql ?_; first | refine G.eqStr rfl rfl rfl ?_) | refine G.op rfl rfl ?_) | refine G.op rfl rfl ?_ | (refine G.atLoad ?_; first | refine G.loadImm1 rfl (tyy rfl) rfl rfl Zp rfl ?_))
      all_goals first | (exfalso; omega) | (exfalso; simp_all; done) | exact G.done1 rfl rfl [] (SubH.nil _) ⟨by unfold putU; rw [if_pos hm]; exact hv.mono (by solve | repeat first | assumption | exact Zr _ | refine Zq ?_ Zp), rfl⟩
    . have hsx2 : ¬ x = s := fun e => hsx e.symm
      have hno2 : s ∉ L.take (i + 1) := by rw [take_get hx]; simp [hno, hsx]
      cases dn with
      | true =>
        have ht := ht rfl
        rw [hdr] at ht
        repeat' (first | (refine G.atIdx ?_; refine G.idxImm rfl rfl (tyy rfl) (tyy rfl) (hv.mono (by solve | repeat first | assumption | exact Zr _ | refine Zq ?_ Zp)) Zj rfl (by rw [strsR_length]; omega) ?_; intro pp rr hx9 hp9; (rw [hget] at hx9); (obtain rfl := Option.some.inj hx9)) | (refine G.atCode ?_; first | refine G.seq ?_ | refine G.region ?_ | refine G.block ?_ | refine G.skip ?_ | (refine G.cond rfl ?_ ?_ <;> intro hc <;> (try simp only [tests, reduceCtorEq] at hc) <;> (try exact Zf))) | refine G.endOps ?_ | refine G.endBlk ?_ | (refine G.atGd ?_; first | refine G.guardNoS rfl rfl rfl ?_) | (refine G.atBin ?_; first | (refine G.atAdd ?_; first | refine G.arith rfl rfl rfl rfl rfl Zi ?_) | (refine G.atEql ?_; first | refine G.eqStr rfl rfl rfl ?_) | refine G.op rfl rfl ?_) | refine G.op rfl rfl ?_ | (refine G.atLoad ?_; first | refine G.loadImm1 rfl (tyy rfl) rfl rfl Zp rfl ?_) | (refine G.atBsl ?_; refine G.buildSlice (tyy rfl) (tyy rfl) rfl rfl rfl rfl ?_; intro _) | (refine G.atApp ?_; first | (refine G.append1S rfl rfl (tyy rfl) (tyy rfl) rfl rfl Za Za rfl Zo ?_; intro _)))
        all_goals first | (exfalso; omega) | (exfalso; simp_all; done) | exact G.again ⟨i + 1, true, _, out ++ [x]⟩ ⟨sint (by simp), rfl, rfl, rfl, rfl, rfl, rfl, trivial⟩ Zu ⟨by simp only; omega, hno2, fun e => by simp at e, fun _ => by simp only; rw [List.append_assoc]; exact ht⟩ (by solve | repeat first | assumption | exact Zr _ | refine Zq ?_ Zp) (by simp only; omega) | skip
      | false =>
        obtain ⟨f1, f2⟩ := hf rfl
        by_cases hslt : s < x
        . have hin : (out ++ [s] ++ [x]) ++ L.drop (i + 1) = insM L s := by
            have e1 : insM L s = insM (L.take i ++ L.drop i) s := by rw [List.take_append_drop]
            rw [e1, insM_app (x := x) _ f2, hdr, insM, if_pos hslt, f1]; simp
          repeat' (first | (refine G.atIdx ?_; refine G.idxImm rfl rfl (tyy rfl) (tyy rfl) (hv.mono (by solve | repeat first | assumption | exact Zr _ | refine Zq ?_ Zp)) Zj rfl (by rw [strsR_length]; omega) ?_; intro pp rr hx9 hp9; (rw [hget] at hx9); (obtain rfl := Option.some.inj hx9)) | (refine G.ltStr rfl rfl rfl ?_) | (refine G.atCode ?_; first | refine G.seq ?_ | refine G.region ?_ | refine G.block ?_ | refine G.skip ?_ | (refine G.cond rfl ?_ ?_ <;> intro hc <;> (try simp only [tests, reduceCtorEq] at hc) <;> (try exact Zf))) | refine G.endOps ?_ | refine G.endBlk ?_ | (refine G.atGd ?_; first | refine G.guardYes rfl rfl ?_) | (refine G.atBin ?_; first | (refine G.atAdd ?_; first | refine G.arith rfl rfl rfl rfl rfl Zi ?_) | (refine G.atEql ?_; first | refine G.eqStr rfl rfl rfl ?_) | refine G.op rfl rfl ?_) | refine G.op rfl rfl ?_ | (refine G.atLoad ?_; first | refine G.loadImm1 rfl (tyy rfl) rfl rfl Zp rfl ?_) | (refine G.atBsl ?_; refine G.buildSlice (tyy rfl) (tyy rfl) rfl rfl rfl rfl ?_; intro _) | (refine G.atApp ?_; first | (refine G.append1S rfl rfl (tyy rfl) (tyy rfl) rfl rfl Za Za rfl Zo ?_; intro _)))
          all_goals first | (exfalso; omega) | (exfalso; simp_all; done) | exact G.again ⟨i + 1, true, _, out ++ [s] ++ [x]⟩ ⟨sint (by simp), rfl, rfl, rfl, rfl, rfl, rfl, trivial⟩ Zu ⟨by simp only; omega, hno2, fun e => by simp at e, fun _ => hin⟩ (by solve | repeat first | assumption | exact Zr _ | refine Zq ?_ Zp) (by simp only; omega) | skip
        . repeat' (first | (refine G.atIdx ?_; refine G.idxImm rfl rfl (tyy rfl) (tyy rfl) (hv.mono (by solve | repeat first | assumption | exact Zr _ | refine Zq ?_ Zp)) Zj rfl (by rw [strsR_length]; omega) ?_; intro pp rr hx9 hp9; (rw [hget] at hx9); (obtain rfl := Option.some.inj hx9)) | (refine G.ltStr rfl rfl rfl ?_) | (refine G.atCode ?_; first | refine G.seq ?_ | refine G.region ?_ | refine G.block ?_ | refine G.skip ?_ | (refine G.cond rfl ?_ ?_ <;> intro hc <;> (try simp only [tests, reduceCtorEq] at hc) <;> (try exact Zf))) | refine G.endOps ?_ | refine G.endBlk ?_ | (refine G.atGd ?_; first | refine G.guardYes rfl rfl ?_) | (refine G.atBin ?_; first | (refine G.atAdd ?_; first | refine G.arith rfl rfl rfl rfl rfl Zi ?_) | (refine G.atEql ?_; first | refine G.eqStr rfl rfl rfl ?_) | refine G.op rfl rfl ?_) | refine G.op rfl rfl ?_ | (refine G.atLoad ?_; first | refine G.loadImm1 rfl (tyy rfl) rfl rfl Zp rfl ?_) | (refine G.atBsl ?_; refine G.buildSlice (tyy rfl) (tyy rfl) rfl rfl rfl rfl ?_; intro _) | (refine G.atApp ?_; first | (refine G.append1S rfl rfl (tyy rfl) (tyy rfl) rfl rfl Za Za rfl Zo ?_; intro _)))
          all_goals first | (exfalso; omega) | (exfalso; simp_all; done) | exact G.again ⟨i + 1, false, _, out ++ [x]⟩ ⟨sint (by simp), rfl, rfl, rfl, rfl, rfl, rfl, trivial⟩ Zu ⟨by simp only; omega, hno2, fun _ => ⟨by rw [take_get hx, f1], fun y hy => by rw [take_get hx] at hy; rcases List.mem_append.1 hy with hy | hy; exact f2 y hy; simp at hy; subst hy; exact hslt⟩, fun e => by simp at e⟩ (by solve | repeat first | assumption | exact Zr _ | refine Zq ?_ Zp) (by simp only; omega) | skip
  . obtain rfl : i = L.length := by omega
    rw [List.take_length] at hno hf
    rw [List.drop_length] at ht
    have hpu : putU L s = insM L s := by unfold putU; rw [if_neg hno]
    cases dn with
    | true =>
      have ht := ht rfl
      rw [List.append_nil] at ht
      subst ht
      repeat' (first | (refine G.atCode ?_; first | refine G.seq ?_ | refine G.region ?_ | refine G.skip ?_ | refine G.exit rfl ?_ | refine G.ret ?_ | (refine G.cond rfl ?_ ?_ <;> intro hc <;> (try simp only [tests, reduceCtorEq] at hc) <;> (try exact Zf))) | refine G.endOps ?_ | (refine G.atBin ?_; first | refine G.op rfl rfl ?_) | refine G.op rfl rfl ?_)
      all_goals first | (exfalso; omega) | (refine G.freezeRow Take.hd ?_; intro h8 hle8 hs8; exact G.done1 rfl rfl _ (SubH.nil _) ⟨by rw [hpu]; exact hs8, rfl⟩) | skip
    | false =>
      obtain ⟨f1, f2⟩ := hf rfl
      have hin : out ++ [s] = insM L s := by
        have := insM_app (x := s) [] f2
        rw [List.append_nil] at this
        rw [this, f1]; rfl
      repeat' (first | (refine G.atCode ?_; first | refine G.seq ?_ | refine G.region ?_ | refine G.exit rfl ?_ | refine G.ret ?_ | (refine G.cond rfl ?_ ?_ <;> intro hc <;> (try simp only [tests, reduceCtorEq] at hc) <;> (try exact Zf))) | refine G.endOps ?_ | (refine G.atBin ?_; first | refine G.op rfl rfl ?_) | refine G.op rfl rfl ?_ | (refine G.atBsl ?_; refine G.buildSlice (tyy rfl) (tyy rfl) rfl rfl rfl rfl ?_; intro _) | (refine G.atApp ?_; first | (refine G.append1S rfl rfl (tyy rfl) (tyy rfl) rfl rfl Za Za rfl Zo ?_; intro _)))
      all_goals first | (exfalso; omega) | (refine G.freezeRow Take.hd ?_; intro h8 hle8 hs8; exact G.done1 rfl rfl _ (SubH.nil _) ⟨by rw [hpu, ← hin]; exact hs8, rfl⟩) | skip
set_option maxHeartbeats 2000000 in
theorem schema_sorted (m c : Nat) (es : Ens) (L : List (List UInt8)) (hs : SetM es c L) (hn : es.length <= 1000) (h : Heap) : Spec Try.prog 36 [.map (some m)] h [.obj m (mapOS es c)] (fun u h' H' => (∃ K, K.Nodup /\ (∀ x, x ∈ K ↔ x ∈ L) /\ HSl h' u 1 (strsR (sortM K))) /\ H' = [.obj m (mapOS es c)]) := by
  refine Spec.enter Try.func36 rfl rfl ?_; intro w0
  repeat' (first | (refine G.rangeMapS rfl (tyy rfl) Za rfl ?_; intro r) | (refine G.atCode ?_; refine G.stopLoop ?_) | (refine G.atCode ?_; first | refine G.seq ?_ | refine G.region ?_ | refine G.block ?_) | refine G.endOps ?_ | refine G.op rfl rfl ?_)
  refine G.nilRow 9 1 ?_
  refine G.go ?_
  refine G.loop (σ := Array Nat × List (List UInt8) × Value) (fun x => [(6, .pointer (some ⟨r, 0, none⟩)), (3, x.2.2)])
    (fun x => [.row x.2.2 9 1 (strsR x.2.1), .obj r (.mapIter (some m) c x.1 c), .obj m (mapOS es c)]) (fun x _ => Seen es x.1 x.2.1) (fun x => es.length - x.2.1.length) ⟨#[], [], .slice none 0 0⟩ ⟨rfl, rfl, trivial⟩ Zu (Seen.nil es) ?_
  rintro ⟨seen, P, ov⟩ h5 hle5 hse
  simp only at hse
  refine G.norm (by (try dsimp only) <;> exact rfl) (by (try dsimp only) <;> exact rfl) ?_
  have hpl := hse.len
  repeat' (first | (refine G.nextMapS rfl Za Za rfl hs.bc (Nat.le_refl _) ?_ ?_) | (refine G.atCode ?_; first | refine G.seq ?_ | refine G.region ?_))
  . intro hall
    have hov := Seen.over hs hse hall
    repeat' (first | (show G _ (.ops .seq _ (⟨some _, .call { callee := .value (.func 52), args := _, argTypes := _ }, _, _, _, none⟩ :: _) :: _) _ _ _; refine G.call callSort rfl rfl (strs_Sort ov 9 P (by omega) _) Ze ?_; rintro _ h8 H8 ⟨rfl, rfl⟩ hle8) | (refine G.atCode ?_; first | refine G.seq ?_ | refine G.region ?_ | refine G.exit rfl ?_ | refine G.ret ?_ | (refine G.cond rfl ?_ ?_ <;> intro hc <;> (try simp only [tests, reduceCtorEq] at hc) <;> (try exact Zf))) | refine G.endOps ?_ | refine G.op rfl rfl ?_)
    all_goals
      refine G.freezeRow Take.hd ?_
      intro h9 hle9 hs9
      exact G.done1 rfl rfl [.obj m (mapOS es c)] Zu ⟨⟨P, hse.nd, hov, hs9⟩, rfl⟩
  . intro q v' b' hm hb
    have hlt := hse.lt hm hb
    have hst := hse.step hs hm hb
    repeat' (first | (refine G.entryMapS rfl Za Za rfl hm hs.b ?_) | (refine G.atCode ?_; first | refine G.seq ?_ | refine G.region ?_ | refine G.block ?_ | refine G.skip ?_ | (refine G.cond rfl ?_ ?_ <;> intro hc <;> (try simp only [tests, reduceCtorEq] at hc) <;> (try exact Zf))) | refine G.endOps ?_ | refine G.endBlk ?_ | refine G.op rfl rfl ?_ | (refine G.atBsl ?_; refine G.buildSlice (tyy rfl) (tyy rfl) rfl rfl rfl rfl ?_; intro _) | (refine G.atApp ?_; first | (refine G.append1S rfl rfl (tyy rfl) (tyy rfl) rfl rfl Za Za rfl Zo ?_; intro _)))
    all_goals
      exact G.again ⟨seen.push b', P ++ [q], _⟩ ⟨rfl, rfl, trivial⟩ Zu hst (by solve | repeat first | assumption | exact Zr _ | refine Zq ?_ Zp) (by simp only [List.length_append, List.length_cons, List.length_nil]; omega)
end Go.Proofs.Ytfmekdmpghhegaa
