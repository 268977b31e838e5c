/- The first class of a name: class$1, slices.IndexFunc, book.class, Class; castellanref13.ClassAt. -/
import Derived.Test.YtfmekdmpghhegaaDoorScA
namespace Go.Proofs.YtfmekdmpghhegaaDoor
set_option linter.all false
set_option maxRecDepth 4000
open Go.RowKit

theorem ClsC.get {h : Heap} : ∀ {l : List Cls} {rows : List (List Value)} {i : Nat} {x : Cls}, ClsC h l rows -> l[i]? = some x -> ∃ vm vy, rows[i]? = some [str x.1, str x.2.1, .int .i64 x.2.2.1, vm, vy] /\ HSl h vm 1 (strsR x.2.2.2.1) /\ HSl h vy 1 (strsR x.2.2.2.2)
  | [], _, i, x, _, hi => by simp at hi
  | y :: l, _, 0, x, hr, hi => by
    obtain ⟨vm, vy, rs, rfl, h1, h2, h3⟩ := hr
    simp at hi; subst hi
    exact ⟨vm, vy, rfl, h1, h2⟩
  | y :: l, _, i + 1, x, hr, hi => by
    obtain ⟨vm, vy, rs, rfl, h1, h2, h3⟩ := hr
    obtain ⟨a, b, e, r⟩ := h3.get (i := i) (by simpa using hi)
    exact ⟨a, b, by simpa using e, r⟩
theorem ClsC.take {h : Heap} : ∀ {l : List Cls} {rows : List (List Value)} (i : Nat), ClsC h l rows -> ClsC h (l.take i) (rows.take i)
  | l, _, 0, hr => by simp [ClsC]
  | [], _, i + 1, hr => by rw [show _ = ([] : List (List Value)) from hr]; simp [ClsC]
  | y :: l, _, i + 1, hr => by
    obtain ⟨vm, vy, rs, rfl, h1, h2, h3⟩ := hr
    exact ⟨vm, vy, rs.take i, by simp, h1, h2, h3.take i⟩
def ClOk (l : List Cls) : Prop := ∀ c ∈ l, c.1.length <= 100000000
theorem callClass1 : Callable Tryd.prog 29 := ⟨_, Tryd.func29, by kernel_rfl, rfl⟩
theorem callIdxCl : Callable Tryd.prog 28 := ⟨_, Tryd.func28, by kernel_rfl, rfl⟩
theorem callClass : Callable Tryd.prog 18 := ⟨_, Tryd.func18, by kernel_rfl, rfl⟩
theorem schema_class1 (c : Cls) (vm vy : Value) (w : List UInt8) (ht : c.1.length <= 100000000) (hw : w.length <= 100000000) (g : Nat) (h : Heap) :
    Spec Tryd.prog 29 [.agg #[str c.1, str c.2.1, .int .i64 c.2.2.1, vm, vy], .pointer (some ⟨g, 0, none⟩)] h [.blk g [str w] 9] (fun u _ H' => u = .bool (sameT c.1 w) /\ H' = [.blk g [str w] 9]) := by
  refine Spec.enter Tryd.func29 rfl rfl ?_; intro w0
  repeat' (first | (show G _ (.ops .seq _ (⟨some _, .call { callee := .value (.func 30), args := _, argTypes := _ }, _, _, _, none⟩ :: _) :: _) _ _ _; refine G.call callLike rfl rfl (schema_like c.1 w ht hw _) Ze ?_; rintro _ h2 H2 ⟨rfl, rfl⟩ hle2) | (refine G.atCode ?_; first | refine G.seq ?_ | refine G.region ?_ | refine G.block ?_ | refine G.skip ?_ | refine G.exit rfl ?_ | refine G.ret ?_ | (refine G.cond rfl ?_ ?_ <;> intro hc <;> (try simp only [tests, reduceCtorEq] at hc) <;> (try exact Zf))) | refine G.endOps ?_ | refine G.endStill ?_ | refine G.endHeld ?_ | refine G.back ?_ | refine G.endBlk ?_ | refine G.op rfl rfl ?_ | (refine G.atLoad ?_; first | refine G.loadOwn1 rfl (tyy rfl) rfl rfl Za rfl rfl ?_ | refine G.loadOwnA rfl (tyy rfl) rfl rfl Za rfl rfl ?_ | refine G.loadImm1 rfl (tyy rfl) rfl rfl Zp rfl ?_ | refine G.loadImmA rfl (tyy rfl) rfl rfl Zp Zp rfl ?_ | refine G.loadRowS rfl (tyy rfl) Zp Za Zo rfl ?_ | (refine G.loadRowB rfl (tyy rfl) Zp Za Zo rfl ?_; intro _)) | (refine G.atFld ?_; first | refine G.fieldAddr rfl (tyy rfl) rfl rfl ?_ | refine G.fieldAddrP rfl (tyy rfl) rfl rfl ?_) | (refine G.atBox ?_; refine G.box rfl rfl rfl ?_; intro _)        )
  all_goals (refine G.done1 rfl rfl _ ?_ ⟨rfl, rfl⟩; solve | (apply Takes.sub; (repeat (first | apply Takes.nil | apply Take.hd | apply Take.tl | apply Takes.cons))))
set_option maxRecDepth 8000 in
theorem slices_IxCl (l : List Cls) (hl : ClOk l) (v : Value) (rows : List (List Value)) (w : List UInt8) (hw : w.length <= 100000000) (g : Nat) (h : Heap) (hs : HSl h v 5 rows) (hrows : ClsC h l rows) :
    Spec Tryd.prog 28 [v, .func (.func 29) #[] #[.pointer (some ⟨g, 0, none⟩)]] h [.blk g [str w] 9] (fun u _ H' => u = .int .i64 (ixV (ixC l w)) /\ H' = [.blk g [str w] 9]) := by
  have hrl := hs.len
  have hlr := hrows.len
  refine Spec.enter Tryd.func28 rfl rfl ?_; intro w0
  repeat' (first | (refine G.atCode ?_; refine G.stopLoop ?_) | (refine G.atCode ?_; first | refine G.seq ?_ | refine G.region ?_ | refine G.block ?_ | refine G.skip ?_ | refine G.exit rfl ?_ | refine G.ret ?_ | (refine G.cond rfl ?_ ?_ <;> intro hc <;> (try simp only [tests, reduceCtorEq] at hc) <;> (try exact Zf))) | refine G.endOps ?_ | refine G.endStill ?_ | refine G.endHeld ?_ | refine G.back ?_ | refine G.endBlk ?_ | (refine G.atBin ?_; first | (refine G.atAdd ?_; first | refine G.arith rfl rfl rfl rfl rfl Zi ?_ | refine G.catStr rfl rfl rfl Zo ?_ | refine G.op rfl rfl ?_) | refine G.op rfl rfl ?_ ) | refine G.op rfl rfl ?_ | (refine G.atLen ?_; first | refine G.lenStr rfl (tyy rfl) rfl ?_ | refine G.lenSlice rfl (tyy rfl) rfl ?_ | refine G.lenRowB rfl (tyy rfl) Za rfl ?_ | refine G.lenRowS rfl (tyy rfl) Za rfl ?_ | refine G.lenRow rfl (tyy rfl) Za rfl ?_ | refine G.lenImmB rfl (tyy rfl) Zl rfl ?_ | refine G.lenImmI rfl (tyy rfl) Zl rfl ?_ | refine G.lenImmS rfl (tyy rfl) Zl rfl ?_ | refine G.lenImm rfl (tyy rfl) Zl rfl ?_) | (refine G.atLoad ?_; first | refine G.loadOwn1 rfl (tyy rfl) rfl rfl Za rfl rfl ?_ | refine G.loadOwnA rfl (tyy rfl) rfl rfl Za rfl rfl ?_ | refine G.loadImm1 rfl (tyy rfl) rfl rfl Zp rfl ?_ | refine G.loadImmA rfl (tyy rfl) rfl rfl Zp Zp rfl ?_ | refine G.loadRowS rfl (tyy rfl) Zp Za Zo rfl ?_ | (refine G.loadRowB rfl (tyy rfl) Zp Za Zo rfl ?_; intro _)) | (refine G.atIdx ?_; first | (refine G.idxImmI rfl rfl (tyy rfl) (tyy rfl) Zl Zp Zj rfl Zo ?_; intro _ _ _) | (refine G.idxImmS rfl rfl (tyy rfl) (tyy rfl) Zl Zj rfl Zo ?_; intro _ _) | (refine G.idxImmB rfl rfl (tyy rfl) (tyy rfl) Zl Zj rfl Zo ?_; intro _ _ _) | (refine G.idxRow' rfl rfl (tyy rfl) (tyy rfl) Za Zj rfl Zo ?_; intro _ _) | (refine G.idxImmN rfl rfl (tyy rfl) (tyy rfl) Zl Zj rfl Zo ?_; intro _ _ _ _ _))  )
  refine G.go ?_
  rw [hlr]
  refine G.loop (σ := Nat) (fun i => [(8, .int .i64 i), (7, .int .i64 l.length), (1, .func (.func 29) #[] #[.pointer (some ⟨g, 0, none⟩)]), (0, v)])
    (fun _ => [.blk g [str w] 9]) (fun i _ => i <= l.length /\ ∀ (j : Nat) (t : Cls), j < i -> l[j]? = some t -> sameT t.1 w = false) (fun i => l.length - i) 0 ⟨rfl, rfl, rfl, rfl, trivial⟩ Zu ⟨Nat.zero_le _, fun j a hj => absurd hj (by omega)⟩ ?_
  rintro i h1 hle1 ⟨hi, hno⟩
  by_cases hlt : i < l.length
  . obtain ⟨c, ht⟩ : ∃ t, l[i]? = some t := ⟨l[i], List.getElem?_eq_getElem hlt⟩
    obtain ⟨vm, vy, hget, hm, hy⟩ := hrows.get ht
    have htl := hl _ (List.mem_of_getElem? ht)
    have hl1 : ([str c.1, str c.2.1, .int .i64 c.2.2.1, vm, vy] : List Value).length = 5 := rfl
    repeat' (first | (refine G.atIdx ?_; refine G.idxImm rfl rfl (tyy rfl) (tyy rfl) (hs.mono (by solve | repeat first | assumption | exact Zr _ | refine Zq ?_ Zp)) Zj rfl (by rw [hlr]; omega) ?_; intro pp rr hx9 hp9; (rw [hget] at hx9); (obtain rfl := Option.some.inj hx9)) | (refine G.callClo rfl callClass1 rfl rfl (schema_class1 c vm vy w htl hw g _) Ze ?_; rintro _ h2 H2 ⟨rfl, rfl⟩ hle2) | (refine G.atCode ?_; first | refine G.seq ?_ | refine G.region ?_ | refine G.block ?_ | refine G.skip ?_ | refine G.exit rfl ?_ | refine G.ret ?_ | (refine G.cond rfl ?_ ?_ <;> intro hc <;> (try simp only [tests, reduceCtorEq] at hc) <;> (try exact Zf))) | refine G.endOps ?_ | refine G.endStill ?_ | refine G.endHeld ?_ | refine G.back ?_ | refine G.endBlk ?_ | (refine G.atBin ?_; first | (refine G.atAdd ?_; first | refine G.arith rfl rfl rfl rfl rfl Zi ?_ | refine G.catStr rfl rfl rfl Zo ?_ | refine G.op rfl rfl ?_) | refine G.op rfl rfl ?_ ) | refine G.op rfl rfl ?_ | (refine G.atLen ?_; first | refine G.lenStr rfl (tyy rfl) rfl ?_ | refine G.lenSlice rfl (tyy rfl) rfl ?_ | refine G.lenRowB rfl (tyy rfl) Za rfl ?_ | refine G.lenRowS rfl (tyy rfl) Za rfl ?_ | refine G.lenRow rfl (tyy rfl) Za rfl ?_ | refine G.lenImmB rfl (tyy rfl) Zl rfl ?_ | refine G.lenImmI rfl (tyy rfl) Zl rfl ?_ | refine G.lenImmS rfl (tyy rfl) Zl rfl ?_ | refine G.lenImm rfl (tyy rfl) Zl rfl ?_) | (refine G.atLoad ?_; first | refine G.loadOwn1 rfl (tyy rfl) rfl rfl Za rfl rfl ?_ | refine G.loadOwnA rfl (tyy rfl) rfl rfl Za rfl rfl ?_ | refine G.loadImm1 rfl (tyy rfl) rfl rfl Zp rfl ?_ | refine G.loadImmA rfl (tyy rfl) rfl rfl Zp Zp rfl ?_ | refine G.loadRowS rfl (tyy rfl) Zp Za Zo rfl ?_ | (refine G.loadRowB rfl (tyy rfl) Zp Za Zo rfl ?_; intro _)) | (refine G.atIdx ?_; first | (refine G.idxImmI rfl rfl (tyy rfl) (tyy rfl) Zl Zp Zj rfl Zo ?_; intro _ _ _) | (refine G.idxImmS rfl rfl (tyy rfl) (tyy rfl) Zl Zj rfl Zo ?_; intro _ _) | (refine G.idxImmB rfl rfl (tyy rfl) (tyy rfl) Zl Zj rfl Zo ?_; intro _ _ _) | (refine G.idxRow' rfl rfl (tyy rfl) (tyy rfl) Za Zj rfl Zo ?_; intro _ _) | (refine G.idxImmN rfl rfl (tyy rfl) (tyy rfl) Zl Zj rfl Zo ?_; intro _ _ _ _ _))  )
    . have e : sameT c.1 w = true := by assumption
      have e2 : ixC l w = some i := ixM_yes ht e hno
      rw [e2]
      (refine G.done1 rfl rfl _ ?_ ⟨rfl, rfl⟩; solve | (apply Takes.sub; (repeat (first | apply Takes.nil | apply Take.hd | apply Take.tl | apply Takes.cons))))
    . have e : sameT c.1 w = false := by first | assumption | simpa using (by assumption : ¬ sameT c.1 w = true)
      exact G.again (i + 1) ⟨sint (by simp), rfl, rfl, rfl, trivial⟩ Zu ⟨by omega, fun j a hj hja => if hji : j < i then hno j a hji hja else by
        obtain rfl : j = i := by omega
        rw [ht] at hja
        obtain rfl := Option.some.inj hja
        exact e⟩ (by solve | repeat first | assumption | exact Zr _ | refine Zq ?_ Zp) (by omega)
  . obtain rfl : i = l.length := by omega
    have e : ixC l w = none := ixM_no fun j a hja => hno j a (List.getElem?_eq_some_iff.1 hja).1 hja
    rw [e]
    repeat' (first | (refine G.atCode ?_; first | refine G.seq ?_ | refine G.region ?_ | refine G.block ?_ | refine G.skip ?_ | refine G.exit rfl ?_ | refine G.ret ?_ | (refine G.cond rfl ?_ ?_ <;> intro hc <;> (try simp only [tests, reduceCtorEq] at hc) <;> (try exact Zf))) | refine G.endOps ?_ | refine G.endStill ?_ | refine G.endHeld ?_ | refine G.back ?_ | refine G.endBlk ?_ | (refine G.atBin ?_; first | (refine G.atAdd ?_; first | refine G.arith rfl rfl rfl rfl rfl Zi ?_ | refine G.catStr rfl rfl rfl Zo ?_ | refine G.op rfl rfl ?_) | refine G.op rfl rfl ?_ ) | refine G.op rfl rfl ?_ | (refine G.atLen ?_; first | refine G.lenStr rfl (tyy rfl) rfl ?_ | refine G.lenSlice rfl (tyy rfl) rfl ?_ | refine G.lenRowB rfl (tyy rfl) Za rfl ?_ | refine G.lenRowS rfl (tyy rfl) Za rfl ?_ | refine G.lenRow rfl (tyy rfl) Za rfl ?_ | refine G.lenImmB rfl (tyy rfl) Zl rfl ?_ | refine G.lenImmI rfl (tyy rfl) Zl rfl ?_ | refine G.lenImmS rfl (tyy rfl) Zl rfl ?_ | refine G.lenImm rfl (tyy rfl) Zl rfl ?_) | (refine G.atLoad ?_; first | refine G.loadOwn1 rfl (tyy rfl) rfl rfl Za rfl rfl ?_ | refine G.loadOwnA rfl (tyy rfl) rfl rfl Za rfl rfl ?_ | refine G.loadImm1 rfl (tyy rfl) rfl rfl Zp rfl ?_ | refine G.loadImmA rfl (tyy rfl) rfl rfl Zp Zp rfl ?_ | refine G.loadRowS rfl (tyy rfl) Zp Za Zo rfl ?_ | (refine G.loadRowB rfl (tyy rfl) Zp Za Zo rfl ?_; intro _)) | (refine G.atIdx ?_; first | (refine G.idxImmI rfl rfl (tyy rfl) (tyy rfl) Zl Zp Zj rfl Zo ?_; intro _ _ _) | (refine G.idxImmS rfl rfl (tyy rfl) (tyy rfl) Zl Zj rfl Zo ?_; intro _ _) | (refine G.idxImmB rfl rfl (tyy rfl) (tyy rfl) Zl Zj rfl Zo ?_; intro _ _ _) | (refine G.idxRow' rfl rfl (tyy rfl) (tyy rfl) Za Zj rfl Zo ?_; intro _ _) | (refine G.idxImmN rfl rfl (tyy rfl) (tyy rfl) Zl Zj rfl Zo ?_; intro _ _ _ _ _))  )
    all_goals first | (exfalso; omega) | (refine G.done1 rfl rfl _ ?_ ⟨rfl, rfl⟩; solve | (apply Takes.sub; (repeat (first | apply Takes.nil | apply Take.hd | apply Take.tl | apply Takes.cons))))
end Go.Proofs.YtfmekdmpghhegaaDoor
