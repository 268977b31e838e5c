/- Names: is a type in an RDN? dn.has with its closure, slices.IndexFunc, ContainsFunc; castellanref09.has. -/
import Derived.Test.YtahpemfnhepgoaaDnA
import Derived.Test.YtahpemfnhepgoaaLtN
namespace Go.Proofs.Ytahpemfnhepgoaa
set_option linter.all false
set_option maxRecDepth 4000
open Go.RowKit

def sameT (a b : List UInt8) : Bool := decide (foldM a = foldM b)
def hasM (r : Rdn) (t : List UInt8) : Bool := r.any fun a => sameT a.1 t
def TysOk (r : Rdn) : Prop := ∀ a ∈ r, a.1.length <= 100000000
theorem hasM_no {r : Rdn} {t : List UInt8} (h : ∀ (i : Nat) (a : List UInt8 × List UInt8), r[i]? = some a -> sameT a.1 t = false) : hasM r t = false := by
  unfold hasM
  rw [List.any_eq_false]
  intro a ha
  obtain ⟨i, hi⟩ := List.getElem?_of_mem ha
  rw [h i a hi]; simp
theorem hasM_yes {r : Rdn} {t : List UInt8} {i : Nat} {a : List UInt8 × List UInt8} (h : r[i]? = some a) (h2 : sameT a.1 t = true) : hasM r t = true := by
  unfold hasM
  rw [List.any_eq_true]
  exact ⟨a, List.mem_of_getElem? h, h2⟩
def RdL (h : Heap) (v : Value) (e sz : Nat) (rows : List (List Value)) (L : List Chunk) : Prop := (L = [] /\ HSl h v sz rows) \/ L = [.row v e sz rows]
theorem RdL.mono {h h' : Heap} {v : Value} {e sz : Nat} {rows : List (List Value)} {L : List Chunk} (r : RdL h v e sz rows L) (hl : Heap.le h h') : RdL h' v e sz rows L := r.imp (fun x => ⟨x.1, x.2.mono hl⟩) id
theorem takes_self : ∀ L : List Chunk, Takes L L []
  | [] => .nil
  | _ :: l => .cons .hd (takes_self l)
theorem SubH.rfl' (L : List Chunk) : SubH L (L ++ []) := ⟨[], by simp⟩
theorem callHas1 : Callable Try.prog 40 := ⟨_, Try.func40, by kernel_rfl, rfl⟩
theorem callIdxR : Callable Try.prog 53 := ⟨_, Try.func53, by kernel_rfl, rfl⟩
theorem callConR : Callable Try.prog 39 := ⟨_, Try.func39, by kernel_rfl, rfl⟩
theorem callHas : Callable Try.prog 26 := ⟨_, Try.func26, by kernel_rfl, rfl⟩
theorem callRHas : Callable Try.prog 28 := ⟨_, Try.func28, by kernel_rfl, rfl⟩

theorem dn_has1 (t v w : List UInt8) (ht : t.length <= 100000000) (hw : w.length <= 100000000) (g : Nat) (h : Heap) :
    Spec Try.prog 40 [.agg #[str t, str v], .pointer (some ⟨g, 0, none⟩)] h [.blk g [str w] 9] (fun u _ H' => u = .bool (sameT t w) /\ H' = [.blk g [str w] 9]) := by
  unfold sameT
  refine Spec.enter Try.func40 rfl rfl ?_; intro w0
  repeat' (first | (show G _ (.ops .seq _ (⟨some _, .call { callee := .value (.func 41), args := _, argTypes := _ }, _, _, _, none⟩ :: _) :: _) _ _ _; refine G.call callFold rfl rfl (octet_Fold t ht _) Ze ?_; rintro _ h2 H2 ⟨rfl, rfl⟩ hle2) | (show G _ (.ops .seq _ (⟨some _, .call { callee := .value (.func 41), args := _, argTypes := _ }, _, _, _, none⟩ :: _) :: _) _ _ _; refine G.call callFold rfl rfl (octet_Fold w hw _) Ze ?_; rintro _ h3 H3 ⟨rfl, rfl⟩ hle3) | (refine G.atCode ?_; first | refine G.seq ?_ | refine G.region ?_ | refine G.anyIn mixedOk ?_ | refine G.ret ?_) | refine G.endOps ?_ | refine G.endHeld ?_ | refine G.back ?_ | (refine G.atAny ?_; first | refine G.anyAutoX slB rfl rfl Zw Zg Zd ?_ | refine G.anyOne rfl Zw Zg Zu ?_ | refine G.anyEndX Zw ?_) | (refine G.atBin ?_; first | (refine G.atEql ?_; first | refine G.eqStr rfl rfl rfl ?_)) | refine G.op rfl rfl ?_ | (refine G.atLoad ?_; first | refine G.loadOwn1 rfl (tyy rfl) rfl rfl Za rfl rfl ?_) | (refine G.atFld ?_; first | refine G.fieldAddr rfl (tyy rfl) rfl rfl ?_) | (refine G.atBox ?_; refine G.box rfl rfl rfl ?_; intro _))
  all_goals (refine G.done1 rfl rfl _ ?_ ⟨rfl, rfl⟩; solve | (apply Takes.sub; (repeat (first | apply Takes.nil | apply Take.hd | apply Take.tl | apply Takes.cons))))
theorem slices_IndexR (r : Rdn) (hr : TysOk r) (v : Value) (w : List UInt8) (hw : w.length <= 100000000) (g : Nat) (L : List Chunk) (h : Heap) (hL : RdL h v 51 2 (avaR r) L) :
    Spec Try.prog 53 [v, .func (.func 40) #[] #[.pointer (some ⟨g, 0, none⟩)]] h (.blk g [str w] 9 :: L) (fun u _ H' => (∃ i : Int, u = .int .i64 i /\ decide (i ≥ 0) = hasM r w) /\ H' = .blk g [str w] 9 :: L) := by
  have hlr := avaR_length r
  rcases hL with ⟨rfl, hs⟩ | rfl
  . have hrl := hs.len
    refine Spec.enter Try.func53 rfl rfl ?_; intro w0
    repeat' (first | (refine G.atCode ?_; refine G.stopLoop ?_) | (refine G.atCode ?_; first | refine G.seq ?_ | refine G.region ?_ | refine G.block ?_) | refine G.endOps ?_ | refine G.op rfl rfl ?_ | (refine G.atLen ?_; first | refine G.lenImm rfl (tyy rfl) Zl rfl ?_))
    refine G.go ?_
    rw [avaR_length]
    refine G.loop (σ := Nat) (fun i => [(8, .int .i64 i), (7, .int .i64 r.length), (1, .func (.func 40) #[] #[.pointer (some ⟨g, 0, none⟩)]), (0, v)])
      (fun _ => [.blk g [str w] 9]) (fun i _ => i <= r.length /\ ∀ (j : Nat) (a : List UInt8 × List UInt8), j < i -> r[j]? = some a -> sameT a.1 w = false) (fun i => r.length - i) 0 ⟨rfl, rfl, rfl, rfl, trivial⟩ Zu ⟨Nat.zero_le _, fun j a hj => absurd hj (by omega)⟩ ?_
    rintro i h1 hle1 ⟨hi, hno⟩
    by_cases hlt : i < r.length
    . obtain ⟨⟨ta, va⟩, ha⟩ : ∃ a, r[i]? = some a := ⟨r[i], List.getElem?_eq_getElem hlt⟩
      have hget := avaR_get ha
      have hta := hr _ (List.mem_of_getElem? ha)
      have hyes := fun hs => hasM_yes (t := w) ha hs
      simp only at hget hta hyes
      repeat' (first | (refine G.atIdx ?_; refine G.idxImm rfl rfl (tyy rfl) (tyy rfl) (hs.mono hle1) Zj rfl (by rw [avaR_length]; omega) ?_; intro p1 r1 hr1 hp1; (rw [hget] at hr1); (obtain rfl := Option.some.inj hr1); have hl1 : ([str ta, str va] : List Value).length = 2 := rfl) | (refine G.callClo rfl callHas1 rfl rfl (dn_has1 ta va w hta hw g _) Ze ?_; rintro _ h2 H2 ⟨rfl, rfl⟩ hle2) | (refine G.atCode ?_; first | refine G.seq ?_ | refine G.region ?_ | refine G.block ?_ | refine G.skip ?_ | refine G.ret ?_ | (refine G.cond rfl ?_ ?_ <;> intro hc <;> (try simp only [tests, reduceCtorEq] at hc) <;> (try exact Zf))) | refine G.endOps ?_ | refine G.endBlk ?_ | (refine G.atBin ?_; first | (refine G.atAdd ?_; first | refine G.arith rfl rfl rfl rfl rfl Zi ?_) | refine G.op rfl rfl ?_) | refine G.op rfl rfl ?_ | (refine G.atLoad ?_; first | refine G.loadImmA rfl (tyy rfl) rfl rfl Zp Zp rfl ?_))
      . have e := hyes Zp
        rw [e]
        (refine G.done1 rfl rfl _ ?_ ⟨⟨_, rfl, decide_eq_true (by omega)⟩, rfl⟩; solve | (apply Takes.sub; (repeat (first | apply Takes.nil | apply Take.hd | apply Take.tl | apply Takes.cons))))
      . have e : sameT ta w = false := by first | assumption | simpa using (by assumption : ¬ sameT ta w = true)
        exact G.again (i + 1) ⟨sint (by simp), rfl, rfl, rfl, trivial⟩ Zu ⟨by omega, fun j a hj hja => if hji : j < i then hno j a hji hja else by
          obtain rfl : j = i := by omega
          rw [ha] at hja
          obtain rfl := Option.some.inj hja
          exact e⟩ (by solve | repeat first | assumption | exact Zr _ | refine Zq ?_ Zp) (by omega)
    . obtain rfl : i = r.length := by omega
      have e : hasM r w = false := hasM_no fun j a hja => hno j a (List.getElem?_eq_some_iff.1 hja).1 hja
      rw [e]
      repeat' (first | (refine G.atCode ?_; first | refine G.seq ?_ | refine G.region ?_ | refine G.exit rfl ?_ | refine G.ret ?_ | (refine G.cond rfl ?_ ?_ <;> intro hc <;> (try simp only [tests, reduceCtorEq] at hc) <;> (try exact Zf))) | refine G.endOps ?_ | (refine G.atBin ?_; first | refine G.op rfl rfl ?_) | refine G.op rfl rfl ?_)
      all_goals first | (exfalso; omega) | (refine G.done1 rfl rfl _ ?_ ⟨⟨_, rfl, by decide⟩, rfl⟩; solve | (apply Takes.sub; (repeat (first | apply Takes.nil | apply Take.hd | apply Take.tl | apply Takes.cons))))
  . refine Spec.enter Try.func53 rfl rfl ?_; intro w0
    refine G.rowLen (Take.tl Take.hd) ?_
    intro hrl
    repeat' (first | (refine G.atCode ?_; refine G.stopLoop ?_) | (refine G.atCode ?_; first | refine G.seq ?_ | refine G.region ?_ | refine G.block ?_) | refine G.endOps ?_ | refine G.op rfl rfl ?_ | (refine G.atLen ?_; first | refine G.lenRow rfl (tyy rfl) Za rfl ?_))
    refine G.go ?_
    rw [avaR_length]
    refine G.loop (σ := Nat) (fun i => [(8, .int .i64 i), (7, .int .i64 r.length), (1, .func (.func 40) #[] #[.pointer (some ⟨g, 0, none⟩)]), (0, v)])
      (fun _ => [.blk g [str w] 9, .row v 51 2 (avaR r)]) (fun i _ => i <= r.length /\ ∀ (j : Nat) (a : List UInt8 × List UInt8), j < i -> r[j]? = some a -> sameT a.1 w = false) (fun i => r.length - i) 0 ⟨rfl, rfl, rfl, rfl, trivial⟩ Zu ⟨Nat.zero_le _, fun j a hj => absurd hj (by omega)⟩ ?_
    rintro i h1 hle1 ⟨hi, hno⟩
    by_cases hlt : i < r.length
    . obtain ⟨⟨ta, va⟩, ha⟩ : ∃ a, r[i]? = some a := ⟨r[i], List.getElem?_eq_getElem hlt⟩
      have hget := avaR_get ha
      have hta := hr _ (List.mem_of_getElem? ha)
      have hyes := fun hs => hasM_yes (t := w) ha hs
      simp only at hget hta hyes
      repeat' (first | (refine G.atIdx ?_; refine G.idxRow' rfl rfl (tyy rfl) (tyy rfl) Za Zj rfl (by rw [avaR_length]; omega) ?_; intro p1 hp1) | (refine G.loadRowA rfl (tyy rfl) rfl rfl hp1 Za hget rfl ?_) | (refine G.callClo rfl callHas1 rfl rfl (dn_has1 ta va w hta hw g _) Ze ?_; rintro _ h2 H2 ⟨rfl, rfl⟩ hle2) | (refine G.atCode ?_; first | refine G.seq ?_ | refine G.region ?_ | refine G.block ?_ | refine G.skip ?_ | refine G.ret ?_ | (refine G.cond rfl ?_ ?_ <;> intro hc <;> (try simp only [tests, reduceCtorEq] at hc) <;> (try exact Zf))) | refine G.endOps ?_ | refine G.endBlk ?_ | (refine G.atBin ?_; first | (refine G.atAdd ?_; first | refine G.arith rfl rfl rfl rfl rfl Zi ?_) | refine G.op rfl rfl ?_) | refine G.op rfl rfl ?_)
      . have e := hyes Zp
        rw [e]
        (refine G.done1 rfl rfl _ ?_ ⟨⟨_, rfl, decide_eq_true (by omega)⟩, rfl⟩; solve | (apply Takes.sub; (repeat (first | apply Takes.nil | apply Take.hd | apply Take.tl | apply Takes.cons))))
      . have e : sameT ta w = false := by first | assumption | simpa using (by assumption : ¬ sameT ta w = true)
        exact G.again (i + 1) ⟨sint (by simp), rfl, rfl, rfl, trivial⟩ Zu ⟨by omega, fun j a hj hja => if hji : j < i then hno j a hji hja else by
          obtain rfl : j = i := by omega
          rw [ha] at hja
          obtain rfl := Option.some.inj hja
          exact e⟩ (by solve | repeat first | assumption | exact Zr _ | refine Zq ?_ Zp) (by omega)
    . obtain rfl : i = r.length := by omega
      have e : hasM r w = false := hasM_no fun j a hja => hno j a (List.getElem?_eq_some_iff.1 hja).1 hja
      rw [e]
      repeat' (first | (refine G.atCode ?_; first | refine G.seq ?_ | refine G.region ?_ | refine G.exit rfl ?_ | refine G.ret ?_ | (refine G.cond rfl ?_ ?_ <;> intro hc <;> (try simp only [tests, reduceCtorEq] at hc) <;> (try exact Zf))) | refine G.endOps ?_ | (refine G.atBin ?_; first | refine G.op rfl rfl ?_) | refine G.op rfl rfl ?_)
      all_goals first | (exfalso; omega) | (refine G.done1 rfl rfl _ ?_ ⟨⟨_, rfl, by decide⟩, rfl⟩; solve | (apply Takes.sub; (repeat (first | apply Takes.nil | apply Take.hd | apply Take.tl | apply Takes.cons))))
theorem slices_ContR (r : Rdn) (hr : TysOk r) (v : Value) (w : List UInt8) (hw : w.length <= 100000000) (g : Nat) (L : List Chunk) (h : Heap) (hL : RdL h v 51 2 (avaR r) L) :
    Spec Try.prog 39 [v, .func (.func 40) #[] #[.pointer (some ⟨g, 0, none⟩)]] h (.blk g [str w] 9 :: L) (fun u _ H' => u = .bool (hasM r w) /\ H' = .blk g [str w] 9 :: L) := by
  refine Spec.enter Try.func39 rfl rfl ?_; intro w0
  repeat' (first | (show G _ (.ops .seq _ (⟨some _, .call { callee := .value (.func 53), args := _, argTypes := _ }, _, _, _, none⟩ :: _) :: _) _ _ _; refine G.call callIdxR rfl rfl (slices_IndexR r hr v w hw g L _ hL) (takes_self _) ?_; rintro _ h2 H2 ⟨⟨j, rfl, hj⟩, rfl⟩ hle2; rw [<- hj]) | (refine G.atCode ?_; first | refine G.seq ?_ | refine G.region ?_ | refine G.ret ?_) | refine G.endOps ?_ | (refine G.atBin ?_; first | refine G.op rfl rfl ?_) | refine G.op rfl rfl ?_)
  all_goals exact G.done1 rfl rfl _ (SubH.rfl' _) ⟨rfl, rfl⟩
theorem dn_has (r : Rdn) (hr : TysOk r) (v : Value) (w : List UInt8) (hw : w.length <= 100000000) (L : List Chunk) (h : Heap) (hL : RdL h v 51 2 (avaR r) L) :
    Spec Try.prog 26 [v, str w] h L (fun u _ H' => u = .bool (hasM r w) /\ H' = L) := by
  refine Spec.enter Try.func26 rfl rfl ?_; intro w0
  repeat' (first | (refine G.makeFunc rfl rfl rfl ?_) | (show G _ (.ops .seq _ (⟨some _, .call { callee := .value (.func 39), args := _, argTypes := _ }, _, _, _, none⟩ :: _) :: _) _ _ _; refine G.call callConR rfl rfl (slices_ContR r hr v w hw _ L _ hL) (takes_self _) ?_; rintro _ h2 H2 ⟨rfl, rfl⟩ hle2) | (refine G.atCode ?_; first | refine G.seq ?_ | refine G.region ?_ | refine G.ret ?_) | refine G.endOps ?_ | refine G.op rfl rfl ?_ | (refine G.atBox ?_; refine G.box rfl rfl rfl ?_; intro _))
  all_goals exact G.done1 rfl rfl _ ⟨[.blk _ _ _], by simpa using (List.perm_append_comm (l₁ := [_]) (l₂ := L))⟩ ⟨rfl, rfl⟩
theorem ref09_has (r : Rdn) (hr : TysOk r) (v : Value) (w : List UInt8) (hw : w.length <= 100000000) (L : List Chunk) (h : Heap) (hL : RdL h v 51 2 (avaR r) L) :
    Spec Try.prog 28 [v, str w] h L (fun u _ H' => u = .bool (hasM r w) /\ H' = L) := by
  have hlr := avaR_length r
  rcases hL with ⟨rfl, hs⟩ | rfl
  . have hrl := hs.len
    refine Spec.enter Try.func28 rfl rfl ?_; intro w0
    repeat' (first | (refine G.atCode ?_; refine G.stopLoop ?_) | (refine G.atCode ?_; first | refine G.seq ?_ | refine G.region ?_ | refine G.block ?_) | refine G.endOps ?_ | refine G.op rfl rfl ?_ | (refine G.atLen ?_; first | refine G.lenImm rfl (tyy rfl) Zl rfl ?_))
    refine G.go ?_
    rw [avaR_length]
    refine G.loop (σ := Nat) (fun i => [(9, .int .i64 i), (8, .int .i64 r.length), (7, v), (1, str w)])
      (fun _ => []) (fun i _ => i <= r.length /\ ∀ (j : Nat) (a : List UInt8 × List UInt8), j < i -> r[j]? = some a -> sameT a.1 w = false) (fun i => r.length - i) 0 ⟨rfl, rfl, rfl, rfl, trivial⟩ Zu ⟨Nat.zero_le _, fun j a hj => absurd hj (by omega)⟩ ?_
    rintro i h1 hle1 ⟨hi, hno⟩
    by_cases hlt : i < r.length
    . obtain ⟨⟨ta, va⟩, ha⟩ : ∃ a, r[i]? = some a := ⟨r[i], List.getElem?_eq_getElem hlt⟩
      have hget := avaR_get ha
      have hta := hr _ (List.mem_of_getElem? ha)
      have hyes := fun hs => hasM_yes (t := w) ha hs
      simp only [sameT, decide_eq_true_eq] at hget hta hyes
      simp only [sameT, decide_eq_false_iff_not] at hno
      repeat' (first | (refine G.atIdx ?_; refine G.idxImm rfl rfl (tyy rfl) (tyy rfl) (hs.mono hle1) Zj rfl (by rw [avaR_length]; omega) ?_; intro p1 r1 hr1 hp1; (rw [hget] at hr1); (obtain rfl := Option.some.inj hr1); have hl1 : ([str ta, str va] : List Value).length = 2 := rfl) | (show G _ (.ops .seq _ (⟨some _, .call { callee := .value (.func 31), args := _, argTypes := _ }, _, _, _, none⟩ :: _) :: _) _ _ _; refine G.call callRFold rfl rfl (ref01_Fold ta hta _) Ze ?_; rintro _ h2 H2 ⟨rfl, rfl⟩ hle2) | (show G _ (.ops .seq _ (⟨some _, .call { callee := .value (.func 31), args := _, argTypes := _ }, _, _, _, none⟩ :: _) :: _) _ _ _; refine G.call callRFold rfl rfl (ref01_Fold w hw _) Ze ?_; rintro _ h3 H3 ⟨rfl, rfl⟩ hle3) | (refine G.atCode ?_; first | refine G.seq ?_ | refine G.region ?_ | refine G.block ?_ | refine G.skip ?_ | refine G.ret ?_ | (refine G.cond rfl ?_ ?_ <;> intro hc <;> (try simp only [tests, reduceCtorEq] at hc) <;> (try exact Zf))) | refine G.endOps ?_ | refine G.endBlk ?_ | (refine G.atBin ?_; first | (refine G.atAdd ?_; first | refine G.arith rfl rfl rfl rfl rfl Zi ?_) | (refine G.atEql ?_; first | refine G.eqStr rfl rfl rfl ?_) | refine G.op rfl rfl ?_) | refine G.op rfl rfl ?_ | (refine G.atLoad ?_; first | refine G.loadOwn1 rfl (tyy rfl) rfl rfl Za rfl rfl ?_ | refine G.loadImmA rfl (tyy rfl) rfl rfl Zp Zp rfl ?_) | (refine G.atFld ?_; first | refine G.fieldAddr rfl (tyy rfl) rfl rfl ?_) | (refine G.atSto ?_; refine G.storeOwn rfl rfl (tyy rfl) Za rfl rfl rfl rfl ?_) | (refine G.atAlc ?_; refine G.alloc (tyy rfl) rfl rfl ?_; intro _))
      . have e := hyes Zp
        rw [e]
        (refine G.done1 rfl rfl _ ?_ ⟨rfl, rfl⟩; solve | (apply Takes.sub; (repeat (first | apply Takes.nil | apply Take.hd | apply Take.tl | apply Takes.cons))))
      . exact G.again (i + 1) ⟨sint (by simp), rfl, rfl, rfl, trivial⟩ Zu ⟨by omega, fun j a hj hja => by
          simp only [sameT, decide_eq_false_iff_not]
          exact if hji : j < i then hno j a hji hja else by
            obtain rfl : j = i := by omega
            rw [ha] at hja
            obtain rfl := Option.some.inj hja
            assumption⟩ (by solve | repeat first | assumption | exact Zr _ | refine Zq ?_ Zp) (by omega)
    . obtain rfl : i = r.length := by omega
      have e : hasM r w = false := hasM_no fun j a hja => hno j a (List.getElem?_eq_some_iff.1 hja).1 hja
      rw [e]
      repeat' (first | (refine G.atCode ?_; first | refine G.seq ?_ | refine G.region ?_ | refine G.exit rfl ?_ | refine G.ret ?_ | (refine G.cond rfl ?_ ?_ <;> intro hc <;> (try simp only [tests, reduceCtorEq] at hc) <;> (try exact Zf))) | refine G.endOps ?_ | (refine G.atBin ?_; first | refine G.op rfl rfl ?_) | refine G.op rfl rfl ?_)
      all_goals first | (exfalso; omega) | (refine G.done1 rfl rfl _ ?_ ⟨rfl, rfl⟩; solve | (apply Takes.sub; (repeat (first | apply Takes.nil | apply Take.hd | apply Take.tl | apply Takes.cons))))
  . refine Spec.enter Try.func28 rfl rfl ?_; intro w0
    refine G.rowLen Take.hd ?_
    intro hrl
    repeat' (first | (refine G.atCode ?_; refine G.stopLoop ?_) | (refine G.atCode ?_; first | refine G.seq ?_ | refine G.region ?_ | refine G.block ?_) | refine G.endOps ?_ | refine G.op rfl rfl ?_ | (refine G.atLen ?_; first | refine G.lenRow rfl (tyy rfl) Za rfl ?_))
    refine G.go ?_
    rw [avaR_length]
    refine G.loop (σ := Nat) (fun i => [(9, .int .i64 i), (8, .int .i64 r.length), (7, v), (1, str w)])
      (fun _ => [.row v 51 2 (avaR r)]) (fun i _ => i <= r.length /\ ∀ (j : Nat) (a : List UInt8 × List UInt8), j < i -> r[j]? = some a -> sameT a.1 w = false) (fun i => r.length - i) 0 ⟨rfl, rfl, rfl, rfl, trivial⟩ Zu ⟨Nat.zero_le _, fun j a hj => absurd hj (by omega)⟩ ?_
    rintro i h1 hle1 ⟨hi, hno⟩
    by_cases hlt : i < r.length
    . obtain ⟨⟨ta, va⟩, ha⟩ : ∃ a, r[i]? = some a := ⟨r[i], List.getElem?_eq_getElem hlt⟩
      have hget := avaR_get ha
      have hta := hr _ (List.mem_of_getElem? ha)
      have hyes := fun hs => hasM_yes (t := w) ha hs
      simp only [sameT, decide_eq_true_eq] at hget hta hyes
      simp only [sameT, decide_eq_false_iff_not] at hno
      repeat' (first | (refine G.atIdx ?_; refine G.idxRow' rfl rfl (tyy rfl) (tyy rfl) Za Zj rfl (by rw [avaR_length]; omega) ?_; intro p1 hp1) | (refine G.loadRowA rfl (tyy rfl) rfl rfl hp1 Za hget rfl ?_) | (show G _ (.ops .seq _ (⟨some _, .call { callee := .value (.func 31), args := _, argTypes := _ }, _, _, _, none⟩ :: _) :: _) _ _ _; refine G.call callRFold rfl rfl (ref01_Fold ta hta _) Ze ?_; rintro _ h2 H2 ⟨rfl, rfl⟩ hle2) | (show G _ (.ops .seq _ (⟨some _, .call { callee := .value (.func 31), args := _, argTypes := _ }, _, _, _, none⟩ :: _) :: _) _ _ _; refine G.call callRFold rfl rfl (ref01_Fold w hw _) Ze ?_; rintro _ h3 H3 ⟨rfl, rfl⟩ hle3) | (refine G.atCode ?_; first | refine G.seq ?_ | refine G.region ?_ | refine G.block ?_ | refine G.skip ?_ | refine G.ret ?_ | (refine G.cond rfl ?_ ?_ <;> intro hc <;> (try simp only [tests, reduceCtorEq] at hc) <;> (try exact Zf))) | refine G.endOps ?_ | refine G.endBlk ?_ | (refine G.atBin ?_; first | (refine G.atAdd ?_; first | refine G.arith rfl rfl rfl rfl rfl Zi ?_) | (refine G.atEql ?_; first | refine G.eqStr rfl rfl rfl ?_) | refine G.op rfl rfl ?_) | refine G.op rfl rfl ?_ | (refine G.atLoad ?_; first | refine G.loadOwn1 rfl (tyy rfl) rfl rfl Za rfl rfl ?_) | (refine G.atFld ?_; first | refine G.fieldAddr rfl (tyy rfl) rfl rfl ?_) | (refine G.atSto ?_; refine G.storeOwn rfl rfl (tyy rfl) Za rfl rfl rfl rfl ?_) | (refine G.atAlc ?_; refine G.alloc (tyy rfl) rfl rfl ?_; intro _))
      . have e := hyes Zp
        rw [e]
        (refine G.done1 rfl rfl _ ?_ ⟨rfl, rfl⟩; solve | (apply Takes.sub; (repeat (first | apply Takes.nil | apply Take.hd | apply Take.tl | apply Takes.cons))))
      . exact G.again (i + 1) ⟨sint (by simp), rfl, rfl, rfl, trivial⟩ Zu ⟨by omega, fun j a hj hja => by
          simp only [sameT, decide_eq_false_iff_not]
          exact if hji : j < i then hno j a hji hja else by
            obtain rfl : j = i := by omega
            rw [ha] at hja
            obtain rfl := Option.some.inj hja
            assumption⟩ (by solve | repeat first | assumption | exact Zr _ | refine Zq ?_ Zp) (by omega)
    . obtain rfl : i = r.length := by omega
      have e : hasM r w = false := hasM_no fun j a hja => hno j a (List.getElem?_eq_some_iff.1 hja).1 hja
      rw [e]
      repeat' (first | (refine G.atCode ?_; first | refine G.seq ?_ | refine G.region ?_ | refine G.exit rfl ?_ | refine G.ret ?_ | (refine G.cond rfl ?_ ?_ <;> intro hc <;> (try simp only [tests, reduceCtorEq] at hc) <;> (try exact Zf))) | refine G.endOps ?_ | (refine G.atBin ?_; first | refine G.op rfl rfl ?_) | refine G.op rfl rfl ?_)
      all_goals first | (exfalso; omega) | (refine G.done1 rfl rfl _ ?_ ⟨rfl, rfl⟩; solve | (apply Takes.sub; (repeat (first | apply Takes.nil | apply Take.hd | apply Take.tl | apply Takes.cons))))
end Go.Proofs.Ytahpemfnhepgoaa
