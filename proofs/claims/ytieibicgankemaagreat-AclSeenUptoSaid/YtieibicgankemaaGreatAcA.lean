/- The document's schema: castellanref13.types, Core, At; schema.like, book.kind, Find. -/
import Derived.Test.YtieibicgankemaaGreatAcM
import Derived.Test.YtieibicgankemaaGreatLtO
namespace Go.Proofs.YtieibicgankemaaGreat
set_option linter.all false
set_option maxRecDepth 4000
open Go.RowKit

abbrev Ty4 := List UInt8 × Int × Bool × Bool
def tyR (l : List Ty4) : List (List Value) := l.map fun t => [str t.1, .int .i64 t.2.1, .bool t.2.2.1, .bool t.2.2.2]
theorem tyR_length (l : List Ty4) : (tyR l).length = l.length := by simp [tyR]
theorem tyR_app (a b : List Ty4) : tyR (a ++ b) = tyR a ++ tyR b := by simp [tyR]
theorem tyR_get {l : List Ty4} {i : Nat} {t : Ty4} (h : l[i]? = some t) : (tyR l)[i]? = some [str t.1, .int .i64 t.2.1, .bool t.2.2.1, .bool t.2.2.2] := by simp [tyR, h]
def tyN (l : List Ty4) : List (List UInt8) := l.map (·.1)
def TyOk4 (l : List Ty4) : Prop := ∀ t ∈ l, t.1.length <= 100000000
theorem typM_yes {l : List Ty4} {w : List UInt8} {i : Nat} {t : Ty4} (h : l[i]? = some t) (h2 : sameT t.1 w = true) : typM (tyN l) w = true := by
  unfold typM tyN
  rw [List.any_eq_true]
  exact ⟨t.1, List.mem_map_of_mem (List.mem_of_getElem? h), h2⟩
theorem typM_no {l : List Ty4} {w : List UInt8} (h : ∀ (i : Nat) (t : Ty4), l[i]? = some t -> sameT t.1 w = false) : typM (tyN l) w = false := by
  unfold typM tyN
  rw [List.any_eq_false]
  intro a ha
  obtain ⟨t, ht, rfl⟩ := List.mem_map.1 ha
  obtain ⟨i, hi⟩ := List.getElem?_of_mem ht
  rw [h i t hi]; simp
theorem callLike : Callable Tryz.prog 58 := ⟨_, Tryz.func58, by kernel_rfl, rfl⟩
theorem callKind1 : Callable Tryz.prog 57 := ⟨_, Tryz.func57, by kernel_rfl, rfl⟩
theorem callIdxTy : Callable Tryz.prog 56 := ⟨_, Tryz.func56, by kernel_rfl, rfl⟩
theorem callKind : Callable Tryz.prog 33 := ⟨_, Tryz.func33, by kernel_rfl, rfl⟩
theorem callFind : Callable Tryz.prog 18 := ⟨_, Tryz.func18, by kernel_rfl, rfl⟩
theorem callTypes13 : Callable Tryz.prog 19 := ⟨_, Tryz.func19, by kernel_rfl, rfl⟩
theorem callCore13 : Callable Tryz.prog 5 := ⟨_, Tryz.func5, by kernel_rfl, rfl⟩
theorem schema_like (a b : List UInt8) (ha : a.length <= 100000000) (hb : b.length <= 100000000) (h : Heap) : Spec Tryz.prog 58 [str a, str b] h [] (fun u _ H' => u = .bool (sameT a b) /\ H' = []) := by
  unfold sameT
  refine Spec.enter Tryz.func58 rfl rfl ?_; intro w0
  repeat' (first | (show G _ (.ops .seq _ (⟨some _, .call { callee := .value (.func 35), args := _, argTypes := _ }, _, _, _, none⟩ :: _) :: _) _ _ _; refine G.call callFold rfl rfl (octet_Fold a ha _) Ze ?_; rintro _ h2 H2 ⟨rfl, rfl⟩ hle2) | (show G _ (.ops .seq _ (⟨some _, .call { callee := .value (.func 35), args := _, argTypes := _ }, _, _, _, none⟩ :: _) :: _) _ _ _; refine G.call callFold rfl rfl (octet_Fold b hb _) Ze ?_; rintro _ h3 H3 ⟨rfl, rfl⟩ hle3) | (refine G.atCode ?_; first | refine G.seq ?_ | refine G.region ?_ | refine G.ret ?_) | refine G.endOps ?_ | (refine G.atBin ?_; first | (refine G.atEql ?_; first | refine G.eqStr rfl rfl rfl ?_)) | refine G.op rfl rfl ?_)
  all_goals exact G.done1 rfl rfl [] (SubH.nil _) ⟨rfl, rfl⟩
theorem schema_kind1 (t : Ty4) (w : List UInt8) (ht : t.1.length <= 100000000) (hw : w.length <= 100000000) (g : Nat) (h : Heap) :
    Spec Tryz.prog 57 [.agg #[str t.1, .int .i64 t.2.1, .bool t.2.2.1, .bool t.2.2.2], .pointer (some ⟨g, 0, none⟩)] h [.blk g [str w] 9] (fun u _ H' => u = .bool (sameT t.1 w) /\ H' = [.blk g [str w] 9]) := by
  refine Spec.enter Tryz.func57 rfl rfl ?_; intro w0
  repeat' (first | (show G _ (.ops .seq _ (⟨some _, .call { callee := .value (.func 58), args := _, argTypes := _ }, _, _, _, none⟩ :: _) :: _) _ _ _; refine G.call callLike rfl rfl (schema_like t.1 w ht hw _) Ze ?_; rintro _ h2 H2 ⟨rfl, rfl⟩ hle2) | (refine G.atCode ?_; first | refine G.seq ?_ | refine G.region ?_ | refine G.ret ?_) | refine G.endOps ?_ | refine G.op rfl rfl ?_ | (refine G.atLoad ?_; first | refine G.loadOwn1 rfl (tyy rfl) rfl rfl Za rfl rfl ?_) | (refine G.atFld ?_; first | refine G.fieldAddr rfl (tyy rfl) rfl rfl ?_) | (refine G.atBox ?_; refine G.box rfl rfl rfl ?_; intro _))
  all_goals (refine G.done1 rfl rfl _ ?_ ⟨rfl, rfl⟩; solve | (apply Takes.sub; (repeat (first | apply Takes.nil | apply Take.hd | apply Take.tl | apply Takes.cons))))
set_option maxRecDepth 8000 in
theorem slices_IndexTy (l : List Ty4) (hl : TyOk4 l) (v : Value) (w : List UInt8) (hw : w.length <= 100000000) (g : Nat) (h : Heap) (hs : HSl h v 4 (tyR l)) :
    Spec Tryz.prog 56 [v, .func (.func 57) #[] #[.pointer (some ⟨g, 0, none⟩)]] h [.blk g [str w] 9] (fun u _ H' => (∃ i : Int, u = .int .i64 i /\ decide (0 <= i) = typM (tyN l) w /\ i < l.length) /\ H' = [.blk g [str w] 9]) := by
  have hrl := hs.len
  have hlr := tyR_length l
  refine Spec.enter Tryz.func56 rfl rfl ?_; intro w0
  repeat' (first | (refine G.atCode ?_; refine G.stopLoop ?_) | (refine G.atCode ?_; first | refine G.seq ?_ | refine G.region ?_ | refine G.block ?_) | refine G.endOps ?_ | refine G.op rfl rfl ?_ | (refine G.atLen ?_; first | refine G.lenImm rfl (tyy rfl) Zl rfl ?_))
  refine G.go ?_
  rw [tyR_length]
  refine G.loop (σ := Nat) (fun i => [(8, .int .i64 i), (7, .int .i64 l.length), (1, .func (.func 57) #[] #[.pointer (some ⟨g, 0, none⟩)]), (0, v)])
    (fun _ => [.blk g [str w] 9]) (fun i _ => i <= l.length /\ ∀ (j : Nat) (t : Ty4), j < i -> l[j]? = some t -> sameT t.1 w = false) (fun i => l.length - i) 0 ⟨rfl, rfl, rfl, rfl, trivial⟩ Zu ⟨Nat.zero_le _, fun j a hj => absurd hj (by omega)⟩ ?_
  rintro i h1 hle1 ⟨hi, hno⟩
  by_cases hlt : i < l.length
  . obtain ⟨t, ht⟩ : ∃ t, l[i]? = some t := ⟨l[i], List.getElem?_eq_getElem hlt⟩
    have hget := tyR_get ht
    have htl := hl _ (List.mem_of_getElem? ht)
    have hyes := fun hs => typM_yes (w := w) ht hs
    repeat' (first | (refine G.atIdx ?_; refine G.idxImm rfl rfl (tyy rfl) (tyy rfl) (hs.mono hle1) Zj rfl (by rw [tyR_length]; omega) ?_; intro p1 r1 hr1 hp1; (rw [hget] at hr1); (obtain rfl := Option.some.inj hr1); have hl1 : ([str t.1, .int .i64 t.2.1, .bool t.2.2.1, .bool t.2.2.2] : List Value).length = 4 := rfl) | (refine G.callClo rfl callKind1 rfl rfl (schema_kind1 t w htl hw g _) Ze ?_; rintro _ h2 H2 ⟨rfl, rfl⟩ hle2) | (refine G.atCode ?_; first | refine G.seq ?_ | refine G.region ?_ | refine G.block ?_ | refine G.skip ?_ | refine G.ret ?_ | (refine G.cond rfl ?_ ?_ <;> intro hc <;> (try simp only [tests, reduceCtorEq] at hc) <;> (try exact Zf))) | refine G.endOps ?_ | refine G.endBlk ?_ | (refine G.atBin ?_; first | (refine G.atAdd ?_; first | refine G.arith rfl rfl rfl rfl rfl Zi ?_) | refine G.op rfl rfl ?_) | refine G.op rfl rfl ?_ | (refine G.atLoad ?_; first | refine G.loadImmA rfl (tyy rfl) rfl rfl Zp Zp rfl ?_))
    . have e := hyes Zp
      rw [e]
      (refine G.done1 rfl rfl _ ?_ ⟨⟨_, rfl, decide_eq_true (by omega), by omega⟩, rfl⟩; solve | (apply Takes.sub; (repeat (first | apply Takes.nil | apply Take.hd | apply Take.tl | apply Takes.cons))))
    . have e : sameT t.1 w = false := by first | assumption | simpa using (by assumption : ¬ sameT t.1 w = true)
      exact G.again (i + 1) ⟨sint (by simp), rfl, rfl, rfl, trivial⟩ Zu ⟨by omega, fun j a hj hja => if hji : j < i then hno j a hji hja else by
        obtain rfl : j = i := by omega
        rw [ht] at hja
        obtain rfl := Option.some.inj hja
        exact e⟩ (by solve | repeat first | assumption | exact Zr _ | refine Zq ?_ Zp) (by omega)
  . obtain rfl : i = l.length := by omega
    have e : typM (tyN l) w = false := typM_no fun j a hja => hno j a (List.getElem?_eq_some_iff.1 hja).1 hja
    rw [e]
    repeat' (first | (refine G.atCode ?_; first | refine G.seq ?_ | refine G.region ?_ | refine G.exit rfl ?_ | refine G.ret ?_ | (refine G.cond rfl ?_ ?_ <;> intro hc <;> (try simp only [tests, reduceCtorEq] at hc) <;> (try exact Zf))) | refine G.endOps ?_ | (refine G.atBin ?_; first | refine G.op rfl rfl ?_) | refine G.op rfl rfl ?_)
    all_goals first | (exfalso; omega) | (refine G.done1 rfl rfl _ ?_ ⟨⟨_, rfl, by decide, by omega⟩, rfl⟩; solve | (apply Takes.sub; (repeat (first | apply Takes.nil | apply Take.hd | apply Take.tl | apply Takes.cons))))
set_option maxRecDepth 8000 in
theorem schema_kind (l : List Ty4) (hl : TyOk4 l) (v c : Value) (w : List UInt8) (hw : w.length <= 100000000) (h : Heap) (hs : HSl h v 4 (tyR l)) :
    Spec Tryz.prog 33 [.agg #[v, c], str w] h [] (fun u _ H' => (∃ t : Ty4, u = .tuple #[.agg #[str t.1, .int .i64 t.2.1, .bool t.2.2.1, .bool t.2.2.2], .bool (typM (tyN l) w)]) /\ H' = []) := by
  have hlr := tyR_length l
  refine Spec.enter Tryz.func33 rfl rfl ?_; intro w0
  repeat' (first | (refine G.makeFunc rfl rfl rfl ?_) | (show G _ (.ops .seq _ (⟨some _, .call { callee := .value (.func 56), args := _, argTypes := _ }, _, _, _, none⟩ :: _) :: _) _ _ _; refine G.call callIdxTy rfl rfl (slices_IndexTy l hl v w hw _ _ (hs.mono (by solve | repeat first | assumption | exact Zr _ | refine Zq ?_ Zp))) Ze ?_; rintro _ h2 H2 ⟨⟨i, rfl, hi, hil⟩, rfl⟩ hle2; rw [<- hi]) | (refine G.atIdx ?_; refine G.idxImm rfl rfl (tyy rfl) (tyy rfl) (hs.mono (by solve | repeat first | assumption | exact Zr _ | refine Zq ?_ Zp)) Zj rfl (by rw [tyR_length]; omega) ?_; intro p1 r1 hr1 hp1; obtain ⟨t, ht, rfl⟩ : ∃ t : Ty4, True /\ r1 = [str t.1, .int .i64 t.2.1, .bool t.2.2.1, .bool t.2.2.2] := (by simp only [tyR, List.getElem?_map, Option.map_eq_some_iff] at hr1; obtain ⟨t, _, ht⟩ := hr1; exact ⟨t, trivial, ht.symm⟩); have hl1 : ([str t.1, .int .i64 t.2.1, .bool t.2.2.1, .bool t.2.2.2] : List Value).length = 4 := rfl) | (refine G.atCode ?_; first | refine G.seq ?_ | refine G.region ?_ | refine G.skip ?_ | refine G.ret ?_ | (refine G.cond rfl ?_ ?_ <;> intro hc <;> (try simp only [tests, reduceCtorEq] at hc) <;> (try exact Zf))) | refine G.endOps ?_ | (refine G.atBin ?_; first | refine G.op rfl rfl ?_) | refine G.op rfl rfl ?_ | (refine G.atLoad ?_; first | refine G.loadOwn1 rfl (tyy rfl) rfl rfl Za rfl rfl ?_ | refine G.loadImmA rfl (tyy rfl) rfl rfl Zp Zp rfl ?_) | (refine G.atFld ?_; first | refine G.fieldAddr rfl (tyy rfl) rfl rfl ?_) | (refine G.atSto ?_; refine G.storeOwn rfl rfl (tyy rfl) Za rfl rfl rfl rfl ?_) | (refine G.atAlc ?_; refine G.alloc (tyy rfl) rfl rfl ?_; intro _) | (refine G.atBox ?_; refine G.box rfl rfl rfl ?_; intro _) | (refine G.atBld ?_; refine G.build (tyy rfl) rfl rfl rfl ?_))
  all_goals first
    | (rw [decide_eq_false (by omega)]; exact G.done (rs := [.cell 4 60, .tmp 5]) rfl (.cellA rfl (tyy rfl) rfl rfl Za rfl (.tmp rfl .nil)) rfl [] (SubH.nil _) ⟨⟨([], 0, false, false), rfl⟩, rfl⟩)
    | (rw [decide_eq_true (by omega)]; exact G.done (rs := [.cell 4 60, .tmp 5]) rfl (.cellA rfl (tyy rfl) rfl rfl Za rfl (.tmp rfl .nil)) rfl [] (SubH.nil _) ⟨⟨_, rfl⟩, rfl⟩)
    | skip
theorem schema_Find (l : List Ty4) (hl : TyOk4 l) (v c : Value) (w : List UInt8) (hw : w.length <= 100000000) (h : Heap) (hs : HSl h v 4 (tyR l)) :
    Spec Tryz.prog 18 [.agg #[v, c], str w] h [] (fun u _ H' => (∃ t : Ty4, u = .tuple #[.agg #[str t.1, .int .i64 t.2.1, .bool t.2.2.1, .bool t.2.2.2], .bool (typM (tyN l) w)]) /\ H' = []) := by
  refine Spec.enter Tryz.func18 rfl rfl ?_; intro w0
  repeat' (first | (show G _ (.ops .seq _ (⟨some _, .call { callee := .value (.func 33), args := _, argTypes := _ }, _, _, _, none⟩ :: _) :: _) _ _ _; refine G.call callKind rfl rfl (schema_kind l hl v c w hw _ (hs.mono (by solve | repeat first | assumption | exact Zr _ | refine Zq ?_ Zp))) Ze ?_; rintro _ h2 H2 ⟨⟨t, rfl⟩, rfl⟩ hle2) | (refine G.atCode ?_; first | refine G.seq ?_ | refine G.region ?_ | refine G.ret ?_) | refine G.endOps ?_ | refine G.op rfl rfl ?_ | (refine G.atLoad ?_; first | refine G.loadOwnA rfl (tyy rfl) rfl rfl Za rfl rfl ?_) | (refine G.atSto ?_; refine G.storeOwn rfl rfl (tyy rfl) Za rfl rfl rfl rfl ?_) | (refine G.atAlc ?_; refine G.alloc (tyy rfl) rfl rfl ?_; intro _) | (refine G.atBox ?_; refine G.box rfl rfl rfl ?_; intro _) | (refine G.atBld ?_; refine G.build (tyy rfl) rfl rfl rfl ?_))
  all_goals exact G.done (rs := [.cell 4 60, .tmp 5]) rfl (.cellA rfl (tyy rfl) rfl rfl Za rfl (.tmp rfl .nil)) rfl [] (SubH.nil _) ⟨⟨t, rfl⟩, rfl⟩
def tyB (syn : Int) (names : List (List UInt8)) : List Ty4 := names.map fun n => (n, syn, false, false)
theorem tyB_take {syn : Int} {names : List (List UInt8)} {i : Nat} {s : List UInt8} (h : names[i]? = some s) : tyB syn (names.take (i + 1)) = tyB syn (names.take i) ++ [(s, syn, false, false)] := by
  obtain ⟨hlt, he⟩ := List.getElem?_eq_some_iff.1 h
  unfold tyB
  rw [List.take_succ_eq_append_getElem hlt, he, List.map_append]; rfl
set_option maxRecDepth 8000 in
theorem ref13_types (l : List Ty4) (syn : Int) (names : List (List UInt8)) (hn : l.length + names.length <= 1000) (v nv : Value) (h : Heap) (hs : HSl h nv 1 (strsR names)) :
    Spec Tryz.prog 19 [v, .int .i64 syn, nv] h [.row v 60 4 (tyR l)] (fun u _ H' => H' = [.row u 60 4 (tyR (l ++ tyB syn names))]) := by
  have hnl : (strsR names).length = names.length := strsR_length names
  have hlr := tyR_length l
  refine Spec.enter Tryz.func19 rfl rfl ?_; intro w0
  repeat' (first | (refine G.atCode ?_; refine G.stopLoop ?_) | (refine G.atCode ?_; first | refine G.seq ?_ | refine G.region ?_ | refine G.block ?_) | refine G.endOps ?_ | refine G.op rfl rfl ?_ | (refine G.atLen ?_; first | refine G.lenImmS rfl (tyy rfl) Zl rfl ?_))
  refine G.go ?_
  refine G.loop (σ := Nat × Value) (fun x => [(11, .int .i64 x.1), (10, .int .i64 names.length), (9, nv), (0, x.2), (1, .int .i64 syn)])
    (fun x => [.row x.2 60 4 (tyR (l ++ tyB syn (names.take x.1)))]) (fun x _ => x.1 <= names.length) (fun x => names.length - x.1) ⟨0, v⟩ ⟨rfl, sint (by simp), rfl, rfl, rfl, trivial⟩ (by simp only [List.take_zero, tyB, List.map_nil, List.append_nil]; exact Zu) (Nat.zero_le _) ?_
  rintro ⟨i, v2⟩ h1 hle1 hi
  simp only at hi
  refine G.norm (by (try dsimp only) <;> exact rfl) (by (try dsimp only) <;> exact rfl) ?_
  have hs1 := hs.mono hle1
  by_cases hlt : i < names.length
  . obtain ⟨s, hsn⟩ : ∃ s, names[i]? = some s := ⟨names[i], List.getElem?_eq_getElem hlt⟩
    have htk := tyB_take (syn := syn) hsn
    have hget : (strsR names)[i]? = some [str s] := by simp [strsR, hsn]
    have hl4 : (tyR (l ++ tyB syn (names.take i))).length = l.length + i := by rw [tyR_length, List.length_append]; simp [tyB]; omega
    have hrow : tyR (l ++ tyB syn (names.take i)) ++ [[str s, .int .i64 syn, .bool false, .bool false]] = tyR (l ++ tyB syn (names.take (i + 1))) := by rw [htk, ← List.append_assoc, tyR_app (l ++ _)]; rfl
    generalize tyR (l ++ tyB syn (names.take i)) = RW at *
    repeat' (first | (refine G.atIdx ?_; refine G.idxImm rfl rfl (tyy rfl) (tyy rfl) hs1 Zj rfl (by rw [strsR_length]; omega) ?_; intro p1 r1 hr1 hp1; (rw [hget] at hr1); (obtain rfl := Option.some.inj hr1)) | (refine G.atApp ?_; refine G.append1 rfl rfl (tyy rfl) (tyy rfl) rfl rfl Za Za rfl rfl rfl Zo ?_; intro _) | (refine G.atCode ?_; first | refine G.seq ?_ | refine G.region ?_ | refine G.block ?_ | refine G.skip ?_ | (refine G.cond rfl ?_ ?_ <;> intro hc <;> (try simp only [tests, reduceCtorEq] at hc) <;> (try exact Zf))) | refine G.endOps ?_ | refine G.endBlk ?_ | (refine G.atBin ?_; first | (refine G.atAdd ?_; first | refine G.arith rfl rfl rfl rfl rfl Zi ?_) | refine G.op rfl rfl ?_) | refine G.op rfl rfl ?_ | (refine G.atLoad ?_; first | refine G.loadImm1 rfl (tyy rfl) rfl rfl Zp rfl ?_) | (refine G.atBld ?_; refine G.build (tyy rfl) rfl rfl rfl ?_) | (refine G.atBsl ?_; refine G.buildSlice (tyy rfl) (tyy rfl) rfl rfl rfl rfl ?_; intro _))
    all_goals first | (exfalso; omega) | skip
    exact G.again ⟨i + 1, _⟩ ⟨sint (by simp), rfl, rfl, rfl, rfl, trivial⟩ (by rw [<- hrow]; exact Zu) (by simp only; omega) (by solve | repeat first | assumption | exact Zr _ | refine Zq ?_ Zp) (by simp only; omega)
  . obtain rfl : i = names.length := by omega
    rw [List.take_of_length_le (Nat.le_refl _)]
    repeat' (first | (refine G.atCode ?_; first | refine G.seq ?_ | refine G.region ?_ | refine G.exit rfl ?_ | refine G.ret ?_ | (refine G.cond rfl ?_ ?_ <;> intro hc <;> (try simp only [tests, reduceCtorEq] at hc) <;> (try exact Zf))) | refine G.endOps ?_ | (refine G.atBin ?_; first | refine G.op rfl rfl ?_) | refine G.op rfl rfl ?_)
    all_goals first | (exfalso; omega) | exact G.done1 rfl rfl [.row v2 60 4 (tyR (l ++ tyB syn names))] Zu rfl | skip
end Go.Proofs.YtieibicgankemaaGreat
