/- The document's schema: castellanref13.types, Core, At; schema.like, book.kind, Find. -/
import Derived.Test.YtfmekdmpghhegaaAcM
import Derived.Test.YtfmekdmpghhegaaLtO
namespace Go.Proofs.Ytfmekdmpghhegaa
set_option linter.all false
set_option maxRecDepth 4000
open Go.RowKit

abbrev Ty4 := List UInt8 × Int × Bool × Bool
def tyR (l : List Ty4) : List (List Value) := l.map fun t => [str t.1, .int .i64 t.2.1, .bool t.2.2.1, .bool t.2.2.2]
theorem tyR_length (l : List Ty4) : (tyR l).length = l.length := by simp [tyR]
theorem tyR_app (a b : List Ty4) : tyR (a ++ b) = tyR a ++ tyR b := by simp [tyR]
theorem tyR_get {l : List Ty4} {i : Nat} {t : Ty4} (h : l[i]? = some t) : (tyR l)[i]? = some [str t.1, .int .i64 t.2.1, .bool t.2.2.1, .bool t.2.2.2] := by simp [tyR, h]
def TyOk4 (l : List Ty4) : Prop := ∀ t ∈ l, t.1.length <= 100000000
theorem callLike : Callable Try.prog 45 := ⟨_, Try.func45, by kernel_rfl, rfl⟩
theorem callKind1 : Callable Try.prog 44 := ⟨_, Try.func44, by kernel_rfl, rfl⟩
theorem callIdxTy : Callable Try.prog 43 := ⟨_, Try.func43, by kernel_rfl, rfl⟩
theorem callKind : Callable Try.prog 30 := ⟨_, Try.func30, by kernel_rfl, rfl⟩
theorem callFind : Callable Try.prog 24 := ⟨_, Try.func24, by kernel_rfl, rfl⟩
theorem callAt13 : Callable Try.prog 26 := ⟨_, Try.func26, by kernel_rfl, rfl⟩
theorem callTypes13 : Callable Try.prog 41 := ⟨_, Try.func41, by kernel_rfl, rfl⟩
theorem callCore13 : Callable Try.prog 20 := ⟨_, Try.func20, by kernel_rfl, rfl⟩
theorem schema_like (a b : List UInt8) (ha : a.length <= 100000000) (hb : b.length <= 100000000) (h : Heap) : Spec Try.prog 45 [str a, str b] h [] (fun u _ H' => u = .bool (sameT a b) /\ H' = []) := by
  unfold sameT
  refine Spec.enter Try.func45 rfl rfl ?_; intro w0
  repeat' (first | (show G _ (.ops .seq _ (⟨some _, .call { callee := .value (.func 35), args := _, argTypes := _ }, _, _, _, none⟩ :: _) :: _) _ _ _; refine G.call callFold rfl rfl (octet_Fold a ha _) Ze ?_; rintro _ h2 H2 ⟨rfl, rfl⟩ hle2) | (show G _ (.ops .seq _ (⟨some _, .call { callee := .value (.func 35), args := _, argTypes := _ }, _, _, _, none⟩ :: _) :: _) _ _ _; refine G.call callFold rfl rfl (octet_Fold b hb _) Ze ?_; rintro _ h3 H3 ⟨rfl, rfl⟩ hle3) | (refine G.atCode ?_; first | refine G.seq ?_ | refine G.region ?_ | refine G.ret ?_) | refine G.endOps ?_ | (refine G.atBin ?_; first | (refine G.atEql ?_; first | refine G.eqStr rfl rfl rfl ?_)) | refine G.op rfl rfl ?_)
  all_goals exact G.done1 rfl rfl [] (SubH.nil _) ⟨rfl, rfl⟩
theorem schema_kind1 (t : Ty4) (w : List UInt8) (ht : t.1.length <= 100000000) (hw : w.length <= 100000000) (g : Nat) (h : Heap) :
    Spec Try.prog 44 [.agg #[str t.1, .int .i64 t.2.1, .bool t.2.2.1, .bool t.2.2.2], .pointer (some ⟨g, 0, none⟩)] h [.blk g [str w] 9] (fun u _ H' => u = .bool (sameT t.1 w) /\ H' = [.blk g [str w] 9]) := by
  refine Spec.enter Try.func44 rfl rfl ?_; intro w0
  repeat' (first | (show G _ (.ops .seq _ (⟨some _, .call { callee := .value (.func 45), args := _, argTypes := _ }, _, _, _, none⟩ :: _) :: _) _ _ _; refine G.call callLike rfl rfl (schema_like t.1 w ht hw _) Ze ?_; rintro _ h2 H2 ⟨rfl, rfl⟩ hle2) | (refine G.atCode ?_; first | refine G.seq ?_ | refine G.region ?_ | refine G.ret ?_) | refine G.endOps ?_ | refine G.op rfl rfl ?_ | (refine G.atLoad ?_; first | refine G.loadOwn1 rfl (tyy rfl) rfl rfl Za rfl rfl ?_) | (refine G.atFld ?_; first | refine G.fieldAddr rfl (tyy rfl) rfl rfl ?_) | (refine G.atBox ?_; refine G.box rfl rfl rfl ?_; intro _))
  all_goals (refine G.done1 rfl rfl _ ?_ ⟨rfl, rfl⟩; solve | (apply Takes.sub; (repeat (first | apply Takes.nil | apply Take.hd | apply Take.tl | apply Takes.cons))))
def tyB (syn : Int) (names : List (List UInt8)) : List Ty4 := names.map fun n => (n, syn, false, false)
theorem tyB_take {syn : Int} {names : List (List UInt8)} {i : Nat} {s : List UInt8} (h : names[i]? = some s) : tyB syn (names.take (i + 1)) = tyB syn (names.take i) ++ [(s, syn, false, false)] := by
  obtain ⟨hlt, he⟩ := List.getElem?_eq_some_iff.1 h
  unfold tyB
  rw [List.take_succ_eq_append_getElem hlt, he, List.map_append]; rfl
set_option maxRecDepth 8000 in
theorem ref13_types (l : List Ty4) (syn : Int) (names : List (List UInt8)) (hn : l.length + names.length <= 1000) (v nv : Value) (h : Heap) (hs : HSl h nv 1 (strsR names)) :
    Spec Try.prog 41 [v, .int .i64 syn, nv] h [.row v 49 4 (tyR l)] (fun u _ H' => H' = [.row u 49 4 (tyR (l ++ tyB syn names))]) := by
  have hnl : (strsR names).length = names.length := strsR_length names
  have hlr := tyR_length l
  refine Spec.enter Try.func41 rfl rfl ?_; intro w0
  repeat' (first | (refine G.atCode ?_; refine G.stopLoop ?_) | (refine G.atCode ?_; first | refine G.seq ?_ | refine G.region ?_ | refine G.block ?_) | refine G.endOps ?_ | refine G.op rfl rfl ?_ | (refine G.atLen ?_; first | refine G.lenImmS rfl (tyy rfl) Zl rfl ?_))
  refine G.go ?_
  refine G.loop (σ := Nat × Value) (fun x => [(11, .int .i64 x.1), (10, .int .i64 names.length), (9, nv), (0, x.2), (1, .int .i64 syn)])
    (fun x => [.row x.2 49 4 (tyR (l ++ tyB syn (names.take x.1)))]) (fun x _ => x.1 <= names.length) (fun x => names.length - x.1) ⟨0, v⟩ ⟨rfl, sint (by simp), rfl, rfl, rfl, trivial⟩ (by simp only [List.take_zero, tyB, List.map_nil, List.append_nil]; exact Zu) (Nat.zero_le _) ?_
  rintro ⟨i, v2⟩ h1 hle1 hi
  simp only at hi
  refine G.norm (by (try dsimp only) <;> exact rfl) (by (try dsimp only) <;> exact rfl) ?_
  have hs1 := hs.mono hle1
  by_cases hlt : i < names.length
  . obtain ⟨s, hsn⟩ : ∃ s, names[i]? = some s := ⟨names[i], List.getElem?_eq_getElem hlt⟩
    have htk := tyB_take (syn := syn) hsn
    have hget : (strsR names)[i]? = some [str s] := by simp [strsR, hsn]
    have hl4 : (tyR (l ++ tyB syn (names.take i))).length = l.length + i := by rw [tyR_length, List.length_append]; simp [tyB]; omega
    have hrow : tyR (l ++ tyB syn (names.take i)) ++ [[str s, .int .i64 syn, .bool false, .bool false]] = tyR (l ++ tyB syn (names.take (i + 1))) := by rw [htk, ← List.append_assoc, tyR_app (l ++ _)]; rfl
    generalize tyR (l ++ tyB syn (names.take i)) = RW at *
    repeat' (first | (refine G.atIdx ?_; refine G.idxImm rfl rfl (tyy rfl) (tyy rfl) hs1 Zj rfl (by rw [strsR_length]; omega) ?_; intro p1 r1 hr1 hp1; (rw [hget] at hr1); (obtain rfl := Option.some.inj hr1)) | (refine G.atApp ?_; refine G.append1 rfl rfl (tyy rfl) (tyy rfl) rfl rfl Za Za rfl rfl rfl Zo ?_; intro _) | (refine G.atCode ?_; first | refine G.seq ?_ | refine G.region ?_ | refine G.block ?_ | refine G.skip ?_ | (refine G.cond rfl ?_ ?_ <;> intro hc <;> (try simp only [tests, reduceCtorEq] at hc) <;> (try exact Zf))) | refine G.endOps ?_ | refine G.endBlk ?_ | (refine G.atBin ?_; first | (refine G.atAdd ?_; first | refine G.arith rfl rfl rfl rfl rfl Zi ?_) | refine G.op rfl rfl ?_) | refine G.op rfl rfl ?_ | (refine G.atLoad ?_; first | refine G.loadImm1 rfl (tyy rfl) rfl rfl Zp rfl ?_) | (refine G.atBld ?_; refine G.build (tyy rfl) rfl rfl rfl ?_) | (refine G.atBsl ?_; refine G.buildSlice (tyy rfl) (tyy rfl) rfl rfl rfl rfl ?_; intro _))
    all_goals first | (exfalso; omega) | skip
    exact G.again ⟨i + 1, _⟩ ⟨sint (by simp), rfl, rfl, rfl, rfl, trivial⟩ (by rw [<- hrow]; exact Zu) (by simp only; omega) (by solve | repeat first | assumption | exact Zr _ | refine Zq ?_ Zp) (by simp only; omega)
  . obtain rfl : i = names.length := by omega
    rw [List.take_of_length_le (Nat.le_refl _)]
    repeat' (first | (refine G.atCode ?_; first | refine G.seq ?_ | refine G.region ?_ | refine G.exit rfl ?_ | refine G.ret ?_ | (refine G.cond rfl ?_ ?_ <;> intro hc <;> (try simp only [tests, reduceCtorEq] at hc) <;> (try exact Zf))) | refine G.endOps ?_ | (refine G.atBin ?_; first | refine G.op rfl rfl ?_) | refine G.op rfl rfl ?_)
    all_goals first | (exfalso; omega) | exact G.done1 rfl rfl [.row v2 49 4 (tyR (l ++ tyB syn names))] Zu rfl | skip
end Go.Proofs.Ytfmekdmpghhegaa
