/- slices.Clone, Index, Contains, Grow, Concat of texts; book.class, Class. -/
import Derived.Test.YtfmekdmpghhegaaDoorScB
import Derived.Test.YtfmekdmpghhegaaDoorShH
import Derived.Test.YtfmekdmpghhegaaDoorLtV
import Derived.Lib.SliceRun
namespace Go.Proofs.YtfmekdmpghhegaaDoor
set_option linter.all false
set_option maxRecDepth 4000
open Go.RowKit

section
variable {E : Env} {k : List It} {f : Fr} {h : Heap} {H : List Chunk} {st : Md} [hmd : OkMd st h H] {all : Array Oper} {rest : List Oper} {d : Nat} {ty : TypeId} {pos : String} {aft : Array Edge}
theorem G.eqNilSl {t t' e : TypeId} {x y : Operand} {A : Option Addr} {n c sz by_ : Nat} {z : Value} (hx : ev f x = some (.slice A n c)) (hy : ev f y = some (.slice none 0 0)) (ht : Ty E.P t (.slice e) sz by_ z) (hd : Nat.blt d E.n = true)
    (g : G E (.ops st all rest :: k) ((d, .bool A.isNone) :: f) h H) :
    G E (.ops st all (⟨some d, .binOp .eql t x y t', ty, pos, aft, none⟩ :: rest) :: k) f h H := by
  refine G.opVal hd (fun _ a w ha _ => ?_) g
  have := ht.fits
  simp only [TD.fits] at this
  have hq : ∀ dd, (Op.equalIn (dd + 1) t (.slice A n c) (.slice none 0 0)).run E.P w = .ok A.isNone w := fun dd => Lib.run_equalIn_slice_nil w dd t e A n c 0 0 this
  exact run_eqGen ha hx hy (by cases A <;> rfl) (fun _ _ => by cases A <;> rfl) (hq 9999)
end
theorem callClone : Callable Tryd.prog 31 := ⟨_, Tryd.func31, by kernel_rfl, rfl⟩
theorem callIndexS : Callable Tryd.prog 32 := ⟨_, Tryd.func32, by kernel_rfl, rfl⟩
theorem callContains : Callable Tryd.prog 20 := ⟨_, Tryd.func20, by kernel_rfl, rfl⟩
theorem callGrowS : Callable Tryd.prog 44 := ⟨_, Tryd.func44, by kernel_rfl, rfl⟩
theorem callConcatS : Callable Tryd.prog 37 := ⟨_, Tryd.func37, by kernel_rfl, rfl⟩
theorem slices_Clone (L : List (List UInt8)) (v : Value) (hL : L.length <= 10000000) (h : Heap) (hv : HSl h v 1 (strsR L)) : Spec Tryd.prog 31 [v] h [] (fun u h' H' => HSl h' u 1 (strsR L) /\ H' = []) := by
  obtain ⟨A, c, rfl, _, _, hA⟩ := hv.form
  cases A with
  | none =>
    have hn : L = [] := by
      cases L with
      | nil => rfl
      | cons x L => obtain ⟨ad, h1, _⟩ := hA (by simp [strsR]); cases h1
    subst hn
    refine Spec.enter Tryd.func31 rfl rfl ?_; intro w0
    repeat' (first | (refine G.atEql ?_; refine G.eqNilSl rfl rfl (tyy rfl) rfl ?_) | (refine G.atCode ?_; first | refine G.seq ?_ | refine G.region ?_ | refine G.ret ?_ | (refine G.cond rfl ?_ ?_ <;> intro hc <;> (try simp only [tests, reduceCtorEq] at hc) <;> (try exact Zf))) | refine G.endOps ?_ | refine G.op rfl rfl ?_)
    all_goals first | (exfalso; simp_all; done) | exact G.done1 rfl rfl [] (SubH.nil _) ⟨HSl.nil _ 1, rfl⟩
  | some ad =>
    refine Spec.enter Tryd.func31 rfl rfl ?_; intro w0
    repeat' (first | (refine G.atEql ?_; refine G.eqNilSl rfl rfl (tyy rfl) rfl ?_) | (refine G.atApp ?_; refine G.blkNil 1 Take.hd ?_; refine G.appendImmS (l := []) (l' := L) rfl rfl (tyy rfl) (tyy rfl) rfl rfl Take.hd (hv.mono (by solve | repeat first | assumption | exact Zr _ | refine Zq ?_ Zp)) rfl (by simp only [List.length_nil]; omega) ?_; intro v9) | (refine G.atCode ?_; first | refine G.seq ?_ | refine G.region ?_ | refine G.skip ?_ | refine G.ret ?_ | (refine G.cond rfl ?_ ?_ <;> intro hc <;> (try simp only [tests, reduceCtorEq] at hc) <;> (try exact Zf))) | refine G.endOps ?_ | refine G.op rfl rfl ?_ | (refine G.atBsl ?_; refine G.buildSlice (tyy rfl) (tyy rfl) rfl rfl rfl rfl ?_; intro _))
    all_goals first
      | (refine G.freezeRow Take.hd ?_; intro h8 hle8 hs8; exact G.done1 rfl rfl [] (SubH.nil _) ⟨hs8, rfl⟩)
      | (exfalso; simp_all; done)
theorem slices_Index (L : List (List UInt8)) (s : List UInt8) (v : Value) (h : Heap) (hv : HSl h v 1 (strsR L)) : Spec Tryd.prog 32 [v, str s] h [] (fun u _ H' => (∃ i : Int, u = .int .i64 i /\ decide (0 <= i) = decide (s ∈ L)) /\ H' = []) := by
  have hl := hv.len
  obtain ⟨A, c, rfl, _⟩ := hv.form
  rw [strsR_length] at *
  refine Spec.enter Tryd.func32 rfl rfl ?_; intro w0
  repeat' (first | (refine G.atCode ?_; refine G.stopLoop ?_) | (refine G.atCode ?_; first | refine G.seq ?_ | refine G.region ?_ | refine G.block ?_) | refine G.endOps ?_ | refine G.op rfl rfl ?_ | (refine G.atLen ?_; first | refine G.lenSlice rfl (tyy rfl) rfl ?_))
  refine G.go ?_
  refine G.loop (σ := Nat) (fun i => [(8, .int .i64 i), (7, .int .i64 L.length), (0, .slice A L.length c), (1, str s)])
    (fun _ => []) (fun i _ => i <= L.length /\ s ∉ L.take i) (fun i => L.length - i) 0 ⟨rfl, rfl, rfl, rfl, trivial⟩ (SubH.nil _) ⟨Nat.zero_le _, by simp⟩ ?_
  rintro i h1 hle1 ⟨hi, hno⟩
  by_cases hlt : i < L.length
  . obtain ⟨x, hx⟩ : ∃ t, L[i]? = some t := ⟨L[i], List.getElem?_eq_getElem hlt⟩
    have hget : (strsR L)[i]? = some [str x] := by simp [strsR, hx]
    by_cases hsx : s = x
    . subst hsx
      have hm : s ∈ L := List.mem_of_getElem? hx
      repeat' (first | (refine G.atIdx ?_; refine G.idxImm rfl rfl (tyy rfl) (tyy rfl) (hv.mono (by solve | repeat first | assumption | exact Zr _ | refine Zq ?_ Zp)) Zj rfl (by rw [strsR_length]; omega) ?_; intro pp rr hx9 hp9; (rw [hget] at hx9); (obtain rfl := Option.some.inj hx9)) | (refine G.atCode ?_; first | refine G.seq ?_ | refine G.region ?_ | refine G.block ?_ | refine G.skip ?_ | refine G.ret ?_ | (refine G.cond rfl ?_ ?_ <;> intro hc <;> (try simp only [tests, reduceCtorEq] at hc) <;> (try exact Zf))) | refine G.endOps ?_ | (refine G.atBin ?_; first | (refine G.atEql ?_; first | refine G.eqStr rfl rfl rfl ?_) | refine G.op rfl rfl ?_) | refine G.op rfl rfl ?_ | (refine G.atLoad ?_; first | refine G.loadImm1 rfl (tyy rfl) rfl rfl Zp rfl ?_))
      all_goals first | (exfalso; omega) | (exfalso; simp_all; done) | exact G.done1 rfl rfl [] (SubH.nil _) ⟨⟨_, rfl, by rw [decide_eq_true hm, decide_eq_true (by omega)]⟩, rfl⟩
    . repeat' (first | (refine G.atIdx ?_; refine G.idxImm rfl rfl (tyy rfl) (tyy rfl) (hv.mono (by solve | repeat first | assumption | exact Zr _ | refine Zq ?_ Zp)) Zj rfl (by rw [strsR_length]; omega) ?_; intro pp rr hx9 hp9; (rw [hget] at hx9); (obtain rfl := Option.some.inj hx9)) | (refine G.atCode ?_; first | refine G.seq ?_ | refine G.region ?_ | refine G.block ?_ | refine G.skip ?_ | (refine G.cond rfl ?_ ?_ <;> intro hc <;> (try simp only [tests, reduceCtorEq] at hc) <;> (try exact Zf))) | refine G.endOps ?_ | refine G.endBlk ?_ | (refine G.atBin ?_; first | (refine G.atAdd ?_; first | refine G.arith rfl rfl rfl rfl rfl Zi ?_) | (refine G.atEql ?_; first | refine G.eqStr rfl rfl rfl ?_) | refine G.op rfl rfl ?_) | refine G.op rfl rfl ?_ | (refine G.atLoad ?_; first | refine G.loadImm1 rfl (tyy rfl) rfl rfl Zp rfl ?_))
      all_goals first | (exfalso; omega) | (exfalso; simp_all; done) | exact G.again (i + 1) ⟨sint (by simp), rfl, rfl, rfl, trivial⟩ (SubH.nil _) ⟨by omega, by rw [take_get hx]; simp [hno, hsx]⟩ (by solve | repeat first | assumption | exact Zr _ | refine Zq ?_ Zp) (by omega)
  . obtain rfl : i = L.length := by omega
    rw [List.take_length] at hno
    repeat' (first | (refine G.atCode ?_; first | refine G.seq ?_ | refine G.region ?_ | refine G.exit rfl ?_ | refine G.ret ?_ | (refine G.cond rfl ?_ ?_ <;> intro hc <;> (try simp only [tests, reduceCtorEq] at hc) <;> (try exact Zf))) | refine G.endOps ?_ | (refine G.atBin ?_; first | refine G.op rfl rfl ?_) | refine G.op rfl rfl ?_)
    all_goals first | (exfalso; omega) | exact G.done1 rfl rfl [] (SubH.nil _) ⟨⟨_, rfl, by rw [decide_eq_false hno]; decide⟩, rfl⟩
theorem slices_Contains (L : List (List UInt8)) (s : List UInt8) (v : Value) (h : Heap) (hv : HSl h v 1 (strsR L)) : Spec Tryd.prog 20 [v, str s] h [] (fun u _ H' => u = .bool (decide (s ∈ L)) /\ H' = []) := by
  refine Spec.enter Tryd.func20 rfl rfl ?_; intro w0
  repeat' (first | (show G _ (.ops .seq _ (⟨some _, .call { callee := .value (.func 32), args := _, argTypes := _ }, _, _, _, none⟩ :: _) :: _) _ _ _; refine G.call callIndexS rfl rfl (slices_Index L s v _ (hv.mono (by solve | repeat first | assumption | exact Zr _ | refine Zq ?_ Zp))) Ze ?_; rintro _ h2 H2 ⟨⟨i, rfl, hi⟩, rfl⟩ hle2) | (refine G.atCode ?_; first | refine G.seq ?_ | refine G.region ?_ | refine G.ret ?_) | refine G.endOps ?_ | (refine G.atBin ?_; first | refine G.op rfl rfl ?_) | refine G.op rfl rfl ?_)
  all_goals (rw [<- hi]; exact G.done1 rfl rfl [] (SubH.nil _) ⟨rfl, rfl⟩)
theorem infoStrG : (Tryd.prog.info? 9).map (fun i => (i.size, i.bytes, i.zero)) = some (1, 16, some (.string ⟨#[]⟩)) := by kernel_rfl
theorem slices_GrowS (n : Nat) (hn : n <= 100000000) (h : Heap) : Spec Tryd.prog 44 [.slice none 0 0, .int .i64 n] h [] (fun u _ H' => H' = [.row u 9 1 []]) := by
  refine ⟨fun w hw => ?_⟩
  by_cases h0 : n = 0
  . subst h0
    refine (Any8.slices_Grow_room laysGrowS none 0 0 0 w (Nat.le_refl _) (by decide) (by decide) (by decide)).mono ?_
    rintro e w' ⟨rfl, rfl⟩
    refine ⟨_, h, _, rfl, rfl, ?_⟩
    have s := hw.start
    have hk : keys [Chunk.row (.slice none 0 0) 9 1 []] = [] := rfl
    exact ⟨s.os, s.tape, s.output, s.size, s.fr, s.mono, s.imm, fun x hx => by rw [List.mem_singleton.1 hx]; exact ⟨fun r hr => absurd hr (by simp), .inl ⟨rfl, rfl⟩⟩, by rw [hk]; exact List.nodup_nil, fun g hg => by rw [hk] at hg; simp at hg, fun g hg => by rw [hk] at hg; simp at hg, s.isub⟩
  . obtain ⟨i, hi, hj⟩ : ∃ i, Tryd.prog.info? 9 = some i /\ (i.size, i.bytes, i.zero) = (1, 16, some (Value.string ⟨#[]⟩)) := by
      have := infoStrG
      cases hx : Tryd.prog.info? 9 with
      | none => rw [hx] at this; cases this
      | some i => rw [hx] at this; simp only [Option.map_some, Option.some.injEq] at this; exact ⟨i, rfl, this⟩
    simp only [Prod.mk.injEq] at hj
    obtain ⟨e1, e2, e3⟩ := hj
    refine (Any8.slices_Grow_grow laysGrowS i (.string ⟨#[]⟩) hi e3 (by omega) none 0 0 n [] w (Nat.le_refl _) (by omega) (by rw [e2]; omega) (by omega) (by simp) (fun _ => rfl) (fun a ha => by cases ha)).mono ?_
    rintro e w' ⟨rfl, rfl⟩
    have hge := grownCap_ge w (0 + n) 0 9
    have hcm : grownCap w (0 + n) 0 9 <= maxLen := grownCap_le_maxLen w (0 + n) 0 _ (by simp only [maxLen]; omega)
    refine ⟨_, h, _, rfl, rfl, ?_⟩
    have s : St ⟨w, keys [], h⟩ h [] w.drew := hw.start.same rfl rfl rfl rfl
    refine s.alloc _ (.row (.slice (some ⟨w.heap.size, 0, none⟩) 0 (grownCap w (0 + n) 0 9)) 9 1 []) ⟨fun r hr => absurd hr (by simp), .inr ⟨w.heap.size, _, _, (0, 0), rfl, heap_alloc_new w.drew _, fun i _ => by simp, Nat.zero_le _, hcm, ?_, by simp⟩⟩ rfl
    have hz : ((Value.string ⟨#[]⟩).cells).size = 1 := rfl
    simp only [Array.size_append, size_zeroCells, hz]
    simp only [List.size_toArray, List.length_nil]
    have hge' : 0 + n <= grownCap w (0 + n) 0 9 := hge
    show 0 + (0 + n - 0) * 1 + (grownCap w (0 + n) 0 9 - (0 + n)) * 1 = grownCap w (0 + n) 0 9 * 1
    omega
set_option maxRecDepth 8000 in
set_option maxHeartbeats 2000000 in
theorem slices_ConcatS (a b : List (List UInt8)) (sv v1 v2 : Value) (ha : a.length <= 10000000) (hb : b.length <= 10000000) (h : Heap) (hs : HSl h sv 1 [[v1], [v2]]) (h1 : HSl h v1 1 (strsR a)) (h2 : HSl h v2 1 (strsR b)) :
    Spec Tryd.prog 37 [sv] h [] (fun u _ H' => H' = [.row u 9 1 (strsR a ++ strsR b)]) := by
  have hl1 := strsR_length a
  have hl2 := strsR_length b
  have r1 := rowed_strs a
  have r2 := rowed_strs b
  have o1 := one_strs a
  have o2 := one_strs b
  generalize strsR a = rows1 at *
  generalize strsR b = rows2 at *
  obtain ⟨A, cap, rfl, hcap, hcm, hf⟩ := hs.form
  have hs : HSl h (.slice A 2 cap) 1 [[v1], [v2]] := hs
  obtain ⟨A1, c1, rfl, _⟩ := h1.form
  obtain ⟨A2, c2, rfl, _⟩ := h2.form
  refine Spec.enter Tryd.func37 rfl rfl ?_; intro w0
  repeat' (first | (refine G.atCode ?_; refine G.stopLoop ?_) | (refine G.atCode ?_; first | refine G.seq ?_ | refine G.region ?_ | refine G.block ?_) | refine G.endOps ?_ | refine G.op rfl rfl ?_ | (refine G.atLen ?_; first | refine G.lenSlice rfl (tyy rfl) rfl ?_))
  refine G.go ?_
  refine G.loop (σ := Nat × Nat) (fun x => [(11, .int .i64 x.1), (10, .int .i64 (2 : Nat)), (9, .slice A 2 cap), (0, .slice A 2 cap), (3, .int .i64 x.2)])
    (fun _ => []) (fun x _ => x.1 <= 2 /\ (x.1 = 0 -> x.2 = 0) /\ (x.1 = 1 -> x.2 = rows1.length) /\ (x.1 = 2 -> x.2 = rows1.length + rows2.length)) (fun x => 2 - x.1) ⟨0, 0⟩ ⟨rfl, rfl, rfl, rfl, rfl, trivial⟩ (SubH.nil _) ⟨by simp, fun _ => rfl, fun e => by simp at e, fun e => by simp at e⟩ ?_
  rintro ⟨i, z⟩ h3 hle3 ⟨hi, hz0, hz1, hz2⟩
  simp only at hi hz0 hz1 hz2
  refine G.norm (by (try dsimp only) <;> exact rfl) (by (try dsimp only) <;> exact rfl) ?_
  have hs3 : HSl h3 (.slice A 2 cap) 1 [[.slice A1 rows1.length c1], [.slice A2 rows2.length c2]] := hs.mono hle3
  have h13 : HSl h3 (.slice A1 rows1.length c1) 1 rows1 := h1.mono hle3
  have h23 : HSl h3 (.slice A2 rows2.length c2) 1 rows2 := h2.mono hle3
  have hcase : i = 0 \/ i = 1 \/ i = 2 := by omega
  rcases hcase with rfl | rfl | rfl
  . have hz := hz0 rfl
    repeat' (first | (refine G.atIdx ?_; refine G.idxImm (m := 0) rfl rfl (tyy rfl) (tyy rfl) hs3 rfl rfl (by simp) ?_; intro p1 q1 hq1 hp1; (obtain rfl := Option.some.inj hq1)) | (refine G.atCode ?_; first | refine G.seq ?_ | refine G.region ?_ | refine G.block ?_ | refine G.skip ?_ | (refine G.cond rfl ?_ ?_ <;> intro hc <;> (try simp only [tests, reduceCtorEq] at hc) <;> (try exact Zf))) | refine G.endOps ?_ | refine G.endBlk ?_ | (refine G.atBin ?_; first | (refine G.atAdd ?_; first | refine G.arith rfl rfl rfl rfl rfl Zi ?_) | refine G.op rfl rfl ?_) | refine G.op rfl rfl ?_ | (refine G.atLen ?_; first | refine G.lenSlice rfl (tyy rfl) rfl ?_) | (refine G.atLoad ?_; first | refine G.loadImm1 rfl (tyy rfl) rfl rfl Zp rfl ?_))
    all_goals first | (exfalso; omega) | exact G.again ⟨1, rows1.length⟩ ⟨rfl, rfl, rfl, rfl, sint (by omega), trivial⟩ (SubH.nil _) ⟨by simp, fun e => by simp at e, fun _ => rfl, fun e => by simp at e⟩ (by solve | repeat first | assumption | exact Zr _ | refine Zq ?_ Zp) (by simp)
  . have hz := hz1 rfl
    repeat' (first | (refine G.atIdx ?_; refine G.idxImm (m := 1) rfl rfl (tyy rfl) (tyy rfl) hs3 rfl rfl (by simp) ?_; intro p1 q1 hq1 hp1; (obtain rfl := Option.some.inj hq1)) | (refine G.atCode ?_; first | refine G.seq ?_ | refine G.region ?_ | refine G.block ?_ | refine G.skip ?_ | (refine G.cond rfl ?_ ?_ <;> intro hc <;> (try simp only [tests, reduceCtorEq] at hc) <;> (try exact Zf))) | refine G.endOps ?_ | refine G.endBlk ?_ | (refine G.atBin ?_; first | (refine G.atAdd ?_; first | refine G.arith rfl rfl rfl rfl rfl Zi ?_) | refine G.op rfl rfl ?_) | refine G.op rfl rfl ?_ | (refine G.atLen ?_; first | refine G.lenSlice rfl (tyy rfl) rfl ?_) | (refine G.atLoad ?_; first | refine G.loadImm1 rfl (tyy rfl) rfl rfl Zp rfl ?_))
    all_goals first | (exfalso; omega) | exact G.again ⟨2, rows1.length + rows2.length⟩ ⟨rfl, rfl, rfl, rfl, sint (by omega), trivial⟩ (SubH.nil _) ⟨by simp, fun e => by simp at e, fun e => by simp at e, fun _ => rfl⟩ (by solve | repeat first | assumption | exact Zr _ | refine Zq ?_ Zp) (by simp)
  . have hz := hz2 rfl
    repeat' (first | (show G _ (.ops .seq _ (⟨some _, .call { callee := .value (.func 44), args := _, argTypes := _ }, _, _, _, none⟩ :: _) :: _) _ _ _; refine G.call callGrowS rfl rfl (slices_GrowS z (by omega) _) Ze ?_; rintro nv h4 H4 rfl hle4) | (refine G.atCode ?_; refine G.stopLoop ?_) | (refine G.atCode ?_; first | refine G.seq ?_ | refine G.region ?_ | refine G.block ?_ | refine G.exit rfl ?_ | (refine G.cond rfl ?_ ?_ <;> intro hc <;> (try simp only [tests, reduceCtorEq] at hc) <;> (try exact Zf))) | refine G.endOps ?_ | (refine G.atBin ?_; first | refine G.op rfl rfl ?_) | refine G.op rfl rfl ?_ | (refine G.atLen ?_; first | refine G.lenSlice rfl (tyy rfl) rfl ?_))
    all_goals (try (exfalso; omega))
    refine G.go ?_
    refine G.loop (σ := Nat × Value × List (List Value)) (fun x => [(27, .int .i64 x.1), (26, .int .i64 (2 : Nat)), (25, .slice A 2 cap), (6, x.2.1)])
      (fun x => [.row x.2.1 9 1 x.2.2]) (fun x _ => x.1 <= 2 /\ (x.1 = 0 -> x.2.2 = []) /\ (x.1 = 1 -> x.2.2 = rows1) /\ (x.1 = 2 -> x.2.2 = rows1 ++ rows2)) (fun x => 2 - x.1) ⟨0, nv, []⟩ ⟨rfl, rfl, rfl, rfl, trivial⟩ Zu ⟨by simp, fun _ => rfl, fun e => by simp at e, fun e => by simp at e⟩ ?_
    rintro ⟨i, nv2, X⟩ h5 hle5 ⟨hi, hx0, hx1, hx2⟩
    simp only at hi hx0 hx1 hx2
    refine G.norm (by (try dsimp only) <;> exact rfl) (by (try dsimp only) <;> exact rfl) ?_
    have hle15 : Heap.le h h5 := Heap.le_trans hle3 (Heap.le_trans hle4 hle5)
    have hs5 : HSl h5 (.slice A 2 cap) 1 [[.slice A1 rows1.length c1], [.slice A2 rows2.length c2]] := hs.mono hle15
    have h15 : HSl h5 (.slice A1 rows1.length c1) 1 rows1 := h1.mono hle15
    have h25 : HSl h5 (.slice A2 rows2.length c2) 1 rows2 := h2.mono hle15
    have hcase : i = 0 \/ i = 1 \/ i = 2 := by omega
    rcases hcase with rfl | rfl | rfl
    . have hx := hx0 rfl
      subst hx
      repeat' (first | (refine G.atIdx ?_; refine G.idxImm (m := 0) rfl rfl (tyy rfl) (tyy rfl) hs5 rfl rfl (by simp) ?_; intro p1 q1 hq1 hp1; (obtain rfl := Option.some.inj hq1)) | (refine G.atApp ?_; refine G.append rfl rfl (tyy rfl) (tyy rfl) (tyy rfl) (.inl ⟨_, rfl⟩) rfl Za (Src.imm h15) r1 o1 rfl (by simp only [List.length_nil]; omega) (by simp only [List.length_nil]; omega) ?_; intro v9) | (refine G.atCode ?_; first | refine G.seq ?_ | refine G.region ?_ | refine G.block ?_ | refine G.skip ?_ | (refine G.cond rfl ?_ ?_ <;> intro hc <;> (try simp only [tests, reduceCtorEq] at hc) <;> (try exact Zf))) | refine G.endOps ?_ | refine G.endBlk ?_ | (refine G.atBin ?_; first | (refine G.atAdd ?_; first | refine G.arith rfl rfl rfl rfl rfl Zi ?_) | refine G.op rfl rfl ?_) | refine G.op rfl rfl ?_ | (refine G.atLoad ?_; first | refine G.loadImm1 rfl (tyy rfl) rfl rfl Zp rfl ?_))
      all_goals first | (exfalso; omega) | exact G.again ⟨1, _, rows1⟩ ⟨rfl, rfl, rfl, rfl, trivial⟩ Zu ⟨by simp, fun e => by simp at e, fun _ => rfl, fun e => by simp at e⟩ (by solve | repeat first | assumption | exact Zr _ | refine Zq ?_ Zp) (by simp)
    . have hx := hx1 rfl
      subst hx
      repeat' (first | (refine G.atIdx ?_; refine G.idxImm (m := 1) rfl rfl (tyy rfl) (tyy rfl) hs5 rfl rfl (by simp) ?_; intro p1 q1 hq1 hp1; (obtain rfl := Option.some.inj hq1)) | (refine G.atApp ?_; refine G.append rfl rfl (tyy rfl) (tyy rfl) (tyy rfl) (.inl ⟨_, rfl⟩) rfl Za (Src.imm h25) r2 o2 rfl (by omega) (by omega) ?_; intro v9) | (refine G.atCode ?_; first | refine G.seq ?_ | refine G.region ?_ | refine G.block ?_ | refine G.skip ?_ | (refine G.cond rfl ?_ ?_ <;> intro hc <;> (try simp only [tests, reduceCtorEq] at hc) <;> (try exact Zf))) | refine G.endOps ?_ | refine G.endBlk ?_ | (refine G.atBin ?_; first | (refine G.atAdd ?_; first | refine G.arith rfl rfl rfl rfl rfl Zi ?_) | refine G.op rfl rfl ?_) | refine G.op rfl rfl ?_ | (refine G.atLoad ?_; first | refine G.loadImm1 rfl (tyy rfl) rfl rfl Zp rfl ?_))
      all_goals first | (exfalso; omega) | exact G.again ⟨2, _, X ++ rows2⟩ ⟨rfl, rfl, rfl, rfl, trivial⟩ Zu ⟨by simp, fun e => by simp at e, fun e => by simp at e, fun _ => rfl⟩ (by solve | repeat first | assumption | exact Zr _ | refine Zq ?_ Zp) (by simp)
    . have hx := hx2 rfl
      subst hx
      repeat' (first | (refine G.atCode ?_; first | refine G.seq ?_ | refine G.region ?_ | refine G.exit rfl ?_ | refine G.ret ?_ | (refine G.cond rfl ?_ ?_ <;> intro hc <;> (try simp only [tests, reduceCtorEq] at hc) <;> (try exact Zf))) | refine G.endOps ?_ | (refine G.atBin ?_; first | refine G.op rfl rfl ?_) | refine G.op rfl rfl ?_)
      all_goals first | (exfalso; omega) | exact G.done1 rfl rfl _ (SubH.rfl_ _) rfl
def clV (c : Cls) (vm vy : Value) : Value := .agg #[str c.1, str c.2.1, .int .i64 c.2.2.1, vm, vy]
set_option maxRecDepth 8000 in
set_option maxHeartbeats 1000000 in
theorem schema_class (l : List Cls) (hl : ClOk l) (hb : ∀ c ∈ l, c.2.2.2.1.length <= 10000000 /\ c.2.2.2.2.length <= 10000000) (vT v : Value) (rows : List (List Value)) (w : List UInt8) (hw : w.length <= 100000000) (h : Heap) (hs : HSl h v 5 rows) (hrows : ClsC h l rows) :
    Spec Tryd.prog 18 [.agg #[vT, v], str w] h [] (fun u h' H' => (∃ vm vy, u = .tuple #[clV (gtC l w) vm vy, .bool (ixC l w).isSome] /\ HSl h' vm 1 (strsR (gtC l w).2.2.2.1) /\ HSl h' vy 1 (strsR (gtC l w).2.2.2.2)) /\ H' = []) := by
  have hlr := hrows.len
  have s0 := fun g => slices_IxCl l hl v rows w hw g
  cases hix : ixC l w with
  | none =>
    rw [hix, show ixV none = -1 from rfl] at s0
    have hg : gtC l w = noCls := by unfold gtC; rw [hix]
    rw [hg]
    refine Spec.enter Tryd.func18 rfl rfl ?_; intro w0
    repeat' (first | (refine G.makeFunc rfl rfl rfl ?_) | (show G _ (.ops .seq _ (⟨some _, .call { callee := .value (.func 28), args := _, argTypes := _ }, _, _, _, none⟩ :: _) :: _) _ _ _; refine G.call callIdxCl rfl rfl (s0 _ _ (hs.mono (by solve | repeat first | assumption | exact Zr _ | refine Zq ?_ Zp)) (hrows.mono (by solve | repeat first | assumption | exact Zr _ | refine Zq ?_ Zp))) Ze ?_; rintro _ h2 H2 ⟨rfl, rfl⟩ hle2) | (refine G.atCode ?_; first | refine G.seq ?_ | refine G.region ?_ | refine G.ret ?_ | (refine G.cond rfl ?_ ?_ <;> intro hc <;> (try simp only [tests, reduceCtorEq] at hc) <;> (try exact Zf))) | refine G.endOps ?_ | (refine G.atBin ?_; first | refine G.op rfl rfl ?_) | refine G.op rfl rfl ?_ | (refine G.atLoad ?_; first | refine G.loadOwn1 rfl (tyy rfl) rfl rfl Za rfl rfl ?_) | (refine G.atFld ?_; first | refine G.fieldAddr rfl (tyy rfl) rfl rfl ?_) | (refine G.atSto ?_; refine G.storeOwn rfl rfl (tyy rfl) Za rfl rfl rfl rfl ?_) | (refine G.atAlc ?_; refine G.alloc (tyy rfl) rfl rfl ?_; intro _) | (refine G.atBox ?_; refine G.box rfl rfl rfl ?_; intro _) | (refine G.atBld ?_; refine G.build (tyy rfl) rfl rfl rfl ?_))
    all_goals first
      | (exfalso; omega)
      | exact G.done (rs := [.cell 4 28, .tmp 5]) rfl (.cellA rfl (tyy rfl) rfl rfl Za rfl (.tmp rfl .nil)) rfl [] (SubH.nil _) ⟨⟨_, _, rfl, HSl.nil _ 1, HSl.nil _ 1⟩, rfl⟩
  | some i =>
    obtain ⟨c, hc, _, _⟩ := ixM_some hix
    rw [hix, ixV_some] at s0
    have hg : gtC l w = c := gtC_of hix hc
    rw [hg]
    obtain ⟨vm, vy, hget, hm, hy⟩ := hrows.get hc
    obtain ⟨b1, b2⟩ := hb c (List.mem_of_getElem? hc)
    have hlt := (List.getElem?_eq_some_iff.1 hc).1
    obtain ⟨Am, cm, rfl, _⟩ := hm.form
    obtain ⟨Ay, cy, rfl, _⟩ := hy.form
    have hl1 : ([str c.1, str c.2.1, .int .i64 c.2.2.1, .slice Am (strsR c.2.2.2.1).length cm, .slice Ay (strsR c.2.2.2.2).length cy] : List Value).length = 5 := rfl
    refine Spec.enter Tryd.func18 rfl rfl ?_; intro w0
    repeat' (first | (refine G.atAny ?_; first | refine G.anyOne rfl Zw Zg Zu ?_ | refine G.anyTwo rfl Zw Zg Zu ?_ ?_ | refine G.anyEndX Zw ?_) | (refine G.makeFunc rfl rfl rfl ?_) | (show G _ (.ops .seq _ (⟨some _, .call { callee := .value (.func 28), args := _, argTypes := _ }, _, _, _, none⟩ :: _) :: _) _ _ _; refine G.call callIdxCl rfl rfl (s0 _ _ (hs.mono (by solve | repeat first | assumption | exact Zr _ | refine Zq ?_ Zp)) (hrows.mono (by solve | repeat first | assumption | exact Zr _ | refine Zq ?_ Zp))) Ze ?_; rintro _ h2 H2 ⟨rfl, rfl⟩ hle2) | (refine G.atIdx ?_; refine G.idxImm rfl rfl (tyy rfl) (tyy rfl) (hs.mono (by solve | repeat first | assumption | exact Zr _ | refine Zq ?_ Zp)) Zj rfl (by rw [hlr]; omega) ?_; intro pp rr hx9 hp9; (rw [hget] at hx9); (obtain rfl := Option.some.inj hx9)) | (show G _ (.ops .seq _ (⟨some _, .call { callee := .value (.func 31), args := _, argTypes := _ }, _, _, _, none⟩ :: _) :: _) _ _ _; refine G.call callClone rfl rfl (slices_Clone c.2.2.2.1 (.slice Am (strsR c.2.2.2.1).length cm) b1 _ (hm.mono (by solve | repeat first | assumption | exact Zr _ | refine Zq ?_ Zp))) Ze ?_; rintro um h3 H3 ⟨hum, rfl⟩ hle3; obtain ⟨Bm, dm, rfl, _⟩ := hum.form) | (show G _ (.ops .seq _ (⟨some _, .call { callee := .value (.func 31), args := _, argTypes := _ }, _, _, _, none⟩ :: _) :: _) _ _ _; refine G.call callClone rfl rfl (slices_Clone c.2.2.2.2 (.slice Ay (strsR c.2.2.2.2).length cy) b2 _ (hy.mono (by solve | repeat first | assumption | exact Zr _ | refine Zq ?_ Zp))) Ze ?_; rintro uy h4 H4 ⟨huy, rfl⟩ hle4; obtain ⟨By, dy, rfl, _⟩ := huy.form) | (refine G.atCode ?_; first | refine G.seq ?_ | refine G.region ?_ | refine G.skip ?_ | refine G.anyIn mixedOk ?_ | refine G.ret ?_ | (refine G.cond rfl ?_ ?_ <;> intro hc <;> (try simp only [tests, reduceCtorEq] at hc) <;> (try exact Zf))) | refine G.endOps ?_ | (refine G.atBin ?_; first | refine G.op rfl rfl ?_) | refine G.op rfl rfl ?_ | (refine G.atLoad ?_; first | refine G.loadOwn1 rfl (tyy rfl) rfl rfl Za rfl rfl ?_ | refine G.loadOwnA rfl (tyy rfl) rfl rfl Za rfl rfl ?_ | refine G.loadImmA rfl (tyy rfl) rfl rfl Zp Zp rfl ?_) | (refine G.atFld ?_; first | refine G.fieldAddr rfl (tyy rfl) rfl rfl ?_) | (refine G.atSto ?_; refine G.storeOwn rfl rfl (tyy rfl) Za rfl rfl rfl rfl ?_) | (refine G.atAlc ?_; refine G.alloc (tyy rfl) rfl rfl ?_; intro _) | (refine G.atBox ?_; refine G.box rfl rfl rfl ?_; intro _))
    all_goals first
      | (exfalso; omega)
      | exact G.done (rs := [.cell 4 28, .tmp 5]) rfl (.cellA rfl (tyy rfl) rfl rfl Za rfl (.tmp rfl .nil)) rfl [] (SubH.nil _) ⟨⟨_, _, rfl, hum.mono (by solve | repeat first | assumption | exact Zr _ | refine Zq ?_ Zp), huy.mono (by solve | repeat first | assumption | exact Zr _ | refine Zq ?_ Zp)⟩, rfl⟩
      | skip
theorem schema_classF (l : List Cls) (hl : ClOk l) (hb : ∀ c ∈ l, c.2.2.2.1.length <= 10000000 /\ c.2.2.2.2.length <= 10000000) (vT v : Value) (rows : List (List Value)) (w : List UInt8) (hw : w.length <= 100000000) (h : Heap) (hs : HSl h v 5 rows) (hrows : ClsC h l rows) :
    Spec Tryd.prog 18 [.agg #[vT, v], str w] h [] (fun u h' H' => (∃ A1 c1 A2 c2, u = .tuple #[.agg #[str (gtC l w).1, str (gtC l w).2.1, .int .i64 (gtC l w).2.2.1, .slice A1 (gtC l w).2.2.2.1.length c1, .slice A2 (gtC l w).2.2.2.2.length c2], .bool (ixC l w).isSome] /\ HSl h' (.slice A1 (gtC l w).2.2.2.1.length c1) 1 (strsR (gtC l w).2.2.2.1) /\ HSl h' (.slice A2 (gtC l w).2.2.2.2.length c2) 1 (strsR (gtC l w).2.2.2.2)) /\ H' = []) :=
  (schema_class l hl hb vT v rows w hw h hs hrows).mono fun u h' H' x _ => by
    obtain ⟨⟨vm, vy, rfl, h1, h2⟩, rfl⟩ := x
    obtain ⟨A1, c1, rfl, _⟩ := h1.form
    obtain ⟨A2, c2, rfl, _⟩ := h2.form
    simp only [strsR_length] at h1 h2 ⊢
    exact ⟨⟨A1, c1, A2, c2, rfl, h1, h2⟩, trivial⟩
end Go.Proofs.YtfmekdmpghhegaaDoor
