/- Rules of the light walk: maps with texts as keys. -/
import Derived.Test.YtfmekdmpghhegaaDoorWrR
namespace Go.Proofs.YtfmekdmpghhegaaDoor
set_option linter.all false
set_option maxRecDepth 4000
open Go.RowKit

section
variable {E : Env} {k : List It} {f : Fr} {h : Heap} {H Hr : List Chunk} {st : Md} [hmd : OkMd st h H] {all : Array Oper} {rest : List Oper} {d : Nat} {ty : TypeId} {pos : String} {aft : Array Edge}
theorem ba_self (a : ByteArray) : (a == a) = true := (MapKept.bytes_beq a a).2 rfl
def entsS (es : List (List UInt8 × Value × Nat)) : List MapEntry := es.map fun x => ⟨str x.1, x.2.1, x.2.2⟩
def mapOS (es : List (List UInt8 × Value × Nat)) (c : Nat) : Obj := .map (entsS es).toArray c
def mFindS (q : List UInt8) : List (List UInt8 × Value × Nat) -> Nat -> Option (Nat × Value)
  | [], _ => none
  | (j, v, _) :: es, i => if q = j then some (i, v) else mFindS q es (i + 1)
def mGetS (z : Value) (q : List UInt8) : List (List UInt8 × Value × Nat) -> Value
  | [] => z
  | (j, v, _) :: es => if q = j then v else mGetS z q es
def mHasS (q : List UInt8) : List (List UInt8 × Value × Nat) -> Bool
  | [] => false
  | (j, _, _) :: es => if q = j then true else mHasS q es
theorem mFind_getS (z : Value) (q : List UInt8) : ∀ (es : List (List UInt8 × Value × Nat)) (i : Nat), (mFindS q es i = none /\ mGetS z q es = z /\ mHasS q es = false) \/ ∃ j v, mFindS q es i = some (j, v) /\ mGetS z q es = v /\ mHasS q es = true
  | [], _ => .inl ⟨rfl, rfl, rfl⟩
  | (j, v, _) :: es, i => by
    by_cases h : q = j
    . exact .inr ⟨i, v, by simp [mFindS, h], by simp [mGetS, h], by simp [mHasS, h]⟩
    . rcases mFind_getS z q es (i + 1) with ⟨h1, h2, h3⟩ | ⟨j', v', h1, h2, h3⟩
      . exact .inl ⟨by simp [mFindS, h, h1], by simp [mGetS, h, h2], by simp [mHasS, h, h3]⟩
      . exact .inr ⟨j', v', by simp [mFindS, h, h1], by simp [mGetS, h, h2], by simp [mHasS, h, h3]⟩
theorem findNow_intS (q : List UInt8) : ∀ (es : List (List UInt8 × Value × Nat)) (i : Nat), Instr.findNow .string (str q) (entsS es) i = some (mFindS q es i)
  | [], _ => rfl
  | (j, v, b) :: es, i => by
    have ih := findNow_intS q es (i + 1)
    simp only [entsS] at ih
    by_cases h : q = j
    . subst h; simp [entsS, Instr.findNow, Instr.sameNow, mFindS, str, ba_self]
    . have hb : ((⟨q.toArray⟩ : ByteArray) == ⟨j.toArray⟩) = false := by rw [Bool.eq_false_iff]; intro e; exact h (by simpa using (MapKept.bytes_beq _ _).1 e)
      simp only [str] at ih
      simp [entsS, Instr.findNow, Instr.sameNow, mFindS, h, hb, ih, str]
theorem run_findKey_intS {P : Program} {w : World} {kt : TypeId} (hk : P.underlying kt = some .string) (q : List UInt8) (es : List (List UInt8 × Value × Nat)) : (Instr.findKey kt (str q) (entsS es)).run P w = .ok (mFindS q es 0) w := by
  simp [Instr.findKey, run_underlying hk, findNow_intS, Result.andThen]
theorem run_checkKey_intS {P : Program} {w : World} {kt : TypeId} (hk : P.underlying kt = some .string) (q : List UInt8) (b : Bool) : (Instr.checkKey b 10000 kt (str q)).run P w = .ok () w := by
  rw [show (10000 : Nat) = 9999 + 1 from rfl]
  unfold Instr.checkKey
  simp [run_underlying hk, Result.andThen]

end
section
variable {E : Env} {k : List It} {f : Fr} {h : Heap} {H Hr : List Chunk} {all : Array Oper} {rest : List Oper} {d : Nat} {ty : TypeId} {pos : String} {aft : Array Edge}
theorem G.makeMapS {t : TypeId} (hd : Nat.blt d E.n = true) (n : ∀ g, G E (.ops .seq all rest :: k) ((d, .map (some g)) :: f) h (.obj g (mapOS [] 0) :: H)) :
    G E (.ops .seq all (⟨some d, .makeMap t none, ty, pos, aft, none⟩ :: rest) :: k) f h H := by
  refine G.opGen fun a w ha hw => ?_
  refine ⟨.value (.map (some w.heap.size)), w.alloc (mapOS [] 0), _, h, _, ?_, .inl ⟨_, rfl, ha.put d _ hd⟩, hw.alloc _ (.obj w.heap.size (mapOS [] 0)) ?_ rfl, n _⟩
  . have hn : ∀ o, (newObj o).run E.P w = .ok w.heap.size (w.alloc o) := fun o => rfl
    simp [execOp, Instr.makeMap, hn, mapOS, entsS, Result.andThen]
  . exact heap_alloc_new w _
def mPutS (q : List UInt8) (v : Value) (es : List (List UInt8 × Value × Nat)) (c : Nat) : List (List UInt8 × Value × Nat) := match mFindS q es 0 with
  | some (i, _) => es.modify i fun x => (x.1, v, x.2.2)
  | none => es ++ [(q, v, c)]
def mTickS (q : List UInt8) (es : List (List UInt8 × Value × Nat)) (c : Nat) : Nat := if mHasS q es then c else c + 1
theorem mFind_keyS (q : List UInt8) : ∀ (es : List (List UInt8 × Value × Nat)) (i j : Nat) (v : Value), mFindS q es i = some (j, v) -> i <= j /\ ∃ b, es[j - i]? = some (q, v, b)
  | (q', v', b') :: es, i, j, v, h => by
    simp only [mFindS] at h
    split at h
    . rename_i hq
      simp only [Option.some.injEq, Prod.mk.injEq] at h
      obtain ⟨rfl, rfl⟩ := h
      exact ⟨Nat.le_refl _, b', by simp [hq]⟩
    . obtain ⟨h1, b, h2⟩ := mFind_keyS q es (i + 1) j v h
      refine ⟨by omega, b, ?_⟩
      rw [show j - i = (j - (i + 1)) + 1 by omega]
      simpa using h2
theorem ents_modifyS (v : Value) : ∀ (es : List (List UInt8 × Value × Nat)) (i : Nat) (key : Value) (q : List UInt8) (u : Value) (b : Nat), key = str q -> es[i]? = some (q, u, b) →
    (entsS es).modify i (fun e => { e with key := key, val := v }) = entsS (es.modify i fun x => (x.1, v, x.2.2))
  | [], i, _, _, _, _, _, h => by simp at h
  | x :: es, 0, key, q, u, b, hk, h => by
    simp at h
    subst h hk
    simp [entsS]
  | x :: es, i + 1, key, q, u, b, hk, h => by
    have := ents_modifyS v es i key q u b hk (by simpa using h)
    simp only [entsS] at this
    simp [entsS, this]
theorem G.mapUpdateS {t kt et : TypeId} {x y y2 : Operand} {g : Nat} {q : List UInt8} {v : Value} {sz1 by1 sz2 by2 : Nat} {z1 z2 : Value} {es : List (List UInt8 × Value × Nat)} {c : Nat} (hx : ev f x = some (.map (some g))) (hy : ev f y = some (str q)) (hv : ev f y2 = some v)
    (ht : Ty E.P t (.map kt et) sz1 by1 z1) (hk : Ty E.P kt .str sz2 by2 z2) (hH : Take (.obj g (mapOS es c)) H Hr)
    (n : G E (.ops .seq all rest :: k) f h (.obj g (mapOS (mPutS q v es c) (mTickS q es c)) :: Hr)) :
    G E (.ops .seq all (⟨none, .mapUpdate t x y y2, ty, pos, aft, none⟩ :: rest) :: k) f h H := by
  refine G.opGen fun a w ha hw => ?_
  have hu := ht.fits
  have hk' := hk.fits
  simp only [TD.fits] at hu hk'
  have ho : w.heap[g]? = some (.map (entsS es).toArray c) := hw.own _ hH.mem
  have hlt : g < w.heap.size := lt_of_get ho
  have hck := fun b => run_checkKey_intS (w := w) hk' q b
  have hset : ∀ o : Obj, St E.c h (.obj g o :: Hr) { w with heap := w.heap.setIfInBounds g o } := fun o => by
    refine hw.set (g := g) hH rfl rfl ?_ rfl rfl rfl (by simp) (fun b hb => ?_)
    . show (w.heap.setIfInBounds g o)[g]? = some o
      simp [hlt]
    . simp [Array.getElem?_setIfInBounds, Ne.symm hb]
  rcases mFind_getS v q es 0 with ⟨h1, h2, h3⟩ | ⟨j, u, h1, h2, h3⟩
  . have e1 : mapOS (mPutS q v es c) (mTickS q es c) = .map ((entsS es).toArray.push ⟨str q, v, c⟩) (c + 1) := by
      simp [mapOS, mPutS, mTickS, h1, h3, entsS]
    rw [e1] at n
    refine ⟨.skip, _, f, h, _, ?_, .inr ⟨rfl, ha⟩, hset _, n⟩
    simp [execOp, Instr.mapUpdate, ev_eq ha hx, ev_eq ha hy, ev_eq ha hv, run_underlying hu, MapKept.run_getObj_map ho, hck, run_findKey_intS hk', h1, MapKept.run_setObj_map _ ho, Result.andThen]
  . obtain ⟨_, b, h4⟩ := mFind_keyS q es 0 j u h1
    rw [Nat.sub_zero] at h4
    have hkey : ((entsS es)[j]?.map (·.key)).getD (str q) = str q := by
      simp [entsS, h4]
    have hst : (Instr.keyThatStays (str q) (str q)).run E.P w = .ok (str q) w := by
      have : Instr.sameBits 10000 (str q) (str q) = true := by
        rw [show (10000 : Nat) = 9999 + 1 from rfl]
        simp [Instr.sameBits, str, ba_self]
      simp [Instr.keyThatStays, this]
    have e1 : mapOS (mPutS q v es c) (mTickS q es c) = .map ((entsS es).toArray.modify j fun e => { e with key := str q, val := v }) c := by
      have := ents_modifyS v es j (str q) q u b rfl h4
      simp only [mapOS, mPutS, mTickS, h1, h3, if_true]
      rw [<- this]
      simp
    rw [e1] at n
    refine ⟨.skip, _, f, h, _, ?_, .inr ⟨rfl, ha⟩, hset _, n⟩
    have hkey' : ((entsS es).toArray[j]?.map (·.key)).getD (str q) = str q := by simpa using hkey
    simp [execOp, Instr.mapUpdate, ev_eq ha hx, ev_eq ha hy, ev_eq ha hv, run_underlying hu, MapKept.run_getObj_map ho, hck, run_findKey_intS hk', h1, hkey', hst, MapKept.run_setObj_map _ ho, Result.andThen]
    try simp [hkey, hst, MapKept.run_setObj_map _ ho]
end
theorem mem_entsS {es : List (List UInt8 × Value × Nat)} {e : MapEntry} (h : e ∈ entsS es) : ∃ q v b, (q, v, b) ∈ es /\ e = ⟨str q, v, b⟩ := by
  simp only [entsS, List.mem_map] at h
  obtain ⟨x, hx, rfl⟩ := h
  exact ⟨x.1, x.2.1, x.2.2, hx, rfl⟩
theorem ents_bornS (es : List (List UInt8 × Value × Nat)) : (entsS es).map (·.born) = es.map (·.2.2) := by simp [entsS]
def mDelS (q : List UInt8) : List (List UInt8 × Value × Nat) -> List (List UInt8 × Value × Nat)
  | [] => []
  | (j, v, b) :: es => if q = j then es else (j, v, b) :: mDelS q es
theorem mDel_findS (q : List UInt8) : ∀ (es : List (List UInt8 × Value × Nat)) (i j : Nat) (v : Value), mFindS q es i = some (j, v) -> i <= j /\ es.eraseIdx (j - i) = mDelS q es
  | (q', v', b') :: es, i, j, v, h => by
    simp only [mFindS] at h
    split at h
    . rename_i hq
      simp only [Option.some.injEq, Prod.mk.injEq] at h
      obtain ⟨rfl, rfl⟩ := h
      exact ⟨Nat.le_refl _, by simp [mDelS, hq]⟩
    . rename_i hq
      obtain ⟨h1, h2⟩ := mDel_findS q es (i + 1) j v h
      refine ⟨by omega, ?_⟩
      rw [show j - i = (j - (i + 1)) + 1 by omega, List.eraseIdx_cons_succ, h2]
      simp [mDelS, hq]
theorem mDel_noneS (q : List UInt8) : ∀ (es : List (List UInt8 × Value × Nat)) (i : Nat), mFindS q es i = none -> mDelS q es = es
  | [], _, _ => rfl
  | (q', v', b') :: es, i, h => by
    simp only [mFindS] at h
    split at h
    . cases h
    . rename_i hq
      simp [mDelS, hq, mDel_noneS q es (i + 1) h]

section
variable {E : Env} {k : List It} {f : Fr} {h : Heap} {H Hr Hr2 : List Chunk} {all : Array Oper} {rest : List Oper} {d : Nat} {ty : TypeId} {pos : String} {aft : Array Edge}
theorem G.rangeMapS {t kt et : TypeId} {x : Operand} {m sz1 by1 : Nat} {z1 : Value} {es : List (List UInt8 × Value × Nat)} {c : Nat} (hx : ev f x = some (.map (some m))) (ht : Ty E.P t (.map kt et) sz1 by1 z1) (hH : Take (.obj m (mapOS es c)) H Hr) (hd : Nat.blt d E.n = true)
    (n : ∀ r, G E (.ops .seq all rest :: k) ((d, .pointer (some ⟨r, 0, none⟩)) :: f) h (.obj r (.mapIter (some m) c #[] c) :: H)) :
    G E (.ops .seq all (⟨some d, .range t x, ty, pos, aft, none⟩ :: rest) :: k) f h H := by
  refine G.opGen fun a w ha hw => ?_
  have hu := ht.fits
  simp only [TD.fits] at hu
  have ho : w.heap[m]? = some (.map (entsS es).toArray c) := hw.own _ hH.mem
  have hn : ∀ o, (newObj o).run E.P w = .ok w.heap.size (w.alloc o) := fun o => rfl
  refine ⟨.value (.pointer (some ⟨w.heap.size, 0, none⟩)), w.alloc (.mapIter (some m) c #[] c), _, h, _, ?_, .inl ⟨_, rfl, ha.put d _ hd⟩, hw.alloc _ (.obj w.heap.size (.mapIter (some m) c #[] c)) ?_ rfl, n _⟩
  . simp [execOp, Instr.range, ev_eq ha hx, run_underlying hu, MapKept.run_getObj_map ho, hn, Result.andThen]
  . exact heap_alloc_new w _
theorem G.nextMapS {x : Operand} {r m since c0 c : Nat} {seen : Array Nat} {es : List (List UInt8 × Value × Nat)} (hx : ev f x = some (.pointer (some ⟨r, 0, none⟩))) (hI : Take (.obj r (.mapIter (some m) since seen c0)) H Hr) (hM : Take (.obj m (mapOS es c)) H Hr2) (hd : Nat.blt d E.n = true)
    (hold : ∀ x ∈ es, x.2.2 < since) (hsc : since <= c0)
    (over : (∀ x ∈ es, seen.contains x.2.2 = true) -> G E (.ops .seq all rest :: k) ((d, .tuple #[.bool false]) :: f) h H)
    (step : ∀ q v b, (q, v, b) ∈ es -> seen.contains b = false -> G E (.ops .seq all rest :: k) ((d, .tuple #[.bool true, str q, v]) :: f) h (.obj r (.mapIter (some m) since (seen.push b) c) :: Hr)) :
    G E (.ops .seq all (⟨some d, .next x false, ty, pos, aft, none⟩ :: rest) :: k) f h H := by
  refine G.opGen fun a w ha hw => ?_
  have hr : w.heap[r]? = some (.mapIter (some m) since seen c0) := hw.own _ hI.mem
  have hb : w.heap[m]? = some (.map (entsS es).toArray c) := hw.own _ hM.mem
  have hho : ∀ e ∈ (entsS es).toArray.toList, e.born < since := fun e he => by
    obtain ⟨q, v, b, h1, rfl⟩ := mem_entsS (by simpa using he)
    exact hold _ h1
  rcases run_next_at (P := E.P) w ty r m since c0 seen (entsS es).toArray c hr hb hho hsc with ⟨h0, hrun⟩ | ⟨e, he, w1, hw1, hrun⟩
  . refine ⟨.value (.tuple #[.bool false]), w, _, h, H, ?_, .inl ⟨_, rfl, ha.put d _ hd⟩, hw, over fun x hx => ?_⟩
    . simp [execOp, ev_eq ha hx, hrun]
    . cases hc : seen.contains x.2.2 with
      | true => rfl
      | false =>
        exfalso
        have hm : (⟨str x.1, x.2.1, x.2.2⟩ : MapEntry) ∈ leftOf (entsS es).toArray seen := by
          unfold leftOf
          simp only [Array.mem_filter, List.mem_toArray]
          refine ⟨?_, by simpa using hc⟩
          simp only [entsS, List.mem_map]
          exact ⟨x, hx, rfl⟩
        have : leftOf (entsS es).toArray seen = #[] := Array.eq_empty_of_size_eq_zero h0
        rw [this] at hm
        simp at hm
  . have hmem : e ∈ entsS es /\ seen.contains e.born = false := by
      have he' : e ∈ leftOf (entsS es).toArray seen := by simpa using he
      unfold leftOf at he'
      simp only [Array.mem_filter, List.mem_toArray] at he'
      exact ⟨he'.1, by simpa using he'.2⟩
    obtain ⟨q, v, b, h1, rfl⟩ := mem_entsS hmem.1
    have hw1' : St E.c h H w1 := by
      rcases hw1 with rfl | rfl
      . exact hw
      . exact hw.drewN rfl rfl rfl rfl
    refine ⟨.value (.tuple #[.bool true, str q, v]), _, _, h, _, ?_, .inl ⟨_, rfl, ha.put d _ hd⟩, hw1'.setObj (o' := .mapIter (some m) since (seen.push b) c) hI, step q v b h1 hmem.2⟩
    simp [execOp, ev_eq ha hx, hrun]
    rfl
theorem G.entryMapS {x : Operand} {r m since c b : Nat} {q : List UInt8} {v : Value} {seen : Array Nat} {es : List (List UInt8 × Value × Nat)} (hx : ev f x = some (.pointer (some ⟨r, 0, none⟩))) (hI : Take (.obj r (.mapIter (some m) since (seen.push b) c)) H Hr) (hM : Take (.obj m (mapOS es c)) H Hr2) (hd : Nat.blt d E.n = true)
    (he : (q, v, b) ∈ es) (hn : (es.map (·.2.2)).Nodup) (n : G E (.ops .seq all rest :: k) ((d, .tuple #[str q, v]) :: f) h H) :
    G E (.ops .seq all (⟨some d, .entry x, ty, pos, aft, none⟩ :: rest) :: k) f h H := by
  refine G.opGen fun a w ha hw => ?_
  have hr : w.heap[r]? = some (.mapIter (some m) since (seen.push b) c) := hw.own _ hI.mem
  have hb : w.heap[m]? = some (.map (entsS es).toArray c) := hw.own _ hM.mem
  have hrun := run_entry_at (P := E.P) w r m since seen (entsS es).toArray c ⟨str q, v, b⟩ hr hb (by simp only [entsS, List.mem_map]; exact ⟨(q, v, b), he, rfl⟩) (by
    show ((entsS es).map (·.born)).Nodup
    rw [ents_bornS]; exact hn)
  refine ⟨.value (.tuple #[str q, v]), w, _, h, H, ?_, .inl ⟨_, rfl, ha.put d _ hd⟩, hw, n⟩
  simp [execOp, ev_eq ha hx, hrun]
theorem G.deleteMapS {t t2 kt et : TypeId} {x y : Operand} {dd : Option Nat} (hdd : dd = none) {m sz1 by1 sz2 by2 : Nat} {z1 z2 : Value} {q : List UInt8} {es : List (List UInt8 × Value × Nat)} {c : Nat} (hx : ev f x = some (.map (some m))) (hy : ev f y = some (str q)) (ht : Ty E.P t (.map kt et) sz1 by1 z1)
    (hk : Ty E.P kt .str sz2 by2 z2) (hH : Take (.obj m (mapOS es c)) H Hr) (n : G E (.ops .seq all rest :: k) f h (.obj m (mapOS (mDelS q es) c) :: Hr)) :
    G E (.ops .seq all (⟨dd, .call { callee := .builtin .delete, args := #[x, y], argTypes := #[t, t2] }, ty, pos, aft, none⟩ :: rest) :: k) f h H := by
  subst hdd
  refine G.opGen fun a w ha hw => ?_
  have hu := ht.fits
  have hk' := hk.fits
  simp only [TD.fits] at hu hk'
  have ho : w.heap[m]? = some (.map (entsS es).toArray c) := hw.own _ hH.mem
  have hck := fun b => run_checkKey_intS (w := w) hk' q b
  cases hf : mFindS q es 0 with
  | none =>
    have e1 : mapOS (mDelS q es) c = .map (entsS es).toArray c := by rw [mDel_noneS q es 0 hf]; rfl
    rw [e1] at n
    refine ⟨.value (.tuple #[]), _, f, h, _, ?_, .inl ⟨_, rfl, ha⟩, hw.setObj hH, n⟩
    simp [execOp, resolve, invoke, builtin, ev_eq ha hx, ev_eq ha hy, Builtin.delete_, run_underlying hu, MapKept.run_getObj_map ho, hck, run_findKey_intS hk', hf, MapKept.run_setObj_map _ ho, Result.andThen]
  | some p =>
    obtain ⟨j, u⟩ := p
    obtain ⟨_, h2⟩ := mDel_findS q es 0 j u hf
    rw [Nat.sub_zero] at h2
    have e1 : mapOS (mDelS q es) c = .map ((entsS es).toArray.eraseIdxIfInBounds j) c := by
      rw [<- h2]
      simp [mapOS, entsS, map_erase]
    rw [e1] at n
    refine ⟨.value (.tuple #[]), _, f, h, _, ?_, .inl ⟨_, rfl, ha⟩, hw.setObj hH, n⟩
    simp [execOp, resolve, invoke, builtin, ev_eq ha hx, ev_eq ha hy, Builtin.delete_, run_underlying hu, MapKept.run_getObj_map ho, hck, run_findKey_intS hk', hf, MapKept.run_setObj_map _ ho, Result.andThen]
end
end Go.Proofs.YtfmekdmpghhegaaDoor
