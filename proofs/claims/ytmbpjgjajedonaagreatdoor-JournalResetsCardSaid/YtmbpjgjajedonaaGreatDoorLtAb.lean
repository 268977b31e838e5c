/- Rules of the light walk: min, max, copy of a text; maps with whole numbers as keys. -/
import Derived.Test.YtmbpjgjajedonaaGreatDoorLtP
import Derived.MapKept
namespace Go.Proofs.YtmbpjgjajedonaaGreatDoor
set_option linter.all false
set_option maxRecDepth 4000
open Go.RowKit

section
variable {E : Env} {k : List It} {f : Fr} {h : Heap} {H Hr : List Chunk} {st : Md} [hmd : OkMd st h H] {all : Array Oper} {rest : List Oper} {d : Nat} {ty : TypeId} {pos : String} {aft : Array Edge}
theorem G.minI {x y : Operand} {t t' : TypeId} {ki kj : IntKind} {a b : Int} (hx : ev f x = some (.int ki a)) (hy : ev f y = some (.int kj b)) (hd : Nat.blt d E.n = true)
    (g : G E (.ops st all rest :: k) ((d, .int ki (min a b)) :: f) h H) :
    G E (.ops st all (⟨some d, .call { callee := .builtin .min, args := #[x, y], argTypes := #[t, t'] }, ty, pos, aft, none⟩ :: rest) :: k) f h H := by
  refine G.opVal hd (fun _ q w ha _ => ?_) g
  have e : (if b < a then b else a) = min a b := by omega
  simp [execOp, resolve, invoke, builtin, ev_eq ha hx, ev_eq ha hy, Builtin.min_, Builtin.min2, e]
theorem G.maxI {x y : Operand} {t t' : TypeId} {ki kj : IntKind} {a b : Int} (hx : ev f x = some (.int ki a)) (hy : ev f y = some (.int kj b)) (hd : Nat.blt d E.n = true)
    (g : G E (.ops st all rest :: k) ((d, .int ki (max a b)) :: f) h H) :
    G E (.ops st all (⟨some d, .call { callee := .builtin .max, args := #[x, y], argTypes := #[t, t'] }, ty, pos, aft, none⟩ :: rest) :: k) f h H := by
  refine G.opVal hd (fun _ q w ha _ => ?_) g
  have e : (if a < b then b else a) = max a b := by omega
  simp [execOp, resolve, invoke, builtin, ev_eq ha hx, ev_eq ha hy, Builtin.max_, Builtin.max2, e]

def ents (es : List (Int × Value × Nat)) : List MapEntry := es.map fun x => ⟨.int .i64 x.1, x.2.1, x.2.2⟩
def mapO (es : List (Int × Value × Nat)) (c : Nat) : Obj := .map (ents es).toArray c
def mFind (q : Int) : List (Int × Value × Nat) -> Nat -> Option (Nat × Value)
  | [], _ => none
  | (j, v, _) :: es, i => if q = j then some (i, v) else mFind q es (i + 1)
def mGet (z : Value) (q : Int) : List (Int × Value × Nat) -> Value
  | [] => z
  | (j, v, _) :: es => if q = j then v else mGet z q es
def mHas (q : Int) : List (Int × Value × Nat) -> Bool
  | [] => false
  | (j, _, _) :: es => if q = j then true else mHas q es
theorem mFind_get (z : Value) (q : Int) : ∀ (es : List (Int × Value × Nat)) (i : Nat), (mFind q es i = none /\ mGet z q es = z /\ mHas q es = false) \/ ∃ j v, mFind q es i = some (j, v) /\ mGet z q es = v /\ mHas q es = true
  | [], _ => .inl ⟨rfl, rfl, rfl⟩
  | (j, v, _) :: es, i => by
    by_cases h : q = j
    . exact .inr ⟨i, v, by simp [mFind, h], by simp [mGet, h], by simp [mHas, h]⟩
    . rcases mFind_get z q es (i + 1) with ⟨h1, h2, h3⟩ | ⟨j', v', h1, h2, h3⟩
      . exact .inl ⟨by simp [mFind, h, h1], by simp [mGet, h, h2], by simp [mHas, h, h3]⟩
      . exact .inr ⟨j', v', by simp [mFind, h, h1], by simp [mGet, h, h2], by simp [mHas, h, h3]⟩
theorem findNow_int (q : Int) : ∀ (es : List (Int × Value × Nat)) (i : Nat), Instr.findNow (.int .i64) (.int .i64 q) (ents es) i = some (mFind q es i)
  | [], _ => rfl
  | (j, v, b) :: es, i => by
    have ih := findNow_int q es (i + 1)
    simp only [ents] at ih
    by_cases h : q = j
    . simp [ents, Instr.findNow, Instr.sameNow, mFind, h]
    . have hb : (q == j) = false := by simpa using h
      simp [ents, Instr.findNow, Instr.sameNow, mFind, h, hb, ih]
theorem run_findKey_int {P : Program} {w : World} {kt : TypeId} (hk : P.underlying kt = some (.int .i64)) (q : Int) (es : List (Int × Value × Nat)) : (Instr.findKey kt (.int .i64 q) (ents es)).run P w = .ok (mFind q es 0) w := by
  simp [Instr.findKey, run_underlying hk, findNow_int, Result.andThen]
theorem run_checkKey_int {P : Program} {w : World} {kt : TypeId} (hk : P.underlying kt = some (.int .i64)) (q : Int) (b : Bool) : (Instr.checkKey b 10000 kt (.int .i64 q)).run P w = .ok () w := by
  rw [show (10000 : Nat) = 9999 + 1 from rfl]
  unfold Instr.checkKey
  simp [run_underlying hk, Result.andThen]

theorem G.lookupOk {t kt et : TypeId} {x y : Operand} {g : Nat} {q : Int} {td : TD} {sz by_ sz1 by1 sz2 by2 : Nat} {z z1 z2 : Value} {es : List (Int × Value × Nat)} {c : Nat} (hx : ev f x = some (.map (some g))) (hy : ev f y = some (.int .i64 q))
    (ht : Ty E.P t (.map kt et) sz1 by1 z1) (hk : Ty E.P kt (.int .i64) sz2 by2 z2) (he : Ty E.P et td sz by_ z) (hH : Take (.obj g (mapO es c)) H Hr) (hd : Nat.blt d E.n = true)
    (n : G E (.ops st all rest :: k) ((d, .tuple #[mGet z q es, .bool (mHas q es)]) :: f) h H) :
    G E (.ops st all (⟨some d, .lookup t x y true, ty, pos, aft, none⟩ :: rest) :: k) f h H := by
  refine G.opVal hd (fun _ a w ha hw => ?_) n
  have hu := ht.fits
  have hk' := hk.fits
  simp only [TD.fits] at hu hk'
  have ho : w.heap[g]? = some (.map (ents es).toArray c) := hw.own _ hH.mem
  have hz := run_zero he (w := w)
  have hck := fun b => run_checkKey_int (w := w) hk' q b
  rcases mFind_get z q es 0 with ⟨h1, h2, h3⟩ | ⟨j, v, h1, h2, h3⟩
  . simp [execOp, Instr.lookup, ev_eq ha hx, ev_eq ha hy, run_underlying hu, MapKept.run_getObj_map ho, hck, run_findKey_int hk', h1, h2, h3, hz, Result.andThen]
  . simp [execOp, Instr.lookup, ev_eq ha hx, ev_eq ha hy, run_underlying hu, MapKept.run_getObj_map ho, hck, run_findKey_int hk', h1, h2, h3, Result.andThen]
end
section
variable {E : Env} {k : List It} {f : Fr} {h : Heap} {H Hr : List Chunk} {all : Array Oper} {rest : List Oper} {d : Nat} {ty : TypeId} {pos : String} {aft : Array Edge}
theorem G.makeMap {t : TypeId} (hd : Nat.blt d E.n = true) (n : ∀ g, G E (.ops .seq all rest :: k) ((d, .map (some g)) :: f) h (.obj g (mapO [] 0) :: H)) :
    G E (.ops .seq all (⟨some d, .makeMap t none, ty, pos, aft, none⟩ :: rest) :: k) f h H := by
  refine G.opGen fun a w ha hw => ?_
  refine ⟨.value (.map (some w.heap.size)), w.alloc (mapO [] 0), _, h, _, ?_, .inl ⟨_, rfl, ha.put d _ hd⟩, hw.alloc _ (.obj w.heap.size (mapO [] 0)) ?_ rfl, n _⟩
  . have hn : ∀ o, (newObj o).run E.P w = .ok w.heap.size (w.alloc o) := fun o => rfl
    simp [execOp, Instr.makeMap, hn, mapO, ents, Result.andThen]
  . exact heap_alloc_new w _
def mPut (q : Int) (v : Value) (es : List (Int × Value × Nat)) (c : Nat) : List (Int × Value × Nat) := match mFind q es 0 with
  | some (i, _) => es.modify i fun x => (x.1, v, x.2.2)
  | none => es ++ [(q, v, c)]
def mTick (q : Int) (es : List (Int × Value × Nat)) (c : Nat) : Nat := if mHas q es then c else c + 1
theorem mFind_key (q : Int) : ∀ (es : List (Int × Value × Nat)) (i j : Nat) (v : Value), mFind q es i = some (j, v) -> i <= j /\ ∃ b, es[j - i]? = some (q, v, b)
  | (q', v', b') :: es, i, j, v, h => by
    simp only [mFind] at h
    split at h
    . rename_i hq
      simp only [Option.some.injEq, Prod.mk.injEq] at h
      obtain ⟨rfl, rfl⟩ := h
      exact ⟨Nat.le_refl _, b', by simp [hq]⟩
    . obtain ⟨h1, b, h2⟩ := mFind_key q es (i + 1) j v h
      refine ⟨by omega, b, ?_⟩
      rw [show j - i = (j - (i + 1)) + 1 by omega]
      simpa using h2
theorem ents_modify (v : Value) : ∀ (es : List (Int × Value × Nat)) (i : Nat) (key : Value) (q : Int) (u : Value) (b : Nat), key = .int .i64 q -> es[i]? = some (q, u, b) →
    (ents es).modify i (fun e => { e with key := key, val := v }) = ents (es.modify i fun x => (x.1, v, x.2.2))
  | [], i, _, _, _, _, _, h => by simp at h
  | x :: es, 0, key, q, u, b, hk, h => by
    simp at h
    subst h hk
    simp [ents]
  | x :: es, i + 1, key, q, u, b, hk, h => by
    have := ents_modify v es i key q u b hk (by simpa using h)
    simp only [ents] at this
    simp [ents, this]
theorem G.mapUpdate {t kt et : TypeId} {x y y2 : Operand} {g : Nat} {q : Int} {v : Value} {sz1 by1 sz2 by2 : Nat} {z1 z2 : Value} {es : List (Int × Value × Nat)} {c : Nat} (hx : ev f x = some (.map (some g))) (hy : ev f y = some (.int .i64 q)) (hv : ev f y2 = some v)
    (ht : Ty E.P t (.map kt et) sz1 by1 z1) (hk : Ty E.P kt (.int .i64) sz2 by2 z2) (hH : Take (.obj g (mapO es c)) H Hr)
    (n : G E (.ops .seq all rest :: k) f h (.obj g (mapO (mPut q v es c) (mTick q es c)) :: Hr)) :
    G E (.ops .seq all (⟨none, .mapUpdate t x y y2, ty, pos, aft, none⟩ :: rest) :: k) f h H := by
  refine G.opGen fun a w ha hw => ?_
  have hu := ht.fits
  have hk' := hk.fits
  simp only [TD.fits] at hu hk'
  have ho : w.heap[g]? = some (.map (ents es).toArray c) := hw.own _ hH.mem
  have hlt : g < w.heap.size := lt_of_get ho
  have hck := fun b => run_checkKey_int (w := w) hk' q b
  have hset : ∀ o : Obj, St E.c h (.obj g o :: Hr) { w with heap := w.heap.setIfInBounds g o } := fun o => by
    refine hw.set (g := g) hH rfl rfl ?_ rfl rfl rfl (by simp) (fun b hb => ?_)
    . show (w.heap.setIfInBounds g o)[g]? = some o
      simp [hlt]
    . simp [Array.getElem?_setIfInBounds, Ne.symm hb]
  rcases mFind_get v q es 0 with ⟨h1, h2, h3⟩ | ⟨j, u, h1, h2, h3⟩
  . have e1 : mapO (mPut q v es c) (mTick q es c) = .map ((ents es).toArray.push ⟨.int .i64 q, v, c⟩) (c + 1) := by
      simp [mapO, mPut, mTick, h1, h3, ents]
    rw [e1] at n
    refine ⟨.skip, _, f, h, _, ?_, .inr ⟨rfl, ha⟩, hset _, n⟩
    simp [execOp, Instr.mapUpdate, ev_eq ha hx, ev_eq ha hy, ev_eq ha hv, run_underlying hu, MapKept.run_getObj_map ho, hck, run_findKey_int hk', h1, MapKept.run_setObj_map _ ho, Result.andThen]
  . obtain ⟨_, b, h4⟩ := mFind_key q es 0 j u h1
    rw [Nat.sub_zero] at h4
    have hkey : ((ents es)[j]?.map (·.key)).getD (.int .i64 q) = .int .i64 q := by
      simp [ents, h4]
    have hst : (Instr.keyThatStays (.int .i64 q) (.int .i64 q)).run E.P w = .ok (.int .i64 q) w := by
      have : Instr.sameBits 10000 (.int .i64 q) (.int .i64 q) = true := by
        rw [show (10000 : Nat) = 9999 + 1 from rfl]
        simp [Instr.sameBits]
      simp [Instr.keyThatStays, this]
    have e1 : mapO (mPut q v es c) (mTick q es c) = .map ((ents es).toArray.modify j fun e => { e with key := .int .i64 q, val := v }) c := by
      have := ents_modify v es j (.int .i64 q) q u b rfl h4
      simp only [mapO, mPut, mTick, h1, h3, if_true]
      rw [<- this]
      simp
    rw [e1] at n
    refine ⟨.skip, _, f, h, _, ?_, .inr ⟨rfl, ha⟩, hset _, n⟩
    have hkey' : ((ents es).toArray[j]?.map (·.key)).getD (.int .i64 q) = .int .i64 q := by simpa using hkey
    simp [execOp, Instr.mapUpdate, ev_eq ha hx, ev_eq ha hy, ev_eq ha hv, run_underlying hu, MapKept.run_getObj_map ho, hck, run_findKey_int hk', h1, hkey', hst, MapKept.run_setObj_map _ ho, Result.andThen]
    try simp [hkey, hst, MapKept.run_setObj_map _ ho]
theorem G.clearMap {t : TypeId} {x : Operand} {dd : Option Nat} (hdd : dd = none) {kt et sz1 by1 : Nat} {z1 : Value} {g : Nat} {es : List (Int × Value × Nat)} {c : Nat} (hx : ev f x = some (.map (some g))) (ht : Ty E.P t (.map kt et) sz1 by1 z1)
    (hH : Take (.obj g (mapO es c)) H Hr) (n : G E (.ops .seq all rest :: k) f h (.obj g (mapO [] c) :: Hr)) :
    G E (.ops .seq all (⟨dd, .call { callee := .builtin .clear, args := #[x], argTypes := #[t] }, ty, pos, aft, none⟩ :: rest) :: k) f h H := by
  subst hdd
  refine G.opGen fun a w ha hw => ?_
  have hu := ht.fits
  simp only [TD.fits] at hu
  have ho : w.heap[g]? = some (.map (ents es).toArray c) := hw.own _ hH.mem
  have hlt : g < w.heap.size := lt_of_get ho
  refine ⟨.value (.tuple #[]), { w with heap := w.heap.setIfInBounds g (.map #[] c) }, f, h, _, ?_, .inl ⟨_, rfl, ha⟩, hw.set (y := .obj g (mapO [] c)) (g := g) hH rfl rfl ?_ rfl rfl rfl (by simp) (fun b hb => ?_), n⟩
  . simp [execOp, resolve, invoke, builtin, ev_eq ha hx, Builtin.clear_, run_underlying hu, MapKept.run_getObj_map ho, MapKept.run_setObj_map _ ho, Result.andThen]
  . show (w.heap.setIfInBounds g (.map #[] c))[g]? = some (mapO [] c)
    simp [hlt, mapO, ents]
  . simp [Array.getElem?_setIfInBounds, Ne.symm hb]
theorem G.anyHold (n : Nat) (sl : Nat -> Bool) {l0 : List Oper} (hn : Nat.beq l0.length n = true) {h0 : Heap} {H1 : List Chunk} {done done' idx : List Nat} {o : Oper} {l : List Oper} (hx : autoGo sl l0 0 done = some (o :: l, idx, done'))
    (hs : (Region.noSelect l0.toArray && takeOkC l0.toArray (l0.length - done.length) done idx) = true) (hh : Heap.le h0 h) (hd : SubH H1 H)
    (g : G E (.ops (.held h H1) l0.toArray (o :: l) :: .back h H :: .any h H1 l0.toArray done' :: k) f h H1) : G E (.any h0 [] l0.toArray done :: k) f h H := by
  obtain ⟨p1, p2⟩ := autoGo_spec (l0 := l0) l0 0 done _ _ _ hx (fun j => by simp)
  exact G.anyTake p1 p2 hs hh (SubH.nil _) hd g
theorem G.copyStr {t t2 e : TypeId} {x y : Operand} {v : Value} {l s : List UInt8} {sz1 by1 by_ : Nat} {z z1 : Value} (hx : ev f x = some v) (hy : ev f y = some (str s)) (ht : Ty E.P t (.slice e) sz1 by1 z1) (he : Ty E.P e (.int .u8) 1 by_ z)
    (hH : Take (.row v e 1 (bytesR l)) H Hr) (hd : Nat.blt d E.n = true)
    (n : G E (.ops .seq all rest :: k) ((d, .int .i64 (min s.length l.length : Nat)) :: f) h (.row v e 1 (bytesR (s.take l.length ++ l.drop s.length)) :: Hr)) :
    G E (.ops .seq all (⟨some d, .call { callee := .builtin .copy, args := #[x, y], argTypes := #[t, t2] }, ty, pos, aft, none⟩ :: rest) :: k) f h H := by
  refine G.opGen fun a w ha hw => ?_
  have hu1 := ht.fits
  simp only [TD.fits] at hu1
  have hr := hw.own _ hH.mem
  have hsz := run_sizeOf' he w
  have hcells : ∀ m : Nat, (Builtin.firstCells 1 m (str s)).run E.P w = .ok ((s.take m).map fun b => Value.int .u8 b.toNat).toArray w := fun m => by
    simp [Builtin.firstCells, str, ba_extract]
  have hlen : (Builtin.lenOf (str s)).run E.P w = .ok s.length w := by simp [Builtin.lenOf, str, ba_size]
  have el : (s.take l.length ++ l.drop s.length).length = l.length := by
    rw [List.length_append, List.length_take, List.length_drop]; omega
  rcases hr.2 with ⟨rfl, h0⟩ | ⟨g, cap, cur, fz, hv, hg, hu, hnc, hcm, hcs, htk⟩
  . have hl0 : l = [] := by simpa [bytesR] using h0
    subst hl0
    simp only [List.length_nil, List.take_zero, List.drop_nil, List.append_nil, Nat.min_zero] at n
    refine ⟨.value (.int .i64 0), w, _, h, _, ?_, .inl ⟨_, rfl, ha.put d _ hd⟩, hw.sub ⟨[], by simpa using hH.perm⟩, n⟩
    have hc0 := hcells 0
    simp [execOp, resolve, invoke, builtin, ev_eq ha hx, ev_eq ha hy, Builtin.copy_, run_underlying hu1, hsz, hlen, hc0, goInt, Result.andThen]
  . subst hv
    rw [bytesR_length] at *
    have hcl : cur.toList.length = cap := by rw [Array.length_toList, hcs, Nat.mul_one]
    have hml : ((s.take (min s.length l.length)).map fun b => Value.int .u8 b.toNat).length = min s.length l.length := by rw [List.length_map, List.length_take]; omega
    obtain ⟨w', cur', r1, r2, r3, r4, r5, r6, r7, r8, r9, r10⟩ := run_storeCells_blk E.P g 0 e ((s.take (min s.length l.length)).map fun b => Value.int .u8 b.toNat) 0 cur.toList w fz (by simpa using hg) (by simpa using hu) (by rw [hml, hcl]; omega)
      (fun u hu' => by simp only [List.mem_map] at hu'; obtain ⟨b, _, rfl⟩ := hu'; rfl)
    have hrow : (Chunk.row (.slice (some ⟨g, 0, none⟩) l.length cap) e 1 (bytesR (s.take l.length ++ l.drop s.length))).holds w' := by
      refine ⟨rowed_bytes _, .inr ⟨g, cap, cur'.toArray, fz, by rw [bytesR_length, el], r2, by simpa [r3] using hu, by rw [bytesR_length, el]; exact hnc, hcm, by simp [r3, hcs], ?_⟩⟩
      rw [bytesR_length, el, bytesR_flatten]
      rw [bytesR_flatten] at htk
      rw [Nat.mul_one] at htk ⊢
      apply List.ext_getElem?
      intro q
      have hmin : min s.length l.length = min l.length s.length := Nat.min_comm _ _
      by_cases hq : q < l.length
      . rw [List.getElem?_take_of_lt hq, List.getElem?_map]
        by_cases hq2 : q < s.length
        . have := r4 q (by rw [hml]; omega)
          simp only [Nat.zero_add] at this
          rw [show (cur'.toArray.toList)[q]? = cur'[q]? from rfl, this, List.getElem?_map, List.getElem?_take_of_lt (by omega), List.getElem?_append_left (by rw [List.length_take]; omega), List.getElem?_take_of_lt hq]
        . have := r5 q (.inr (by rw [hml]; omega))
          rw [show (cur'.toArray.toList)[q]? = cur'[q]? from rfl, this, List.getElem?_append_right (by rw [List.length_take]; omega), List.getElem?_drop, List.length_take]
          have h9 := congrArg (fun L => L[q]?) htk
          simp only [List.getElem?_take_of_lt hq, List.getElem?_map] at h9
          rw [h9]
          congr 2
          omega
      . rw [List.getElem?_eq_none (by rw [List.length_take]; omega), List.getElem?_eq_none (by rw [List.length_map, el]; omega)]
    refine ⟨.value (.int .i64 (min s.length l.length : Nat)), w', _, h, _, ?_, .inl ⟨_, rfl, ha.put d _ hd⟩, hw.set (g := g) hH rfl rfl hrow r6 r7 r8 r9 r10, n⟩
    have hc0 := hcells (min s.length l.length)
    have hmin' : s.length.min l.length = min s.length l.length := rfl
    have r1' := r1
    simp only [List.map_take] at r1'
    simp [execOp, resolve, invoke, builtin, ev_eq ha hx, ev_eq ha hy, Builtin.copy_, run_underlying hu1, hsz, hlen, hmin', hc0, r1', goInt, Result.andThen]
end
end Go.Proofs.YtmbpjgjajedonaaGreatDoor
namespace Go.Proofs.YtmbpjgjajedonaaGreatDoor
set_option linter.all false
set_option maxRecDepth 4000
open Go.RowKit

theorem G.anyKeep {E : Env} {k : List It} {f : Fr} {h : Heap} {H : List Chunk} (sl : Nat -> Bool) {l0 : List Oper} {h0 : Heap} {H0 : List Chunk} {done done' idx : List Nat} {o : Oper} {l : List Oper} (hx : autoGo sl l0 0 done = some (o :: l, idx, done'))
    (hs : (Region.noSelect l0.toArray && takeOkC l0.toArray (l0.length - done.length) done idx) = true) (hh : Heap.le h0 h) (hs1 : SubH H0 H)
    (g : G E (.ops (.held h H0) l0.toArray (o :: l) :: .back h H :: .any h H0 l0.toArray done' :: k) f h H0) : G E (.any h0 H0 l0.toArray done :: k) f h H := by
  obtain ⟨p1, p2⟩ := autoGo_spec (l0 := l0) l0 0 done _ _ _ hx (fun j => by simp)
  exact G.anyTake p1 p2 hs hh (SubH.rfl_ _) hs1 g

def noMem : Op -> Bool
  | .load _ _ | .indexAddr _ _ _ | .index _ _ _ => false
  | _ => true
def autoGo2 (sl : Nat -> Bool) : List Oper -> Nat -> List Nat -> Option (List Oper × List Nat × List Nat)
  | [], _, done => some ([], [], done)
  | o :: r, i, done => bif pureOp sl o.op && noMem o.op && !inL i done && edgesIn done o.after.toList then (match autoGo2 sl r (i + 1) (i :: done) with
      | some (l, idx, d) => some (o :: l, i :: idx, d)
      | none => none) else autoGo2 sl r (i + 1) done
theorem autoGo2_spec {sl : Nat -> Bool} {l0 : List Oper} : ∀ (r : List Oper) (i : Nat) (done : List Nat) (l : List Oper) (idx d : List Nat), autoGo2 sl r i done = some (l, idx, d) -> (∀ j, r[j]? = l0[i + j]?) →
    idx.mapM (fun i => l0[i]?) = some l /\ d = idx.reverse ++ done
  | [], i, done, l, idx, d, h, _ => by
    simp only [autoGo2, Option.some.injEq, Prod.mk.injEq] at h
    obtain ⟨rfl, rfl, rfl⟩ := h
    simp
  | o :: r, i, done, l, idx, d, h, hr => by
    have hr' : ∀ j, r[j]? = l0[i + 1 + j]? := fun j => by rw [show i + 1 + j = i + (j + 1) by omega, ← hr (j + 1)]; simp
    have h0 : l0[i]? = some o := by rw [<- Nat.add_zero i, ← hr 0]; rfl
    simp only [autoGo2] at h
    cases hc : (pureOp sl o.op && noMem o.op && !inL i done && edgesIn done o.after.toList) with
    | true =>
      rw [hc] at h
      simp only [cond_true] at h
      split at h
      . rename_i l1 idx1 d1 h1
        simp only [Option.some.injEq, Prod.mk.injEq] at h
        obtain ⟨rfl, rfl, rfl⟩ := h
        obtain ⟨q1, q2⟩ := autoGo2_spec r (i + 1) (i :: done) _ _ _ h1 hr'
        refine ⟨?_, ?_⟩
        . simp [List.mapM_cons, h0, q1]
        . rw [q2]; simp
      . cases h
    | false =>
      rw [hc] at h
      simp only [cond_false] at h
      exact autoGo2_spec r (i + 1) done _ _ _ h hr'
theorem G.anyPure {E : Env} {k : List It} {f : Fr} {h : Heap} {H : List Chunk} (sl : Nat -> Bool) {l0 : List Oper} {h0 : Heap} {done done' idx : List Nat} {o : Oper} {l : List Oper} (hx : autoGo2 sl l0 0 done = some (o :: l, idx, done'))
    (hs : (Region.noSelect l0.toArray && takeOkC l0.toArray (l0.length - done.length) done idx) = true) (hh : Heap.le h0 h)
    (g : G E (.ops (.held h []) l0.toArray (o :: l) :: .back h H :: .any h [] l0.toArray done' :: k) f h []) : G E (.any h0 [] l0.toArray done :: k) f h H := by
  obtain ⟨p1, p2⟩ := autoGo2_spec (l0 := l0) l0 0 done _ _ _ hx (fun j => by simp)
  exact G.anyTake p1 p2 hs hh (SubH.nil _) (SubH.nil _) g
theorem G.anyOneX {E : Env} {k : List It} {f : Fr} {h : Heap} {H : List Chunk} {l0 : List Oper} {h0 : Heap} {H0 : List Chunk} {done : List Nat} {i0 i : Nat} {o : Oper} (ho : rdyL l0 0 (i0 :: done) = some [(i, o)])
    (hr : (Nat.blt (i0 :: done).length l0.length && (Region.ready .any l0.toArray (lst l0.length (i0 :: done)) == [i]) && sinkOp l0.toArray i0) = true)
    (g : G E (.ops .seq l0.toArray [o] :: .any h0 H0 l0.toArray (i :: i0 :: done) :: k) f h H) : G E (.any h0 H0 l0.toArray (i0 :: done) :: k) f h H := by
  rw [Bool.and_eq_true, Bool.and_eq_true] at hr
  have ho' := rdyL_spec (l0 := l0) l0 0 (i0 :: done) _ ho (fun j => by simp) (i, o) (by simp)
  refine ⟨fun a w ha hw => ⟨fun e => (by rw [hr.2] at e; cases e), ?_⟩⟩
  have hf := fuel_step (n := l0.toArray.size) (done := i0 :: done) (i := i) (by simpa using hr.1.1)
  rw [hf]
  refine wpAnyS_all (rs := [i]) (by simpa using hr.1.2) (by simp) fun j hj => ?_
  simp at hj
  subst hj
  exact any_step (by simpa using ho') (g.run a w ha hw)
end Go.Proofs.YtmbpjgjajedonaaGreatDoor
