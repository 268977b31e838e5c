/- Rules of the light walk: min, max, copy of a text; maps with whole numbers as keys. -/
import Derived.Test.YtahpemfnhepgoaaLtP
import Derived.MapKept
namespace Go.Proofs.Ytahpemfnhepgoaa
set_option linter.all false
set_option maxRecDepth 4000
open Go.RowKit

section
variable {E : Env} {k : List It} {f : Fr} {h : Heap} {H Hr : List Chunk} {st : Md} [hmd : OkMd st h H] {all : Array Oper} {rest : List Oper} {d : Nat} {ty : TypeId} {pos : String} {aft : Array Edge}
theorem G.minI {x y : Operand} {t t' : TypeId} {ki kj : IntKind} {a b : Int} (hx : ev f x = some (.int ki a)) (hy : ev f y = some (.int kj b)) (hd : Nat.blt d E.n = true)
    (g : G E (.ops st all rest :: k) ((d, .int ki (min a b)) :: f) h H) :
    G E (.ops st all (⟨some d, .call { callee := .builtin .min, args := #[x, y], argTypes := #[t, t'] }, ty, pos, aft, none⟩ :: rest) :: k) f h H := by
  refine G.opVal hd (fun _ q w ha _ => ?_) g
  have e : (if b < a then b else a) = min a b := by omega
  simp [execOp, resolve, invoke, builtin, ev_eq ha hx, ev_eq ha hy, Builtin.min_, Builtin.min2, e]
theorem G.maxI {x y : Operand} {t t' : TypeId} {ki kj : IntKind} {a b : Int} (hx : ev f x = some (.int ki a)) (hy : ev f y = some (.int kj b)) (hd : Nat.blt d E.n = true)
    (g : G E (.ops st all rest :: k) ((d, .int ki (max a b)) :: f) h H) :
    G E (.ops st all (⟨some d, .call { callee := .builtin .max, args := #[x, y], argTypes := #[t, t'] }, ty, pos, aft, none⟩ :: rest) :: k) f h H := by
  refine G.opVal hd (fun _ q w ha _ => ?_) g
  have e : (if a < b then b else a) = max a b := by omega
  simp [execOp, resolve, invoke, builtin, ev_eq ha hx, ev_eq ha hy, Builtin.max_, Builtin.max2, e]

def ents (es : List (Int × Value × Nat)) : List MapEntry := es.map fun x => ⟨.int .i64 x.1, x.2.1, x.2.2⟩
def mapO (es : List (Int × Value × Nat)) (c : Nat) : Obj := .map (ents es).toArray c
def mFind (q : Int) : List (Int × Value × Nat) -> Nat -> Option (Nat × Value)
  | [], _ => none
  | (j, v, _) :: es, i => if q = j then some (i, v) else mFind q es (i + 1)
def mGet (z : Value) (q : Int) : List (Int × Value × Nat) -> Value
  | [] => z
  | (j, v, _) :: es => if q = j then v else mGet z q es
def mHas (q : Int) : List (Int × Value × Nat) -> Bool
  | [] => false
  | (j, _, _) :: es => if q = j then true else mHas q es
theorem mFind_get (z : Value) (q : Int) : ∀ (es : List (Int × Value × Nat)) (i : Nat), (mFind q es i = none /\ mGet z q es = z /\ mHas q es = false) \/ ∃ j v, mFind q es i = some (j, v) /\ mGet z q es = v /\ mHas q es = true
  | [], _ => .inl ⟨rfl, rfl, rfl⟩
  | (j, v, _) :: es, i => by
    by_cases h : q = j
    . exact .inr ⟨i, v, by simp [mFind, h], by simp [mGet, h], by simp [mHas, h]⟩
    . rcases mFind_get z q es (i + 1) with ⟨h1, h2, h3⟩ | ⟨j', v', h1, h2, h3⟩
      . exact .inl ⟨by simp [mFind, h, h1], by simp [mGet, h, h2], by simp [mHas, h, h3]⟩
      . exact .inr ⟨j', v', by simp [mFind, h, h1], by simp [mGet, h, h2], by simp [mHas, h, h3]⟩
theorem findNow_int (q : Int) : ∀ (es : List (Int × Value × Nat)) (i : Nat), Instr.findNow (.int .i64) (.int .i64 q) (ents es) i = some (mFind q es i)
  | [], _ => rfl
  | (j, v, b) :: es, i => by
    have ih := findNow_int q es (i + 1)
    simp only [ents] at ih
    by_cases h : q = j
    . simp [ents, Instr.findNow, Instr.sameNow, mFind, h]
    . have hb : (q == j) = false := by simpa using h
      simp [ents, Instr.findNow, Instr.sameNow, mFind, h, hb, ih]
theorem run_findKey_int {P : Program} {w : World} {kt : TypeId} (hk : P.underlying kt = some (.int .i64)) (q : Int) (es : List (Int × Value × Nat)) : (Instr.findKey kt (.int .i64 q) (ents es)).run P w = .ok (mFind q es 0) w := by
  simp [Instr.findKey, run_underlying hk, findNow_int, Result.andThen]
theorem run_checkKey_int {P : Program} {w : World} {kt : TypeId} (hk : P.underlying kt = some (.int .i64)) (q : Int) (b : Bool) : (Instr.checkKey b 10000 kt (.int .i64 q)).run P w = .ok () w := by
  rw [show (10000 : Nat) = 9999 + 1 from rfl]
  unfold Instr.checkKey
  simp [run_underlying hk, Result.andThen]

end
section
variable {E : Env} {k : List It} {f : Fr} {h : Heap} {H Hr : List Chunk} {all : Array Oper} {rest : List Oper} {d : Nat} {ty : TypeId} {pos : String} {aft : Array Edge}
theorem G.makeMap {t : TypeId} (hd : Nat.blt d E.n = true) (n : ∀ g, G E (.ops .seq all rest :: k) ((d, .map (some g)) :: f) h (.obj g (mapO [] 0) :: H)) :
    G E (.ops .seq all (⟨some d, .makeMap t none, ty, pos, aft, none⟩ :: rest) :: k) f h H := by
  refine G.opGen fun a w ha hw => ?_
  refine ⟨.value (.map (some w.heap.size)), w.alloc (mapO [] 0), _, h, _, ?_, .inl ⟨_, rfl, ha.put d _ hd⟩, hw.alloc _ (.obj w.heap.size (mapO [] 0)) ?_ rfl, n _⟩
  . have hn : ∀ o, (newObj o).run E.P w = .ok w.heap.size (w.alloc o) := fun o => rfl
    simp [execOp, Instr.makeMap, hn, mapO, ents, Result.andThen]
  . exact heap_alloc_new w _
def mPut (q : Int) (v : Value) (es : List (Int × Value × Nat)) (c : Nat) : List (Int × Value × Nat) := match mFind q es 0 with
  | some (i, _) => es.modify i fun x => (x.1, v, x.2.2)
  | none => es ++ [(q, v, c)]
def mTick (q : Int) (es : List (Int × Value × Nat)) (c : Nat) : Nat := if mHas q es then c else c + 1
theorem mFind_key (q : Int) : ∀ (es : List (Int × Value × Nat)) (i j : Nat) (v : Value), mFind q es i = some (j, v) -> i <= j /\ ∃ b, es[j - i]? = some (q, v, b)
  | (q', v', b') :: es, i, j, v, h => by
    simp only [mFind] at h
    split at h
    . rename_i hq
      simp only [Option.some.injEq, Prod.mk.injEq] at h
      obtain ⟨rfl, rfl⟩ := h
      exact ⟨Nat.le_refl _, b', by simp [hq]⟩
    . obtain ⟨h1, b, h2⟩ := mFind_key q es (i + 1) j v h
      refine ⟨by omega, b, ?_⟩
      rw [show j - i = (j - (i + 1)) + 1 by omega]
      simpa using h2
theorem ents_modify (v : Value) : ∀ (es : List (Int × Value × Nat)) (i : Nat) (key : Value) (q : Int) (u : Value) (b : Nat), key = .int .i64 q -> es[i]? = some (q, u, b) →
    (ents es).modify i (fun e => { e with key := key, val := v }) = ents (es.modify i fun x => (x.1, v, x.2.2))
  | [], i, _, _, _, _, _, h => by simp at h
  | x :: es, 0, key, q, u, b, hk, h => by
    simp at h
    subst h hk
    simp [ents]
  | x :: es, i + 1, key, q, u, b, hk, h => by
    have := ents_modify v es i key q u b hk (by simpa using h)
    simp only [ents] at this
    simp [ents, this]
theorem G.mapUpdate {t kt et : TypeId} {x y y2 : Operand} {g : Nat} {q : Int} {v : Value} {sz1 by1 sz2 by2 : Nat} {z1 z2 : Value} {es : List (Int × Value × Nat)} {c : Nat} (hx : ev f x = some (.map (some g))) (hy : ev f y = some (.int .i64 q)) (hv : ev f y2 = some v)
    (ht : Ty E.P t (.map kt et) sz1 by1 z1) (hk : Ty E.P kt (.int .i64) sz2 by2 z2) (hH : Take (.obj g (mapO es c)) H Hr)
    (n : G E (.ops .seq all rest :: k) f h (.obj g (mapO (mPut q v es c) (mTick q es c)) :: Hr)) :
    G E (.ops .seq all (⟨none, .mapUpdate t x y y2, ty, pos, aft, none⟩ :: rest) :: k) f h H := by
  refine G.opGen fun a w ha hw => ?_
  have hu := ht.fits
  have hk' := hk.fits
  simp only [TD.fits] at hu hk'
  have ho : w.heap[g]? = some (.map (ents es).toArray c) := hw.own _ hH.mem
  have hlt : g < w.heap.size := lt_of_get ho
  have hck := fun b => run_checkKey_int (w := w) hk' q b
  have hset : ∀ o : Obj, St E.c h (.obj g o :: Hr) { w with heap := w.heap.setIfInBounds g o } := fun o => by
    refine hw.set (g := g) hH rfl rfl ?_ rfl rfl rfl (by simp) (fun b hb => ?_)
    . show (w.heap.setIfInBounds g o)[g]? = some o
      simp [hlt]
    . simp [Array.getElem?_setIfInBounds, Ne.symm hb]
  rcases mFind_get v q es 0 with ⟨h1, h2, h3⟩ | ⟨j, u, h1, h2, h3⟩
  . have e1 : mapO (mPut q v es c) (mTick q es c) = .map ((ents es).toArray.push ⟨.int .i64 q, v, c⟩) (c + 1) := by
      simp [mapO, mPut, mTick, h1, h3, ents]
    rw [e1] at n
    refine ⟨.skip, _, f, h, _, ?_, .inr ⟨rfl, ha⟩, hset _, n⟩
    simp [execOp, Instr.mapUpdate, ev_eq ha hx, ev_eq ha hy, ev_eq ha hv, run_underlying hu, MapKept.run_getObj_map ho, hck, run_findKey_int hk', h1, MapKept.run_setObj_map _ ho, Result.andThen]
  . obtain ⟨_, b, h4⟩ := mFind_key q es 0 j u h1
    rw [Nat.sub_zero] at h4
    have hkey : ((ents es)[j]?.map (·.key)).getD (.int .i64 q) = .int .i64 q := by
      simp [ents, h4]
    have hst : (Instr.keyThatStays (.int .i64 q) (.int .i64 q)).run E.P w = .ok (.int .i64 q) w := by
      have : Instr.sameBits 10000 (.int .i64 q) (.int .i64 q) = true := by
        rw [show (10000 : Nat) = 9999 + 1 from rfl]
        simp [Instr.sameBits]
      simp [Instr.keyThatStays, this]
    have e1 : mapO (mPut q v es c) (mTick q es c) = .map ((ents es).toArray.modify j fun e => { e with key := .int .i64 q, val := v }) c := by
      have := ents_modify v es j (.int .i64 q) q u b rfl h4
      simp only [mapO, mPut, mTick, h1, h3, if_true]
      rw [<- this]
      simp
    rw [e1] at n
    refine ⟨.skip, _, f, h, _, ?_, .inr ⟨rfl, ha⟩, hset _, n⟩
    have hkey' : ((ents es).toArray[j]?.map (·.key)).getD (.int .i64 q) = .int .i64 q := by simpa using hkey
    simp [execOp, Instr.mapUpdate, ev_eq ha hx, ev_eq ha hy, ev_eq ha hv, run_underlying hu, MapKept.run_getObj_map ho, hck, run_findKey_int hk', h1, hkey', hst, MapKept.run_setObj_map _ ho, Result.andThen]
    try simp [hkey, hst, MapKept.run_setObj_map _ ho]
end
end Go.Proofs.Ytahpemfnhepgoaa
