/- Rules of the light walk: texts, calls. -/
import Derived.Test.YtibkffoeioidlaaDoorLtC
namespace Go.Proofs.YtibkffoeioidlaaDoor
set_option linter.all false
set_option maxRecDepth 4000
open Go.RowKit

theorem ba_size (l : List UInt8) : (⟨l.toArray⟩ : ByteArray).size = l.length := by simp [ByteArray.size]
theorem ba_toList_loop (l : List UInt8) : ∀ (n i : Nat) (r : List UInt8), l.length - i = n -> i <= l.length -> ByteArray.toList.loop ⟨l.toArray⟩ i r = r.reverse ++ l.drop i := by
  intro n
  induction n with
  | zero =>
    intro i r hn hi
    unfold ByteArray.toList.loop
    rw [if_neg (by rw [ba_size]; omega), List.drop_of_length_le (by omega)]
    simp
  | succ n ih =>
    intro i r hn hi
    have hlt : i < l.length := by omega
    unfold ByteArray.toList.loop
    rw [if_pos (by rw [ba_size]; exact hlt), ih (i + 1) _ (by omega) (by omega), List.drop_eq_getElem_cons hlt]
    have : (⟨l.toArray⟩ : ByteArray).get! i = l[i] := by simp [ByteArray.get!, hlt]
    rw [this]
    simp
theorem ba_toList (l : List UInt8) : (⟨l.toArray⟩ : ByteArray).toList = l := by
  unfold ByteArray.toList
  rw [ba_toList_loop l _ 0 [] rfl (by omega)]
  simp
theorem ba_extract (l : List UInt8) (a b : Nat) : (⟨l.toArray⟩ : ByteArray).extract a b = ⟨((l.drop a).take (b - a)).toArray⟩ := by
  apply ByteArray.ext
  rw [ByteArray.data_extract]
  apply Array.ext'
  simp [List.extract_eq_take_drop]
theorem ba_append (a b : List UInt8) : (⟨a.toArray⟩ : ByteArray) ++ ⟨b.toArray⟩ = ⟨(a ++ b).toArray⟩ := by
  apply ByteArray.ext; simp
theorem ba_get (l : List UInt8) (i : Nat) : (⟨l.toArray⟩ : ByteArray)[i]? = l[i]? := by
  by_cases h : i < l.length
  . have h' : i < (⟨l.toArray⟩ : ByteArray).size := by rw [ba_size]; exact h
    rw [getElem?_pos (⟨l.toArray⟩ : ByteArray) i h', List.getElem?_eq_getElem h]
    rfl
  . have h' : ¬ i < (⟨l.toArray⟩ : ByteArray).size := by rw [ba_size]; exact h
    rw [getElem?_neg (⟨l.toArray⟩ : ByteArray) i h', List.getElem?_eq_none (by omega)]

section
variable {E : Env} {k : List It} {f : Fr} {h : Heap} {H : List Chunk} {st : Md} [hmd : OkMd st h H] {all : Array Oper} {rest : List Oper} {d : Nat} {ty : TypeId} {pos : String} {aft : Array Edge}

theorem G.lenStr {t : TypeId} {x : Operand} {l : List UInt8} {sz by_ : Nat} {z : Value} (hx : ev f x = some (str l)) (ht : Ty E.P t .str sz by_ z) (hd : Nat.blt d E.n = true)
    (g : G E (.ops st all rest :: k) ((d, .int .i64 l.length) :: f) h H) :
    G E (.ops st all (⟨some d, .call { callee := .builtin .len, args := #[x], argTypes := #[t] }, ty, pos, aft, none⟩ :: rest) :: k) f h H := by
  refine G.opVal hd (fun _ a w ha _ => ?_) g
  have := ht.fits
  simp only [TD.fits] at this
  simp [execOp, resolve, invoke, builtin, Builtin.len_, ev_eq ha hx, underlying, this, str, goInt, ba_size]

theorem G.lenSlice {t e : TypeId} {x : Operand} {A : Option Addr} {n c : Nat} {sz by_ : Nat} {z : Value} (hx : ev f x = some (.slice A n c)) (ht : Ty E.P t (.slice e) sz by_ z) (hd : Nat.blt d E.n = true)
    (g : G E (.ops st all rest :: k) ((d, .int .i64 n) :: f) h H) :
    G E (.ops st all (⟨some d, .call { callee := .builtin .len, args := #[x], argTypes := #[t] }, ty, pos, aft, none⟩ :: rest) :: k) f h H := by
  refine G.opVal hd (fun _ a w ha _ => ?_) g
  have := ht.fits
  simp only [TD.fits] at this
  simp [execOp, resolve, invoke, builtin, Builtin.len_, ev_eq ha hx, underlying, this, goInt]

theorem G.idxStr {t : TypeId} {x i : Operand} {l : List UInt8} {kd : IntKind} {n : Int} {m : Nat} {sz by_ : Nat} {z : Value} (hx : ev f x = some (str l)) (hi : ev f i = some (.int kd n)) (ht : Ty E.P t .str sz by_ z)
    (hd : Nat.blt d E.n = true) (hm : n.toNat = m) (hb : 0 <= n /\ n < l.length) (g : byteAt l m < 256 -> G E (.ops st all rest :: k) ((d, .int .u8 (byteAt l m)) :: f) h H) :
    G E (.ops st all (⟨some d, .index t x i, ty, pos, aft, none⟩ :: rest) :: k) f h H := by
  subst hm
  refine G.opVal hd (fun _ a w ha _ => ?_) (g (byteAt_lt _ _))
  have := ht.fits
  simp only [TD.fits] at this
  have hlt : n.toNat < l.length := by omega
  simp only [execOp, Instr.index, asIntOf, ev_eq ha hx, ev_eq ha hi, Sem.run_bind, Sem.run_pure, Result.andThen_ok, underlying, run_program, this, str, if_pos hb.1, ba_get, List.getElem?_eq_getElem hlt]
  simp [byteAt, hlt]

def optI (f : Fr) : Option Operand -> Int -> Option Int
  | none, n => some n
  | some x, _ => match ev f x with
    | some (.int _ n) => some n
    | _ => none
theorem sliceBound_ok {P : Program} {w : World} {kd : IntKind} {n : Int} {y : Nat} {c : BoundsCode} (hb : 0 <= n /\ n <= y) : (Instr.sliceBound (.int kd n) y c).run P w = .ok n.toNat w := by
  simp [Instr.sliceBound, asIntOf, hb]
theorem G.sliceStr {t : TypeId} {x : Operand} {lo hi : Option Operand} {l l' : List UInt8} {a b : Int} {sz by_ : Nat} {z : Value} (hx : ev f x = some (str l)) (hlo : optI f lo 0 = some a) (hhi : optI f hi l.length = some b)
    (ht : Ty E.P t .str sz by_ z) (hd : Nat.blt d E.n = true) {a' b' : Nat} (ha' : a.toNat = a') (hb' : b.toNat = b') (hb : 0 <= a /\ a <= b /\ b <= l.length) (hl : l' = (l.drop a').take (b' - a'))
    (g : G E (.ops st all rest :: k) ((d, str l') :: f) h H) :
    G E (.ops st all (⟨some d, .slice t x lo hi none, ty, pos, aft, none⟩ :: rest) :: k) f h H := by
  subst ha' hb' hl
  refine G.opVal hd (fun _ ac w ha _ => ?_) g
  have := ht.fits
  simp only [TD.fits] at this
  have hsz : (⟨l.toArray⟩ : ByteArray).size = l.length := ba_size l
  cases lo with
  | none =>
    simp only [optI, Option.some.injEq] at hlo
    subst hlo
    cases hi with
    | none =>
      simp only [optI, Option.some.injEq] at hhi
      subst hhi
      simp [execOp, Instr.sliceAt, Instr.slice, Instr.sliceBounds, ev_eq ha hx, underlying, this, str, ba_extract, ba_size]
    | some y =>
      simp only [optI] at hhi
      split at hhi
      . rename_i kd n hy
        simp at hhi
        subst hhi
        have := sliceBound_ok (P := E.P) (w := w) (kd := kd) (n := n) (y := l.length) (c := .sliceAlen) (by omega)
        simp [execOp, Instr.sliceAt, Instr.slice, Instr.sliceBounds, ev_eq ha hx, ev_eq ha hy, underlying, *, str, ba_extract, ba_size]
      . cases hhi
  | some u =>
    simp only [optI] at hlo
    split at hlo
    . rename_i kd0 n0 hu
      simp at hlo
      subst hlo
      cases hi with
      | none =>
        simp only [optI, Option.some.injEq] at hhi
        subst hhi
        have := sliceBound_ok (P := E.P) (w := w) (kd := kd0) (n := n0) (y := l.length) (c := .sliceB) (by omega)
        simp [execOp, Instr.sliceAt, Instr.slice, Instr.sliceBounds, ev_eq ha hx, ev_eq ha hu, underlying, *, str, ba_extract, ba_size]
      | some y =>
        simp only [optI] at hhi
        split at hhi
        . rename_i kd n hy
          simp at hhi
          subst hhi
          have h1 := sliceBound_ok (P := E.P) (w := w) (kd := kd) (n := n) (y := l.length) (c := .sliceAlen) (by omega)
          have h2 := sliceBound_ok (P := E.P) (w := w) (kd := kd0) (n := n0) (y := n.toNat) (c := .sliceB) (by omega)
          simp [execOp, Instr.sliceAt, Instr.slice, Instr.sliceBounds, ev_eq ha hx, ev_eq ha hu, ev_eq ha hy, underlying, *, str, ba_extract, ba_size]
        . cases hhi
    . cases hlo

theorem G.dropStr {t : TypeId} {x lo : Operand} {l : List UInt8} {kd : IntKind} {a : Int} {a' sz by_ : Nat} {z : Value} (hx : ev f x = some (str l)) (hlo : ev f lo = some (.int kd a))
    (ht : Ty E.P t .str sz by_ z) (hd : Nat.blt d E.n = true) (ha' : a.toNat = a') (hb : 0 <= a /\ a <= l.length) (g : G E (.ops st all rest :: k) ((d, str (l.drop a')) :: f) h H) :
    G E (.ops st all (⟨some d, .slice t x (some lo) none none, ty, pos, aft, none⟩ :: rest) :: k) f h H :=
  G.sliceStr (a := a) (b := l.length) hx (by simp [optI, hlo]) rfl ht hd ha' (Int.toNat_natCast _) (by omega) (by rw [List.take_of_length_le]; simp) g
theorem G.catStr {t t' : TypeId} {x y : Operand} {l l' : List UInt8} (hx : ev f x = some (str l)) (hy : ev f y = some (str l')) (hd : Nat.blt d E.n = true) (hb : l.length + l'.length <= 9223372036854775807)
    (g : G E (.ops st all rest :: k) ((d, str (l ++ l')) :: f) h H) :
    G E (.ops st all (⟨some d, .binOp .add t x y t', ty, pos, aft, none⟩ :: rest) :: k) f h H := by
  refine G.opVal hd (fun _ a w ha _ => ?_) g
  have h1 : ¬ ((((⟨l.toArray⟩ : ByteArray).size + (⟨l'.toArray⟩ : ByteArray).size : Nat) : Int) > IntKind.i64.max) := by
    rw [ba_size, ba_size]; simp only [IntKind.max, IntKind.signed, IntKind.bits]; simp; omega
  simp only [execOp, ev_eq ha hx, ev_eq ha hy, str, eqGuard, binOp, Op.stringOp]
  rw [if_neg h1]
  simp [ba_append]

theorem G.eqStr {t t' : TypeId} {x y : Operand} {l l' : List UInt8} (hx : ev f x = some (str l)) (hy : ev f y = some (str l')) (hd : Nat.blt d E.n = true)
    (g : G E (.ops st all rest :: k) ((d, .bool (decide (l = l'))) :: f) h H) :
    G E (.ops st all (⟨some d, .binOp .eql t x y t', ty, pos, aft, none⟩ :: rest) :: k) f h H := by
  refine G.opVal hd (fun _ a w ha _ => ?_) g
  have hbd : (l == l') = decide (l = l') := by by_cases he : l = l' <;> simp [he]
  simp only [execOp, ev_eq ha hx, ev_eq ha hy, str, eqGuard, binOp, Op.stringOp, ba_toList, hbd]
  simp

theorem G.neStr {t t' : TypeId} {x y : Operand} {l l' : List UInt8} (hx : ev f x = some (str l)) (hy : ev f y = some (str l')) (hd : Nat.blt d E.n = true)
    (g : G E (.ops st all rest :: k) ((d, .bool (!decide (l = l'))) :: f) h H) :
    G E (.ops st all (⟨some d, .binOp .neq t x y t', ty, pos, aft, none⟩ :: rest) :: k) f h H := by
  refine G.opVal hd (fun _ a w ha _ => ?_) g
  have hbd : (l == l') = decide (l = l') := by by_cases he : l = l' <;> simp [he]
  simp only [execOp, ev_eq ha hx, ev_eq ha hy, str, eqGuard, binOp, Op.stringOp, ba_toList, hbd]
  simp

theorem G.eqStr0 {t t' : TypeId} {x y : Operand} {l : List UInt8} (hx : ev f x = some (str l)) (hy : ev f y = some (str [])) (hd : Nat.blt d E.n = true)
    (g : G E (.ops st all rest :: k) ((d, .bool (decide (l.length = 0))) :: f) h H) :
    G E (.ops st all (⟨some d, .binOp .eql t x y t', ty, pos, aft, none⟩ :: rest) :: k) f h H := by
  refine G.eqStr hx hy hd ?_
  rw [show decide (l = []) = decide (l.length = 0) by simp]; exact g
theorem G.neStr0 {t t' : TypeId} {x y : Operand} {l : List UInt8} (hx : ev f x = some (str l)) (hy : ev f y = some (str [])) (hd : Nat.blt d E.n = true)
    (g : G E (.ops st all rest :: k) ((d, .bool (!decide (l.length = 0))) :: f) h H) :
    G E (.ops st all (⟨some d, .binOp .neq t x y t', ty, pos, aft, none⟩ :: rest) :: k) f h H := by
  refine G.neStr hx hy hd ?_
  rw [show decide (l = []) = decide (l.length = 0) by simp]; exact g

theorem run_eqGen {t t' : TypeId} {x y : Operand} {u v : Value} {r : Bool} {a : Act} {w : World} (ha : FSat E.n f a) (hx : ev f x = some u) (hy : ev f y = some v)
    (hb : binOp .eql t u v = (do pure (.bool (← Op.equal t u v)))) (hg : ∀ o1 o2, eqGuard .eql t o1 o2 u v = pure ()) (hq : (Op.equal t u v).run E.P w = .ok r w) :
    (execOp a.eval ⟨some d, .binOp .eql t x y t', ty, pos, aft, none⟩).run E.P w = .ok (.value (.bool r)) w := by
  simp only [execOp, ev_eq ha hx, ev_eq ha hy, hg, hb]
  simp [hq]
theorem G.eqPtr {t t' : TypeId} {x y : Operand} {p : Option Addr} {e : TypeId} {sz by_ : Nat} {z : Value} (hx : ev f x = some (.pointer p)) (hy : ev f y = some (.pointer none)) (ht : Ty E.P t (.ptr e) sz by_ z) (hd : Nat.blt d E.n = true)
    (g : G E (.ops st all rest :: k) ((d, .bool p.isNone) :: f) h H) :
    G E (.ops st all (⟨some d, .binOp .eql t x y t', ty, pos, aft, none⟩ :: rest) :: k) f h H := by
  refine G.opVal hd (fun _ a w ha _ => ?_) g
  have := ht.fits
  simp only [TD.fits] at this
  have hq : ∀ dd, (Op.equalIn (dd + 1) t (.pointer p) (.pointer none)).run E.P w = .ok p.isNone w := fun dd => by
    cases p <;> simp [Op.equalIn, underlying, this]
  exact run_eqGen ha hx hy (by cases p <;> rfl) (fun _ _ => by cases p <;> rfl) (hq 9999)
theorem G.eqBool {t t' : TypeId} {x y : Operand} {p q : Bool} {sz by_ : Nat} {z : Value} (hx : ev f x = some (.bool p)) (hy : ev f y = some (.bool q)) (ht : Ty E.P t .bool sz by_ z) (hd : Nat.blt d E.n = true)
    (g : G E (.ops st all rest :: k) ((d, .bool (p == q)) :: f) h H) :
    G E (.ops st all (⟨some d, .binOp .eql t x y t', ty, pos, aft, none⟩ :: rest) :: k) f h H := by
  refine G.opVal hd (fun _ a w ha _ => ?_) g
  have := ht.fits
  simp only [TD.fits] at this
  have hq : ∀ dd, (Op.equalIn (dd + 1) t (.bool p) (.bool q)).run E.P w = .ok (p == q) w := fun dd => by
    simp [Op.equalIn, underlying, this]
  exact run_eqGen ha hx hy rfl (fun _ _ => rfl) (hq 9999)
def evs (f : Fr) : List Operand -> Option (List Value)
  | [] => some []
  | x :: r => match ev f x, evs f r with
    | some v, some l => some (v :: l)
    | _, _ => none
theorem evs_eq {n : Nat} {a : Act} (ha : FSat n f a) : ∀ {xs : List Operand} {vs : List Value}, evs f xs = some vs -> xs.map a.eval = vs
  | [], vs, hv => by simp [evs] at hv; simp [hv]
  | x :: r, vs, hv => by
    simp only [evs] at hv
    split at hv
    . rename_i v l h1 h2
      simp at hv
      subst hv
      simp [ev_eq ha h1, evs_eq ha h2]
    . cases hv

theorem callFunc_run {P : Program} {g : FuncId} {fn : Func} (hf : P.funcs[g]? = some fn) (hn : (fn.name == "runtime.NumGoroutine") = false) (hb : fn.body.isNone = false) (args : Array Value) (w : World) :
    (callFunc g args).run P w = .ok (.enter g args) w := by
  have hn' : ¬ fn.name = "runtime.NumGoroutine" := by simpa using hn
  have hb' : ¬ fn.body = none := by intro e; rw [e] at hb; cases hb
  simp [callFunc, hf, hn', hb']

theorem St.before {c : Ctx} {H1 H2 : List Chunk} {w : World} (s : St c h H w) (t : Takes H1 H H2) : St c h (H1 ++ H2) w := s.sub ⟨[], by simpa using t.perm⟩

theorem G.callGen {op : Op} {g : FuncId} {vs : List Value} {H1 H2 : List Chunk} {R : Value -> Heap -> List Chunk -> Prop}
    (hrun : ∀ a w, FSat E.n f a -> St E.c h H w -> (execOp a.eval ⟨some d, op, ty, pos, aft, none⟩).run E.P w = .ok (.enter g vs.toArray) w)
    (sp : Spec E.P g vs h H1 R) (hH : Takes H1 H H2) (hd : Nat.blt d E.n = true)
    (next : ∀ v h' H', R v h' H' -> Heap.le h h' -> G E (.ops .seq all rest :: k) ((d, v) :: f) h' (H' ++ H2)) :
    G E (.ops .seq all (⟨some d, op, ty, pos, aft, none⟩ :: rest) :: k) f h H := by
  refine ⟨fun a w ha hw => ?_⟩
  show wpList E.P all (den E k) (⟨some d, op, ty, pos, aft, none⟩ :: rest) a w
  refine wpList_plain rfl fun K hK => ?_
  unfold Oper.wp
  rw [hrun a w ha hw, Oper.upon_enter]
  have hb := hw.before hH
  have hI : StI h H1 w := hb.toI.sub ⟨H2, List.Perm.refl _⟩
  refine (sp.run w hI).mono ?_
  rintro e w' ⟨v, h', H', rfl, hr, hst⟩
  exact hK _ _ ((next v h' H' hr hst.mono).run _ w' (ha.put d v hd) (hb.after hst))

def Callable (P : Program) (g : FuncId) : Prop := ∃ fn, P.funcs[g]? = some fn /\ (fn.name == "runtime.NumGoroutine") = false /\ fn.body.isNone = false

theorem G.call {g : FuncId} {xs : List Operand} {ts : Array TypeId} {vs : List Value} {H1 H2 : List Chunk} {R : Value -> Heap -> List Chunk -> Prop}
    (hc : Callable E.P g) (hx : evs f xs = some vs) (hd : Nat.blt d E.n = true) (sp : Spec E.P g vs h H1 R) (hH : Takes H1 H H2)
    (next : ∀ v h' H', R v h' H' -> Heap.le h h' -> G E (.ops .seq all rest :: k) ((d, v) :: f) h' (H' ++ H2)) :
    G E (.ops .seq all (⟨some d, .call { callee := .value (.func g), args := xs.toArray, argTypes := ts }, ty, pos, aft, none⟩ :: rest) :: k) f h H := by
  obtain ⟨fn, hf, hn, hb⟩ := hc
  refine G.callGen (fun a w ha _ => ?_) sp hH hd next
  have hm := evs_eq ha hx
  simp [execOp, resolve, invoke, Deferred.ofValue, Act.eval, callFunc_run hf hn hb, hm]
end
end Go.Proofs.YtibkffoeioidlaaDoor
