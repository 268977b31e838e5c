/- Rules of the light walk: texts, calls. -/
import Derived.Test.YtfmekdmpghhegaaDoorLtC
namespace Go.Proofs.YtfmekdmpghhegaaDoor
set_option linter.all false
set_option maxRecDepth 4000
open Go.RowKit

theorem ba_size (l : List UInt8) : (⟨l.toArray⟩ : ByteArray).size = l.length := by simp [ByteArray.size]
theorem ba_toList_loop (l : List UInt8) : ∀ (n i : Nat) (r : List UInt8), l.length - i = n → i ≤ l.length → ByteArray.toList.loop ⟨l.toArray⟩ i r = r.reverse ++ l.drop i := by
  intro n
  induction n with
  | zero =>
    intro i r hn hi
    unfold ByteArray.toList.loop
    rw [if_neg (by rw [ba_size]; omega), List.drop_of_length_le (by omega)]
    simp
  | succ n ih =>
    intro i r hn hi
    have hlt : i < l.length := by omega
    unfold ByteArray.toList.loop
    rw [if_pos (by rw [ba_size]; exact hlt), ih (i + 1) _ (by omega) (by omega), List.drop_eq_getElem_cons hlt]
    have : (⟨l.toArray⟩ : ByteArray).get! i = l[i] := by simp [ByteArray.get!, hlt]
    rw [this]
    simp
theorem ba_toList (l : List UInt8) : (⟨l.toArray⟩ : ByteArray).toList = l := by
  unfold ByteArray.toList
  rw [ba_toList_loop l _ 0 [] rfl (by omega)]
  simp
theorem ba_extract (l : List UInt8) (a b : Nat) : (⟨l.toArray⟩ : ByteArray).extract a b = ⟨((l.drop a).take (b - a)).toArray⟩ := by
  apply ByteArray.ext
  rw [ByteArray.data_extract]
  apply Array.ext'
  simp [List.extract_eq_take_drop]
theorem ba_append (a b : List UInt8) : (⟨a.toArray⟩ : ByteArray) ++ ⟨b.toArray⟩ = ⟨(a ++ b).toArray⟩ := by
  apply ByteArray.ext; simp
theorem ba_get (l : List UInt8) (i : Nat) : (⟨l.toArray⟩ : ByteArray)[i]? = l[i]? := by
  by_cases h : i < l.length
  · have h' : i < (⟨l.toArray⟩ : ByteArray).size := by rw [ba_size]; exact h
    rw [getElem?_pos (⟨l.toArray⟩ : ByteArray) i h', List.getElem?_eq_getElem h]
    rfl
  · have h' : ¬ i < (⟨l.toArray⟩ : ByteArray).size := by rw [ba_size]; exact h
    rw [getElem?_neg (⟨l.toArray⟩ : ByteArray) i h', List.getElem?_eq_none (by omega)]

section
variable {E : Env} {k : List It} {f : Fr} {h : Heap} {H : List Chunk} {st : Md} [hmd : OkMd st h H] {all : Array Oper} {rest : List Oper} {d : Nat} {ty : TypeId} {pos : String} {aft : Array Edge}

theorem G.lenStr {t : TypeId} {x : Operand} {l : List UInt8} {sz by_ : Nat} {z : Value} (hx : ev f x = some (str l)) (ht : Ty E.P t .str sz by_ z) (hd : Nat.blt d E.n = true)
    (g : G E (.ops st all rest :: k) ((d, .int .i64 l.length) :: f) h H) :
    G E (.ops st all (⟨some d, .call { callee := .builtin .len, args := #[x], argTypes := #[t] }, ty, pos, aft, none⟩ :: rest) :: k) f h H := by
  refine G.opVal hd (fun _ a w ha _ => ?_) g
  have := ht.fits
  simp only [TD.fits] at this
  simp [execOp, resolve, invoke, builtin, Builtin.len_, ev_eq ha hx, underlying, this, str, goInt, ba_size]

theorem G.lenSlice {t e : TypeId} {x : Operand} {A : Option Addr} {n c : Nat} {sz by_ : Nat} {z : Value} (hx : ev f x = some (.slice A n c)) (ht : Ty E.P t (.slice e) sz by_ z) (hd : Nat.blt d E.n = true)
    (g : G E (.ops st all rest :: k) ((d, .int .i64 n) :: f) h H) :
    G E (.ops st all (⟨some d, .call { callee := .builtin .len, args := #[x], argTypes := #[t] }, ty, pos, aft, none⟩ :: rest) :: k) f h H := by
  refine G.opVal hd (fun _ a w ha _ => ?_) g
  have := ht.fits
  simp only [TD.fits] at this
  simp [execOp, resolve, invoke, builtin, Builtin.len_, ev_eq ha hx, underlying, this, goInt]

theorem G.idxStr {t : TypeId} {x i : Operand} {l : List UInt8} {kd : IntKind} {n : Int} {m : Nat} {sz by_ : Nat} {z : Value} (hx : ev f x = some (str l)) (hi : ev f i = some (.int kd n)) (ht : Ty E.P t .str sz by_ z)
    (hd : Nat.blt d E.n = true) (hm : n.toNat = m) (hb : 0 ≤ n ∧ n < l.length) (g : byteAt l m < 256 → G E (.ops st all rest :: k) ((d, .int .u8 (byteAt l m)) :: f) h H) :
    G E (.ops st all (⟨some d, .index t x i, ty, pos, aft, none⟩ :: rest) :: k) f h H := by
  subst hm
  refine G.opVal hd (fun _ a w ha _ => ?_) (g (byteAt_lt _ _))
  have := ht.fits
  simp only [TD.fits] at this
  have hlt : n.toNat < l.length := by omega
  simp only [execOp, Instr.index, asIntOf, ev_eq ha hx, ev_eq ha hi, Sem.run_bind, Sem.run_pure, Result.andThen_ok, underlying, run_program, this, str, if_pos hb.1, ba_get, List.getElem?_eq_getElem hlt]
  simp [byteAt, hlt]

def optI (f : Fr) : Option Operand → Int → Option Int
  | none, n => some n
  | some x, _ => match ev f x with
    | some (.int _ n) => some n
    | _ => none
theorem sliceBound_ok {P : Program} {w : World} {kd : IntKind} {n : Int} {y : Nat} {c : BoundsCode} (hb : 0 ≤ n ∧ n ≤ y) : (Instr.sliceBound (.int kd n) y c).run P w = .ok n.toNat w := by
  simp [Instr.sliceBound, asIntOf, hb]
theorem G.sliceStr {t : TypeId} {x : Operand} {lo hi : Option Operand} {l l' : List UInt8} {a b : Int} {sz by_ : Nat} {z : Value} (hx : ev f x = some (str l)) (hlo : optI f lo 0 = some a) (hhi : optI f hi l.length = some b)
    (ht : Ty E.P t .str sz by_ z) (hd : Nat.blt d E.n = true) {a' b' : Nat} (ha' : a.toNat = a') (hb' : b.toNat = b') (hb : 0 ≤ a ∧ a ≤ b ∧ b ≤ l.length) (hl : l' = (l.drop a').take (b' - a'))
    (g : G E (.ops st all rest :: k) ((d, str l') :: f) h H) :
    G E (.ops st all (⟨some d, .slice t x lo hi none, ty, pos, aft, none⟩ :: rest) :: k) f h H := by
  subst ha' hb' hl
  refine G.opVal hd (fun _ ac w ha _ => ?_) g
  have := ht.fits
  simp only [TD.fits] at this
  have hsz : (⟨l.toArray⟩ : ByteArray).size = l.length := ba_size l
  cases lo with
  | none =>
    simp only [optI, Option.some.injEq] at hlo
    subst hlo
    cases hi with
    | none =>
      simp only [optI, Option.some.injEq] at hhi
      subst hhi
      simp [execOp, Instr.sliceAt, Instr.slice, Instr.sliceBounds, ev_eq ha hx, underlying, this, str, ba_extract, ba_size]
    | some y =>
      simp only [optI] at hhi
      split at hhi
      · rename_i kd n hy
        simp at hhi
        subst hhi
        have := sliceBound_ok (P := E.P) (w := w) (kd := kd) (n := n) (y := l.length) (c := .sliceAlen) (by omega)
        simp [execOp, Instr.sliceAt, Instr.slice, Instr.sliceBounds, ev_eq ha hx, ev_eq ha hy, underlying, *, str, ba_extract, ba_size]
      · cases hhi
  | some u =>
    simp only [optI] at hlo
    split at hlo
    · rename_i kd0 n0 hu
      simp at hlo
      subst hlo
      cases hi with
      | none =>
        simp only [optI, Option.some.injEq] at hhi
        subst hhi
        have := sliceBound_ok (P := E.P) (w := w) (kd := kd0) (n := n0) (y := l.length) (c := .sliceB) (by omega)
        simp [execOp, Instr.sliceAt, Instr.slice, Instr.sliceBounds, ev_eq ha hx, ev_eq ha hu, underlying, *, str, ba_extract, ba_size]
      | some y =>
        simp only [optI] at hhi
        split at hhi
        · rename_i kd n hy
          simp at hhi
          subst hhi
          have h1 := sliceBound_ok (P := E.P) (w := w) (kd := kd) (n := n) (y := l.length) (c := .sliceAlen) (by omega)
          have h2 := sliceBound_ok (P := E.P) (w := w) (kd := kd0) (n := n0) (y := n.toNat) (c := .sliceB) (by omega)
          simp [execOp, Instr.sliceAt, Instr.slice, Instr.sliceBounds, ev_eq ha hx, ev_eq ha hu, ev_eq ha hy, underlying, *, str, ba_extract, ba_size]
        · cases hhi
    · cases hlo

theorem G.dropStr {t : TypeId} {x lo : Operand} {l : List UInt8} {kd : IntKind} {a : Int} {a' sz by_ : Nat} {z : Value} (hx : ev f x = some (str l)) (hlo : ev f lo = some (.int kd a))
    (ht : Ty E.P t .str sz by_ z) (hd : Nat.blt d E.n = true) (ha' : a.toNat = a') (hb : 0 ≤ a ∧ a ≤ l.length) (g : G E (.ops st all rest :: k) ((d, str (l.drop a')) :: f) h H) :
    G E (.ops st all (⟨some d, .slice t x (some lo) none none, ty, pos, aft, none⟩ :: rest) :: k) f h H :=
  G.sliceStr (a := a) (b := l.length) hx (by simp [optI, hlo]) rfl ht hd ha' (Int.toNat_natCast _) (by omega) (by rw [List.take_of_length_le]; simp) g
theorem G.takeStr {t : TypeId} {x hi : Operand} {l : List UInt8} {kd : IntKind} {b : Int} {b' sz by_ : Nat} {z : Value} (hx : ev f x = some (str l)) (hhi : ev f hi = some (.int kd b))
    (ht : Ty E.P t .str sz by_ z) (hd : Nat.blt d E.n = true) (hb' : b.toNat = b') (hb : 0 ≤ b ∧ b ≤ l.length) (g : G E (.ops st all rest :: k) ((d, str (l.take b')) :: f) h H) :
    G E (.ops st all (⟨some d, .slice t x none (some hi) none, ty, pos, aft, none⟩ :: rest) :: k) f h H :=
  G.sliceStr (a := 0) (b := b) hx rfl (by simp [optI, hhi]) ht hd rfl hb' (by omega) (by simp) g

theorem G.catStr {t t' : TypeId} {x y : Operand} {l l' : List UInt8} (hx : ev f x = some (str l)) (hy : ev f y = some (str l')) (hd : Nat.blt d E.n = true) (hb : l.length + l'.length ≤ 9223372036854775807)
    (g : G E (.ops st all rest :: k) ((d, str (l ++ l')) :: f) h H) :
    G E (.ops st all (⟨some d, .binOp .add t x y t', ty, pos, aft, none⟩ :: rest) :: k) f h H := by
  refine G.opVal hd (fun _ a w ha _ => ?_) g
  have h1 : ¬ ((((⟨l.toArray⟩ : ByteArray).size + (⟨l'.toArray⟩ : ByteArray).size : Nat) : Int) > IntKind.i64.max) := by
    rw [ba_size, ba_size]; simp only [IntKind.max, IntKind.signed, IntKind.bits]; simp; omega
  simp only [execOp, ev_eq ha hx, ev_eq ha hy, str, eqGuard, binOp, Op.stringOp]
  rw [if_neg h1]
  simp [ba_append]

theorem G.eqStr {t t' : TypeId} {x y : Operand} {l l' : List UInt8} (hx : ev f x = some (str l)) (hy : ev f y = some (str l')) (hd : Nat.blt d E.n = true)
    (g : G E (.ops st all rest :: k) ((d, .bool (decide (l = l'))) :: f) h H) :
    G E (.ops st all (⟨some d, .binOp .eql t x y t', ty, pos, aft, none⟩ :: rest) :: k) f h H := by
  refine G.opVal hd (fun _ a w ha _ => ?_) g
  have hbd : (l == l') = decide (l = l') := by by_cases he : l = l' <;> simp [he]
  simp only [execOp, ev_eq ha hx, ev_eq ha hy, str, eqGuard, binOp, Op.stringOp, ba_toList, hbd]
  simp

theorem G.neStr {t t' : TypeId} {x y : Operand} {l l' : List UInt8} (hx : ev f x = some (str l)) (hy : ev f y = some (str l')) (hd : Nat.blt d E.n = true)
    (g : G E (.ops st all rest :: k) ((d, .bool (!decide (l = l'))) :: f) h H) :
    G E (.ops st all (⟨some d, .binOp .neq t x y t', ty, pos, aft, none⟩ :: rest) :: k) f h H := by
  refine G.opVal hd (fun _ a w ha _ => ?_) g
  have hbd : (l == l') = decide (l = l') := by by_cases he : l = l' <;> simp [he]
  simp only [execOp, ev_eq ha hx, ev_eq ha hy, str, eqGuard, binOp, Op.stringOp, ba_toList, hbd]
  simp

theorem G.eqStr0 {t t' : TypeId} {x y : Operand} {l : List UInt8} (hx : ev f x = some (str l)) (hy : ev f y = some (str [])) (hd : Nat.blt d E.n = true)
    (g : G E (.ops st all rest :: k) ((d, .bool (decide (l.length = 0))) :: f) h H) :
    G E (.ops st all (⟨some d, .binOp .eql t x y t', ty, pos, aft, none⟩ :: rest) :: k) f h H := by
  refine G.eqStr hx hy hd ?_
  rw [show decide (l = []) = decide (l.length = 0) by simp]; exact g
theorem G.neStr0 {t t' : TypeId} {x y : Operand} {l : List UInt8} (hx : ev f x = some (str l)) (hy : ev f y = some (str [])) (hd : Nat.blt d E.n = true)
    (g : G E (.ops st all rest :: k) ((d, .bool (!decide (l.length = 0))) :: f) h H) :
    G E (.ops st all (⟨some d, .binOp .neq t x y t', ty, pos, aft, none⟩ :: rest) :: k) f h H := by
  refine G.neStr hx hy hd ?_
  rw [show decide (l = []) = decide (l.length = 0) by simp]; exact g

theorem run_eqGen {t t' : TypeId} {x y : Operand} {u v : Value} {r : Bool} {a : Act} {w : World} (ha : FSat E.n f a) (hx : ev f x = some u) (hy : ev f y = some v)
    (hb : binOp .eql t u v = (do pure (.bool (← Op.equal t u v)))) (hg : ∀ o1 o2, eqGuard .eql t o1 o2 u v = pure ()) (hq : (Op.equal t u v).run E.P w = .ok r w) :
    (execOp a.eval ⟨some d, .binOp .eql t x y t', ty, pos, aft, none⟩).run E.P w = .ok (.value (.bool r)) w := by
  simp only [execOp, ev_eq ha hx, ev_eq ha hy, hg, hb]
  simp [hq]
theorem run_neGen {t t' : TypeId} {x y : Operand} {u v : Value} {r : Bool} {a : Act} {w : World} (ha : FSat E.n f a) (hx : ev f x = some u) (hy : ev f y = some v)
    (hb : binOp .neq t u v = (do pure (.bool (!(← Op.equal t u v))))) (hg : ∀ o1 o2, eqGuard .neq t o1 o2 u v = pure ()) (hq : (Op.equal t u v).run E.P w = .ok r w) :
    (execOp a.eval ⟨some d, .binOp .neq t x y t', ty, pos, aft, none⟩).run E.P w = .ok (.value (.bool (!r))) w := by
  simp only [execOp, ev_eq ha hx, ev_eq ha hy, hg, hb]
  simp [hq]

theorem G.eqPtr {t t' : TypeId} {x y : Operand} {p : Option Addr} {e : TypeId} {sz by_ : Nat} {z : Value} (hx : ev f x = some (.pointer p)) (hy : ev f y = some (.pointer none)) (ht : Ty E.P t (.ptr e) sz by_ z) (hd : Nat.blt d E.n = true)
    (g : G E (.ops st all rest :: k) ((d, .bool p.isNone) :: f) h H) :
    G E (.ops st all (⟨some d, .binOp .eql t x y t', ty, pos, aft, none⟩ :: rest) :: k) f h H := by
  refine G.opVal hd (fun _ a w ha _ => ?_) g
  have := ht.fits
  simp only [TD.fits] at this
  have hq : ∀ dd, (Op.equalIn (dd + 1) t (.pointer p) (.pointer none)).run E.P w = .ok p.isNone w := fun dd => by
    cases p <;> simp [Op.equalIn, underlying, this]
  exact run_eqGen ha hx hy (by cases p <;> rfl) (fun _ _ => by cases p <;> rfl) (hq 9999)
theorem G.nePtr {t t' : TypeId} {x y : Operand} {p : Option Addr} {e : TypeId} {sz by_ : Nat} {z : Value} (hx : ev f x = some (.pointer p)) (hy : ev f y = some (.pointer none)) (ht : Ty E.P t (.ptr e) sz by_ z) (hd : Nat.blt d E.n = true)
    (g : G E (.ops st all rest :: k) ((d, .bool (!p.isNone)) :: f) h H) :
    G E (.ops st all (⟨some d, .binOp .neq t x y t', ty, pos, aft, none⟩ :: rest) :: k) f h H := by
  refine G.opVal hd (fun _ a w ha _ => ?_) g
  have := ht.fits
  simp only [TD.fits] at this
  have hq : ∀ dd, (Op.equalIn (dd + 1) t (.pointer p) (.pointer none)).run E.P w = .ok p.isNone w := fun dd => by
    cases p <;> simp [Op.equalIn, underlying, this]
  exact run_neGen ha hx hy (by cases p <;> rfl) (fun _ _ => by cases p <;> rfl) (hq 9999)
theorem G.eqBool {t t' : TypeId} {x y : Operand} {p q : Bool} {sz by_ : Nat} {z : Value} (hx : ev f x = some (.bool p)) (hy : ev f y = some (.bool q)) (ht : Ty E.P t .bool sz by_ z) (hd : Nat.blt d E.n = true)
    (g : G E (.ops st all rest :: k) ((d, .bool (p == q)) :: f) h H) :
    G E (.ops st all (⟨some d, .binOp .eql t x y t', ty, pos, aft, none⟩ :: rest) :: k) f h H := by
  refine G.opVal hd (fun _ a w ha _ => ?_) g
  have := ht.fits
  simp only [TD.fits] at this
  have hq : ∀ dd, (Op.equalIn (dd + 1) t (.bool p) (.bool q)).run E.P w = .ok (p == q) w := fun dd => by
    simp [Op.equalIn, underlying, this]
  exact run_eqGen ha hx hy rfl (fun _ _ => rfl) (hq 9999)
theorem G.neBool {t t' : TypeId} {x y : Operand} {p q : Bool} {sz by_ : Nat} {z : Value} (hx : ev f x = some (.bool p)) (hy : ev f y = some (.bool q)) (ht : Ty E.P t .bool sz by_ z) (hd : Nat.blt d E.n = true)
    (g : G E (.ops st all rest :: k) ((d, .bool (!(p == q))) :: f) h H) :
    G E (.ops st all (⟨some d, .binOp .neq t x y t', ty, pos, aft, none⟩ :: rest) :: k) f h H := by
  refine G.opVal hd (fun _ a w ha _ => ?_) g
  have := ht.fits
  simp only [TD.fits] at this
  have hq : ∀ dd, (Op.equalIn (dd + 1) t (.bool p) (.bool q)).run E.P w = .ok (p == q) w := fun dd => by
    simp [Op.equalIn, underlying, this]
  exact run_neGen ha hx hy rfl (fun _ _ => rfl) (hq 9999)

-- CALLS
def evs (f : Fr) : List Operand → Option (List Value)
  | [] => some []
  | x :: r => match ev f x, evs f r with
    | some v, some l => some (v :: l)
    | _, _ => none
theorem evs_eq {n : Nat} {a : Act} (ha : FSat n f a) : ∀ {xs : List Operand} {vs : List Value}, evs f xs = some vs → xs.map a.eval = vs
  | [], vs, hv => by simp [evs] at hv; simp [hv]
  | x :: r, vs, hv => by
    simp only [evs] at hv
    split at hv
    · rename_i v l h1 h2
      simp at hv
      subst hv
      simp [ev_eq ha h1, evs_eq ha h2]
    · cases hv

theorem callFunc_run {P : Program} {g : FuncId} {fn : Func} (hf : P.funcs[g]? = some fn) (hn : (fn.name == "runtime.NumGoroutine") = false) (hb : fn.body.isNone = false) (args : Array Value) (w : World) :
    (callFunc g args).run P w = .ok (.enter g args) w := by
  have hn' : ¬ fn.name = "runtime.NumGoroutine" := by simpa using hn
  have hb' : ¬ fn.body = none := by intro e; rw [e] at hb; cases hb
  simp [callFunc, hf, hn', hb']

theorem St.before {c : Ctx} {H1 H2 : List Chunk} {w : World} (s : St c h H w) (t : Takes H1 H H2) : St c h (H1 ++ H2) w := s.sub ⟨[], by simpa using t.perm⟩

theorem G.callGen {op : Op} {g : FuncId} {vs : List Value} {H1 H2 : List Chunk} {R : Value → Heap → List Chunk → Prop}
    (hrun : ∀ a w, FSat E.n f a → St E.c h H w → (execOp a.eval ⟨some d, op, ty, pos, aft, none⟩).run E.P w = .ok (.enter g vs.toArray) w)
    (sp : Spec E.P g vs h H1 R) (hH : Takes H1 H H2) (hd : Nat.blt d E.n = true)
    (next : ∀ v h' H', R v h' H' → Heap.le h h' → G E (.ops .seq all rest :: k) ((d, v) :: f) h' (H' ++ H2)) :
    G E (.ops .seq all (⟨some d, op, ty, pos, aft, none⟩ :: rest) :: k) f h H := by
  refine ⟨fun a w ha hw => ?_⟩
  show wpList E.P all (den E k) (⟨some d, op, ty, pos, aft, none⟩ :: rest) a w
  refine wpList_plain rfl fun K hK => ?_
  unfold Oper.wp
  rw [hrun a w ha hw, Oper.upon_enter]
  have hb := hw.before hH
  have hI : StI h H1 w := hb.toI.sub ⟨H2, List.Perm.refl _⟩
  refine (sp.run w hI).mono ?_
  rintro e w' ⟨v, h', H', rfl, hr, hst⟩
  exact hK _ _ ((next v h' H' hr hst.mono).run _ w' (ha.put d v hd) (hb.after hst))

def Callable (P : Program) (g : FuncId) : Prop := ∃ fn, P.funcs[g]? = some fn ∧ (fn.name == "runtime.NumGoroutine") = false ∧ fn.body.isNone = false

theorem G.call {g : FuncId} {xs : List Operand} {ts : Array TypeId} {vs : List Value} {H1 H2 : List Chunk} {R : Value → Heap → List Chunk → Prop}
    (hc : Callable E.P g) (hx : evs f xs = some vs) (hd : Nat.blt d E.n = true) (sp : Spec E.P g vs h H1 R) (hH : Takes H1 H H2)
    (next : ∀ v h' H', R v h' H' → Heap.le h h' → G E (.ops .seq all rest :: k) ((d, v) :: f) h' (H' ++ H2)) :
    G E (.ops .seq all (⟨some d, .call { callee := .value (.func g), args := xs.toArray, argTypes := ts }, ty, pos, aft, none⟩ :: rest) :: k) f h H := by
  obtain ⟨fn, hf, hn, hb⟩ := hc
  refine G.callGen (fun a w ha _ => ?_) sp hH hd next
  have hm := evs_eq ha hx
  simp [execOp, resolve, invoke, Deferred.ofValue, Act.eval, callFunc_run hf hn hb, hm]
end
end Go.Proofs.YtfmekdmpghhegaaDoor
namespace Go.Proofs.YtfmekdmpghhegaaDoor
set_option linter.all false
set_option maxRecDepth 4000
open Go.RowKit

theorem run_typeInfo {P : Program} {t : TypeId} {d : TD} {sz by_ : Nat} {z : Value} (ht : Ty P t d sz by_ z) (w : World) : ∃ i, (typeInfo t).run P w = .ok i w ∧ i.size = sz ∧ i.bytes = by_ ∧ i.zero = some z := by
  obtain ⟨i, hi, h1, h2, h3⟩ := ht.info
  exact ⟨i, by simp [typeInfo, hi], h1, h2, h3⟩
theorem run_sizeOf' {P : Program} {t : TypeId} {d : TD} {sz by_ : Nat} {z : Value} (ht : Ty P t d sz by_ z) (w : World) : (sizeOf t).run P w = .ok sz w := by
  obtain ⟨i, hi, h1, _⟩ := run_typeInfo ht w
  simp [Go.sizeOf, hi, h1]
theorem run_zero {P : Program} {t : TypeId} {d : TD} {sz by_ : Nat} {z : Value} (ht : Ty P t d sz by_ z) (w : World) : (zeroValue t).run P w = .ok z w := by
  obtain ⟨i, hi, _, _, h3⟩ := run_typeInfo ht w
  simp [zeroValue, hi, h3]
def TD.isAgg : TD → Bool
  | .struct _ => true
  | .array _ _ => true
  | _ => false
def TD.known : TD → Bool
  | .other => false
  | _ => true
theorem run_isAgg' {P : Program} {t : TypeId} {d : TD} {sz by_ : Nat} {z : Value} (ht : Ty P t d sz by_ z) (hk : d.known = true) (w : World) : (isAgg t).run P w = .ok d.isAgg w := by
  have := ht.fits
  cases d <;> simp only [TD.fits] at this <;> simp only [TD.known] at hk <;> try (cases hk; done)
  case struct fs => obtain ⟨fields, h1, _⟩ := structOf_some this; simp [isAgg, underlying, h1, TD.isAgg]
  case func => obtain ⟨a, b, c, h1⟩ := this; simp [isAgg, underlying, h1, TD.isAgg]
  case iface => obtain ⟨ms, h1⟩ := this; simp [isAgg, underlying, h1, TD.isAgg]
  all_goals simp [isAgg, underlying, this, TD.isAgg]

theorem imm_cell {c : Ctx} {h : Heap} {H : List Chunk} {w : World} (s : St c h H w) {a : Addr} {v : Value} (hc : Heap.cell? h a = some v) : w.cell? a = some v := by
  unfold Heap.cell? at hc
  unfold World.cell?
  cases hb : h a.block with
  | none => rw [hb] at hc; cases hc
  | some o => rw [hb] at hc; rw [s.imm _ _ hb]; exact hc

theorem blk_cell {w : World} {g : Nat} {cs : List Value} {t : TypeId} (hb : (Chunk.blk g cs t).holds w) (i : Nat) : w.cell? ⟨g, i, none⟩ = cs[i]? := by
  obtain ⟨fz, h1, _⟩ := hb
  simp [World.cell?, h1]
theorem blk_unfrozen {w : World} {g : Nat} {cs : List Value} {t : TypeId} (hb : (Chunk.blk g cs t).holds w) {i : Nat} (hi : i < cs.length) : w.frozen? ⟨g, i, none⟩ = false := by
  obtain ⟨fz, h1, h2⟩ := hb
  have := h2 i hi
  simp only [World.frozen?, h1]
  simp only [Bool.and_eq_false_iff, decide_eq_false_iff_not]
  by_cases h3 : fz.1 ≤ i
  · exact .inr fun h4 => this ⟨h3, h4⟩
  · exact .inl h3

/-- A new block. -/
theorem St.alloc {c : Ctx} {h : Heap} {H : List Chunk} {w : World} (s : St c h H w) (o : Obj) (x : Chunk) (hx : x.holds (w.alloc o)) (hk : x.key = some w.heap.size) : St c h (x :: H) (w.alloc o) := by
  have hlt : ∀ g ∈ keys H, g < w.heap.size := fun g hg => by
    obtain ⟨y, hy, hk⟩ := mem_keys.1 hg
    exact Chunk.holds_lt (s.own y hy) g hk
  have hkeys : keys (x :: H) = w.heap.size :: keys H := by simp [keys, hk]
  refine ⟨s.os, s.tape, s.output, Nat.le_trans s.size (by simp), fun b hb hK => ?_, s.mono, fun b o' hb => ?_, fun y hy => ?_, ?_, fun g hg => ?_, fun g hg => ?_, s.isub⟩
  · rw [Below.heap_alloc w o b (Nat.lt_of_lt_of_le hb s.size)]; exact s.fr b hb hK
  · have := s.imm b o' hb
    rw [Below.heap_alloc w o b (lt_of_get this)]; exact this
  · rcases List.mem_cons.1 hy with rfl | hy
    · exact hx
    · exact Chunk.holds_congr (fun g hg => Below.heap_alloc w o g (Chunk.holds_lt (s.own y hy) g hg)) (s.own y hy)
  · rw [hkeys, List.nodup_cons]
    exact ⟨fun hm => by have := hlt _ hm; omega, s.nodup⟩
  · rw [hkeys] at hg
    rcases List.mem_cons.1 hg with rfl | hg
    · cases hh : h w.heap.size with
      | none => rfl
      | some o' => exact absurd (lt_of_get (s.imm _ _ hh)) (by omega)
    · exact s.sep g hg
  · rw [hkeys] at hg
    rcases List.mem_cons.1 hg with rfl | hg
    · exact .inr s.size
    · exact s.ksub g hg

theorem St.drewN {c : Ctx} {h : Heap} {H : List Chunk} {w w' : World} (s : St c h H w) (hh : w'.heap = w.heap) (ho : w'.os = w.os) (ht : w'.tape = w.tape) (hp : w'.output = w.output) : St c h H w' :=
  ⟨ho.trans s.os, ht.trans s.tape, hp.trans s.output, by rw [hh]; exact s.size, fun b hb hK => by rw [hh]; exact s.fr b hb hK, s.mono, fun b o hb => by rw [hh]; exact s.imm b o hb,
    fun x hx => Chunk.holds_congr (fun g _ => by rw [hh]) (s.own x hx), s.nodup, s.sep, s.ksub, s.isub⟩

/-- A chunk's block is written. -/
theorem St.set {c : Ctx} {h : Heap} {H Hr : List Chunk} {x y : Chunk} {g : Nat} {w w' : World} (s : St c h H w) (t : Take x H Hr) (hk : x.key = some g) (hk' : y.key = some g) (hy : y.holds w')
    (ho : w'.os = w.os) (ht : w'.tape = w.tape) (hp : w'.output = w.output) (hs : w'.heap.size = w.heap.size) (hb : ∀ b, b ≠ g → w'.heap[b]? = w.heap[b]?) : St c h (y :: Hr) w' := by
  have s' : St c h (x :: Hr) w := s.sub ⟨[], by simpa using t.perm⟩
  have hkx : keys (x :: Hr) = g :: keys Hr := by simp [keys, hk]
  have hky : keys (y :: Hr) = g :: keys Hr := by simp [keys, hk']
  have hnd := s'.nodup
  rw [hkx, List.nodup_cons] at hnd
  have hgK : g ∈ c.K0 ∨ c.W0.heap.size ≤ g := s'.ksub g (by rw [hkx]; simp)
  refine ⟨ho.trans s.os, ht.trans s.tape, hp.trans s.output, by rw [hs]; exact s.size, fun b hb' hK => ?_, s.mono, fun b o hbo => ?_, fun z hz => ?_, ?_, fun g' hg' => ?_, fun g' hg' => ?_, s.isub⟩
  · rw [hb b (fun e => by subst e; rcases hgK with h1 | h1; exact hK h1; omega)]; exact s.fr b hb' hK
  · rw [hb b (fun e => by subst e; have := s'.sep b (by rw [hkx]; simp); rw [this] at hbo; cases hbo)]; exact s.imm b o hbo
  · rcases List.mem_cons.1 hz with rfl | hz
    · exact hy
    · refine Chunk.holds_congr (fun g' hg' => hb g' fun e => ?_) (s'.own z (List.mem_cons_of_mem _ hz))
      subst e
      exact hnd.1 (mem_keys.2 ⟨z, hz, hg'⟩)
  · rw [hky, ← hkx]; exact s'.nodup
  · rw [hky, ← hkx] at hg'; exact s'.sep g' hg'
  · rw [hky, ← hkx] at hg'; exact s'.ksub g' hg'

def cellsL : Value → List Value
  | .agg cs => cs.toList
  | v => [v]
theorem cellsL_eq (v : Value) : v.cells = (cellsL v).toArray := by cases v <;> rfl
theorem cellsL_eq' (v : Value) : v.cells.toList = cellsL v := by cases v <;> rfl

/-- The spine is laid open. -/
def normL : List Value → Option (List Value)
  | [] => some []
  | v :: l => match normL l with
    | some r => some (v :: r)
    | none => none
theorem normL_eq : ∀ {l r : List Value}, normL l = some r → l = r
  | [], r, h => by simp [normL] at h; first | exact h | exact h.symm
  | v :: l, r, h => by
    simp only [normL] at h
    split at h
    · rename_i r' hr'
      simp at h
      rw [← h, normL_eq hr']
    · cases h

def partL : List Value → Nat → Nat → Option (List Value)
  | _, _, 0 => some []
  | [], _, _ + 1 => none
  | v :: l, 0, n + 1 => match partL l 0 n with
    | some r => some (v :: r)
    | none => none
  | _ :: l, o + 1, n => partL l o n
theorem partL_eq : ∀ (cs : List Value) (o n : Nat) (r : List Value), partL cs o n = some r → r.length = n ∧ ∀ j, j < n → cs[o + j]? = r[j]?
  | cs, o, 0, r, h => by
    have : r = [] := by cases cs <;> cases o <;> (simp [partL] at h; first | exact h | exact h.symm)
    subst this
    exact ⟨rfl, fun j hj => by omega⟩
  | [], o, n + 1, r, h => by cases o <;> simp [partL] at h
  | v :: l, 0, n + 1, r, h => by
    simp only [partL] at h
    split at h
    · rename_i r' hr'
      simp at h
      subst h
      obtain ⟨h1, h2⟩ := partL_eq l 0 n r' hr'
      refine ⟨by simp [h1], fun j hj => ?_⟩
      cases j with
      | zero => rfl
      | succ j =>
        have := h2 j (by omega)
        simp only [Nat.zero_add] at this ⊢
        simpa using this
    · cases h
  | _ :: l, o + 1, n + 1, r, h => by
    simp only [partL] at h
    obtain ⟨h1, h2⟩ := partL_eq l o (n + 1) r h
    refine ⟨h1, fun j hj => ?_⟩
    rw [show o + 1 + j = (o + j) + 1 by omega]
    simpa using h2 j hj

/-- Cells from o on are replaced. -/
def putL : List Value → Nat → List Value → Option (List Value)
  | cs, _, [] => some cs
  | [], _, _ :: _ => none
  | _ :: l, 0, v :: vs => match putL l 0 vs with
    | some r => some (v :: r)
    | none => none
  | u :: l, o + 1, v :: vs => match putL l o (v :: vs) with
    | some r => some (u :: r)
    | none => none
theorem putL_eq : ∀ (cs : List Value) (o : Nat) (vs r : List Value), putL cs o vs = some r → r.length = cs.length ∧ o + vs.length ≤ max cs.length o ∧ (∀ j, j < vs.length → r[o + j]? = vs[j]?) ∧ (∀ j, j < o ∨ o + vs.length ≤ j → r[j]? = cs[j]?)
  | cs, o, [], r, h => by
    have : r = cs := by cases cs <;> cases o <;> (simp [putL] at h; first | exact h | exact h.symm)
    subst this
    exact ⟨rfl, by simp; omega, fun j hj => by simp at hj, fun j _ => rfl⟩
  | [], o, _ :: _, r, h => by cases o <;> simp [putL] at h
  | u :: l, 0, v :: vs, r, h => by
    simp only [putL] at h
    split at h
    · rename_i r' hr'
      simp at h
      subst h
      obtain ⟨h1, h2, h3, h4⟩ := putL_eq l 0 vs r' hr'
      refine ⟨by simp [h1], by simp at h2 ⊢; omega, fun j hj => ?_, fun j hj => ?_⟩
      · cases j with
        | zero => rfl
        | succ j =>
          have := h3 j (by simpa using hj)
          simp only [Nat.zero_add] at this ⊢
          simpa using this
      · cases j with
        | zero => simp at hj
        | succ j => simpa using h4 j (by simp at hj ⊢; omega)
    · cases h
  | u :: l, o + 1, v :: vs, r, h => by
    simp only [putL] at h
    split at h
    · rename_i r' hr'
      simp at h
      subst h
      obtain ⟨h1, h2, h3, h4⟩ := putL_eq l o (v :: vs) r' hr'
      refine ⟨by simp [h1], by simp at h2 ⊢; omega, fun j hj => ?_, fun j hj => ?_⟩
      · rw [show o + 1 + j = (o + j) + 1 by omega]
        simpa using h3 j hj
      · cases j with
        | zero => rfl
        | succ j => simpa using h4 j (by omega)
    · cases h

/-- Several cells of one block are stored, one by one. -/
theorem run_storeCells_blk (P : Program) (g o : Nat) (t : TypeId) : ∀ (vs : List Value) (i : Nat) (cur : List Value) (w : World) (fz : Nat × Nat), w.heap[g]? = some (.cells cur.toArray t fz) → Unfz fz cur.length → o + i + vs.length ≤ cur.length →
    (∀ v ∈ vs, v.oneCell' = true) → ∃ (w' : World) (cur' : List Value), (storeCells ⟨g, o, none⟩ vs i).run P w = .ok () w' ∧ w'.heap[g]? = some (.cells cur'.toArray t fz) ∧ cur'.length = cur.length ∧
      (∀ j, j < vs.length → cur'[o + i + j]? = vs[j]?) ∧ (∀ j, j < o + i ∨ o + i + vs.length ≤ j → cur'[j]? = cur[j]?) ∧ w'.os = w.os ∧ w'.tape = w.tape ∧ w'.output = w.output ∧ w'.heap.size = w.heap.size ∧ ∀ b, b ≠ g → w'.heap[b]? = w.heap[b]?
  | [], i, cur, w, fz, hg, _, _, _ => ⟨w, cur, by simp [storeCells], hg, rfl, fun j hj => by simp at hj, fun _ _ => rfl, rfl, rfl, rfl, rfl, fun _ _ => rfl⟩
  | v :: vs, i, cur, w, fz, hg, hu, hlen, h1 => by
    have hlt : o + i < cur.length := by simp at hlen; omega
    have hadd : (⟨g, o, none⟩ : Addr).add i = ⟨g, o + i, none⟩ := Addr.add_lit g o i
    have hc : w.cell? ⟨g, o + i, none⟩ = some cur[o + i] := by simp [World.cell?, hg, hlt]
    have hf : w.frozen? ⟨g, o + i, none⟩ = false := blk_unfrozen (cs := cur) (t := t) ⟨fz, hg, hu⟩ hlt
    have hrun : (store ((⟨g, o, none⟩ : Addr).add i) v).run P w = .ok () (w.setCell ⟨g, o + i, none⟩ v) := by
      rw [hadd, run_store P w _ v .plain (h1 v (by simp)), hc]
      simp [hf]
    have hg' : (w.setCell ⟨g, o + i, none⟩ v).heap[g]? = some (.cells (cur.set (o + i) v).toArray t fz) := by
      simp [World.setCell, Array.getElem?_modify, hg]
    obtain ⟨w', cur', r1, r2, r3, r4, r5, r6, r7, r8, r9, r10⟩ := run_storeCells_blk P g o t vs (i + 1) (cur.set (o + i) v) (w.setCell ⟨g, o + i, none⟩ v) fz hg' (by simpa using hu) (by simp at hlen ⊢; omega) (fun u hu' => h1 u (by simp [hu']))
    refine ⟨w', cur', by simp only [storeCells, Sem.run_bind, hrun, Result.andThen_ok]; exact r1, r2, by simpa using r3, fun j hj => ?_, fun j hj => ?_, r6.trans rfl, r7.trans rfl, r8.trans rfl, by rw [r9]; simp, fun b hb => (r10 b hb).trans (Below.heap_setCell w _ _ b hb)⟩
    · cases j with
      | zero =>
        have := r5 (o + i) (.inl (by omega))
        rw [Nat.add_zero, this]
        simp [hlt]
      | succ j =>
        have := r4 j (by simpa using hj)
        rw [show o + i + (j + 1) = o + (i + 1) + j by omega, this]
        simp
    · simp only [List.length_cons] at hj
      have := r5 j (by omega)
      rw [this, List.getElem?_set_ne (by omega)]

theorem list_ext_get {α : Type} {a b : List α} (hl : a.length = b.length) (h : ∀ j, j < b.length → a[j]? = b[j]?) : a = b := by
  apply List.ext_getElem? 
  intro j
  by_cases hj : j < b.length
  · exact h j hj
  · rw [List.getElem?_eq_none (by omega), List.getElem?_eq_none (by omega)]

section
variable {E : Env} {k : List It} {f : Fr} {h : Heap} {H Hr : List Chunk} {st : Md} [hmd : OkMd st h H] {all : Array Oper} {rest : List Oper} {d : Nat} {ty : TypeId} {pos : String} {aft : Array Edge}

theorem G.alloc {e : TypeId} {td : TD} {sz by_ : Nat} {z : Value} {cs : List Value} (ht : Ty E.P e td sz by_ z) (hc : normL (cellsL z) = some cs) (hd : Nat.blt d E.n = true)
    (g : ∀ g, G E (.ops .seq all rest :: k) ((d, .pointer (some ⟨g, 0, none⟩)) :: f) h (.blk g cs e :: H)) :
    G E (.ops .seq all (⟨some d, .alloc e, ty, pos, aft, none⟩ :: rest) :: k) f h H := by
  have hc := normL_eq hc
  subst hc
  refine G.opGen fun a w ha hw => ⟨.value (.pointer (some ⟨w.heap.size, 0, none⟩)), w.alloc (.cells (cellsL z).toArray e), _, h, .blk w.heap.size (cellsL z) e :: H, ?_, .inl ⟨_, rfl, ha.put d _ hd⟩, ?_, g _⟩
  · simp [execOp, Instr.alloc, run_zero ht, newVar, newRow, cellsL_eq]
  · exact hw.alloc _ _ ⟨(0, 0), heap_alloc_new w _, fun i _ => by simp⟩ rfl

theorem G.box {e : TypeId} {x : Operand} {v : Value} {cs : List Value} (hx : ev f x = some v) (hc : normL (cellsL v) = some cs) (hd : Nat.blt d E.n = true)
    (g : ∀ g, G E (.ops .seq all rest :: k) ((d, .pointer (some ⟨g, 0, none⟩)) :: f) h (.blk g cs e :: H)) :
    G E (.ops .seq all (⟨some d, .box e x, ty, pos, aft, none⟩ :: rest) :: k) f h H := by
  have hc := normL_eq hc
  subst hc
  refine G.opGen fun a w ha hw => ⟨.value (.pointer (some ⟨w.heap.size, 0, none⟩)), w.alloc (.cells (cellsL v).toArray e), _, h, .blk w.heap.size (cellsL v) e :: H, ?_, .inl ⟨_, rfl, ha.put d _ hd⟩, ?_, g _⟩
  · simp [execOp, Instr.box, ev_eq ha hx, newVar, newRow, cellsL_eq]
  · exact hw.alloc _ _ ⟨(0, 0), heap_alloc_new w _, fun i _ => by simp⟩ rfl

def aggV (b : Bool) (r : List Value) : Value := bif b then .agg r.toArray else r.headD undef

theorem run_load_at {P : Program} {t : TypeId} {td : TD} {sz by_ : Nat} {z : Value} (ht : Ty P t td sz by_ z) (hk : td.known = true) {p : Addr} {r : List Value} {w : World} (hl : r.length = sz) (hs : td.isAgg = true ∨ sz = 1)
    (hc : ∀ j v, r[j]? = some v → w.cell? (p.add j) = some v) : (loadVar t p).run P w = .ok (aggV td.isAgg r) w := by
  unfold loadVar
  simp only [Sem.run_bind, run_isAgg' ht hk, Result.andThen_ok]
  cases hb : td.isAgg with
  | true =>
    simp only [if_true]
    simp only [Sem.run_bind, run_sizeOf' ht, Result.andThen_ok, ← hl, run_loadCells_list w p r hc]
    simp [aggV]
  | false =>
    simp only [Bool.false_eq_true, if_false]
    have h1 : r.length = 1 := by rw [hl]; exact hs.resolve_left (by simp [hb])
    obtain ⟨v, rfl⟩ := List.length_eq_one_iff.1 h1
    have := hc 0 v rfl
    rw [Addr.add_zero'] at this
    simp [run_load, this, aggV]

/-- A load from an owned block, whose place is written out. -/
theorem G.loadOwn {t e : TypeId} {x : Operand} {td : TD} {sz by_ o g : Nat} {z v : Value} {cs r : List Value} (hx : ev f x = some (.pointer (some ⟨g, o, none⟩))) (ht : Ty E.P t td sz by_ z) (hk : td.known = true)
    (hH : Take (.blk g cs e) H Hr) (hr : partL cs o sz = some r) (hs : (td.isAgg || Nat.beq sz 1) = true) (hv : aggV td.isAgg r = v) (hd : Nat.blt d E.n = true)
    (n : G E (.ops st all rest :: k) ((d, v) :: f) h H) :
    G E (.ops st all (⟨some d, .load t x, ty, pos, aft, none⟩ :: rest) :: k) f h H := by
  subst hv
  refine G.opVal hd (fun _ a w ha hw => ?_) n
  obtain ⟨hl, hp⟩ := partL_eq _ _ _ _ hr
  have hb := hw.own _ hH.mem
  have hs' : td.isAgg = true ∨ sz = 1 := by
    rcases (Bool.or_eq_true_iff).1 hs with h1 | h1
    · exact .inl h1
    · exact .inr (Nat.eq_of_beq_eq_true h1)
  have := run_load_at (w := w) (p := ⟨g, o, none⟩) ht hk hl hs' (fun j v hj => by
    have hj' : j < r.length := (List.getElem?_eq_some_iff.1 hj).1
    rw [Addr.add_lit, blk_cell hb, hp j (by omega)]; exact hj)
  simp [execOp, Instr.loadAt, Instr.sureAddr, ev_eq ha hx, this]

theorem G.loadOwn1 {t e : TypeId} {x : Operand} {td : TD} {by_ o g : Nat} {z v : Value} {cs : List Value} (hx : ev f x = some (.pointer (some ⟨g, o, none⟩))) (ht : Ty E.P t td 1 by_ z) (hk : td.known = true) (ha : td.isAgg = false)
    (hH : Take (.blk g cs e) H Hr) (hr : partL cs o 1 = some [v]) (hd : Nat.blt d E.n = true) (n : G E (.ops st all rest :: k) ((d, v) :: f) h H) :
    G E (.ops st all (⟨some d, .load t x, ty, pos, aft, none⟩ :: rest) :: k) f h H :=
  G.loadOwn hx ht hk hH hr (by rw [ha]; rfl) (by rw [ha]; rfl) hd n
theorem G.loadOwnA {t e : TypeId} {x : Operand} {td : TD} {sz by_ o g : Nat} {z : Value} {cs r : List Value} (hx : ev f x = some (.pointer (some ⟨g, o, none⟩))) (ht : Ty E.P t td sz by_ z) (hk : td.known = true) (ha : td.isAgg = true)
    (hH : Take (.blk g cs e) H Hr) (hr : partL cs o sz = some r) (hd : Nat.blt d E.n = true) (n : G E (.ops st all rest :: k) ((d, .agg r.toArray) :: f) h H) :
    G E (.ops st all (⟨some d, .load t x, ty, pos, aft, none⟩ :: rest) :: k) f h H :=
  G.loadOwn hx ht hk hH hr (by rw [ha]; rfl) (by rw [ha]; rfl) hd n

theorem G.storeOwn {t e : TypeId} {x y : Operand} {td : TD} {sz by_ o g : Nat} {z v : Value} {cs vs cs' : List Value} (hx : ev f x = some (.pointer (some ⟨g, o, none⟩))) (hy : ev f y = some v) (ht : Ty E.P t td sz by_ z)
    (hH : Take (.blk g cs e) H Hr) (hv : normL (cellsL v) = some vs) (hl : (Nat.beq vs.length sz && Nat.blt 0 sz) = true) (h1 : vs.all Value.oneCell' = true) (hr : putL cs o vs = some cs')
    (n : G E (.ops .seq all rest :: k) f h (.blk g cs' e :: Hr)) :
    G E (.ops .seq all (⟨none, .store t x y, ty, pos, aft, none⟩ :: rest) :: k) f h H := by
  have hv := normL_eq hv
  subst hv
  rw [Bool.and_eq_true, Nat.blt_eq] at hl
  obtain ⟨hl, hpos⟩ := hl
  have hl := Nat.eq_of_beq_eq_true hl
  obtain ⟨p1, p2, p3, p4⟩ := putL_eq _ _ _ _ hr
  refine G.opGen fun a w ha hw => ?_
  obtain ⟨fz, hg, hu⟩ := hw.own _ hH.mem
  have hle : o + 0 + (cellsL v).length ≤ cs.length := by
    rcases Nat.lt_or_ge cs.length (o + (cellsL v).length) with h' | h'
    · exfalso
      have h0 : 0 < (cellsL v).length := by omega
      have := p3 ((cellsL v).length - 1) (by omega)
      rw [List.getElem?_eq_none (by omega), List.getElem?_eq_getElem (by omega)] at this
      cases this
    · omega
  obtain ⟨w', cur', r1, r2, r3, r4, r5, r6, r7, r8, r9, r10⟩ := run_storeCells_blk E.P g o e (cellsL v) 0 cs w fz hg hu hle (fun u hu' => by simpa using List.all_eq_true.1 h1 u hu')
  have hcs : cur' = cs' := by
    apply list_ext_get (by omega)
    intro j hj
    by_cases hjo : j < o ∨ o + (cellsL v).length ≤ j
    · rw [p4 j hjo, r5 j (by simpa using hjo)]
    · have h3 := p3 (j - o) (by omega)
      have h4 := r4 (j - o) (by omega)
      rw [show o + (j - o) = j by omega] at h3
      rw [show o + 0 + (j - o) = j by omega] at h4
      rw [h3, h4]
  subst hcs
  refine ⟨.skip, w', f, h, .blk g cur' e :: Hr, ?_, .inr ⟨rfl, ha⟩, ?_, n⟩
  · have hsz : v.cells.size = sz := by rw [cellsL_eq]; simpa using hl
    simp [execOp, Instr.storeAt, Instr.sureAddr, ev_eq ha hx, ev_eq ha hy, storeVar, run_sizeOf' ht, hsz, cellsL_eq', r1]
  · exact hw.set hH rfl rfl ⟨fz, r2, by rw [r3]; exact hu⟩ r6 r7 r8 r9 r10

def nthF : List (Nat × Nat × Nat) → Nat → Option (Nat × Nat × Nat)
  | [], _ => none
  | v :: _, 0 => some v
  | _ :: l, i + 1 => nthF l i
theorem nthF_eq : ∀ (l : List (Nat × Nat × Nat)) (i : Nat), nthF l i = l[i]?
  | [], _ => by simp [nthF]
  | _ :: _, 0 => rfl
  | _ :: l, i + 1 => by simpa [nthF] using nthF_eq l i

theorem run_fieldAt {P : Program} {s : TypeId} {fs : List (Nat × Nat × Nat)} {sz by_ i ft off fsz : Nat} {z : Value} (ht : Ty P s (.struct fs) sz by_ z) (hi : nthF fs i = some (ft, off, fsz + 1)) (p : Addr) (w : World) :
    (Instr.fieldAt s (.pointer (some p)) i).run P w = .ok (.pointer (some (p.add off))) w := by
  have := ht.fits
  simp only [TD.fits] at this
  obtain ⟨fields, h1, h2⟩ := structOf_some this
  rw [nthF_eq] at hi
  have h3 := congrArg (fun l => l[i]?) h2
  simp only [List.getElem?_map, Array.getElem?_toList, hi, Option.map_some] at h3
  cases hf : fields[i]? with
  | none => rw [hf] at h3; cases h3
  | some fl =>
    rw [hf] at h3
    simp only [Option.map_some, Option.some.injEq, Prod.mk.injEq] at h3
    obtain ⟨e1, e2, e3⟩ := h3
    cases hinf : P.info? fl.type with
    | none => rw [hinf] at e3; cases e3
    | some inf =>
      rw [hinf] at e3
      simp only [Option.map_some, Option.some.injEq] at e3
      have hne : ¬ inf.size = 0 := by omega
      simp [Instr.fieldAt, underlying, h1, hf, Instr.sureAddr, fieldPlace, Go.sizeOf, typeInfo, hinf, hne, e2]

theorem G.fieldAddr {s : TypeId} {x : Operand} {fs : List (Nat × Nat × Nat)} {sz by_ i ft off fsz g o : Nat} {z : Value} (hx : ev f x = some (.pointer (some ⟨g, o, none⟩))) (ht : Ty E.P s (.struct fs) sz by_ z)
    (hi : nthF fs i = some (ft, off, fsz + 1)) (hd : Nat.blt d E.n = true) (n : G E (.ops st all rest :: k) ((d, .pointer (some ⟨g, o + off, none⟩)) :: f) h H) :
    G E (.ops st all (⟨some d, .fieldAddr s x i, ty, pos, aft, none⟩ :: rest) :: k) f h H := by
  refine G.opVal hd (fun _ a w ha hw => ?_) n
  have := run_fieldAt ht hi ⟨g, o, none⟩ w
  rw [Addr.add_lit] at this
  simp [execOp, ev_eq ha hx, this]

theorem G.fieldAddrP {s : TypeId} {x : Operand} {fs : List (Nat × Nat × Nat)} {sz by_ i ft off fsz : Nat} {p : Addr} {z : Value} (hx : ev f x = some (.pointer (some p))) (ht : Ty E.P s (.struct fs) sz by_ z)
    (hi : nthF fs i = some (ft, off, fsz + 1)) (hd : Nat.blt d E.n = true) (n : G E (.ops st all rest :: k) ((d, .pointer (some (p.add off))) :: f) h H) :
    G E (.ops st all (⟨some d, .fieldAddr s x i, ty, pos, aft, none⟩ :: rest) :: k) f h H := by
  refine G.opVal hd (fun _ a w ha hw => ?_) n
  simp [execOp, ev_eq ha hx, run_fieldAt ht hi p w]
end
end Go.Proofs.YtfmekdmpghhegaaDoor
namespace Go.Proofs.YtfmekdmpghhegaaDoor
set_option linter.all false
set_option maxRecDepth 4000
open Go.RowKit

def bytesR (l : List UInt8) : List (List Value) := l.map fun b => [.int .u8 b.toNat]
def strsR (l : List (List UInt8)) : List (List Value) := l.map fun s => [str s]
theorem rowed_bytes (l : List UInt8) : Rowed 1 (bytesR l) := by intro r hr; simp [bytesR] at hr; obtain ⟨b, _, rfl⟩ := hr; rfl
theorem rowed_strs (l : List (List UInt8)) : Rowed 1 (strsR l) := by intro r hr; simp [strsR] at hr; obtain ⟨b, _, rfl⟩ := hr; rfl
@[simp] theorem bytesR_length (l : List UInt8) : (bytesR l).length = l.length := by simp [bytesR]
@[simp] theorem strsR_length (l : List (List UInt8)) : (strsR l).length = l.length := by simp [strsR]
theorem bytesR_append (a b : List UInt8) : bytesR (a ++ b) = bytesR a ++ bytesR b := by simp [bytesR]
theorem strsR_append (a b : List (List UInt8)) : strsR (a ++ b) = strsR a ++ strsR b := by simp [strsR]
theorem bytesR_flatten (l : List UInt8) : (bytesR l).flatten = l.map fun b => Value.int .u8 b.toNat := by
  induction l with
  | nil => rfl
  | cons b l ih => simp only [bytesR, List.map_cons, List.flatten_cons] at ih ⊢; rw [ih]; rfl
theorem flatten_length {sz : Nat} : ∀ {rows : List (List Value)}, Rowed sz rows → rows.flatten.length = rows.length * sz
  | [], _ => by simp
  | r :: l, h => by
    have h1 := h r (by simp)
    have h2 := flatten_length (rows := l) fun x hx => h x (by simp [hx])
    simp [h1, h2, Nat.succ_mul, Nat.add_comm]
theorem flatten_get {sz : Nat} : ∀ {rows : List (List Value)}, Rowed sz rows → ∀ (i : Nat) (r : List Value), rows[i]? = some r → ∀ j, j < sz → rows.flatten[i * sz + j]? = r[j]?
  | [], _, i, r, h, _, _ => by simp at h
  | q :: l, hw, 0, r, h, j, hj => by
    simp at h
    subst h
    have h1 := hw q (by simp)
    simp only [List.flatten_cons, Nat.zero_mul, Nat.zero_add]
    rw [List.getElem?_append_left (by omega)]
  | q :: l, hw, i + 1, r, h, j, hj => by
    have h1 := hw q (by simp)
    have := flatten_get (rows := l) (fun x hx => hw x (by simp [hx])) i r (by simpa using h) j hj
    simp only [List.flatten_cons]
    rw [List.getElem?_append_right (by rw [h1, Nat.succ_mul]; omega), h1, show (i + 1) * sz + j - sz = i * sz + j by rw [Nat.succ_mul]; omega]
    exact this
theorem Rowed.append {sz : Nat} {a b : List (List Value)} (h : Rowed sz a) (k : Rowed sz b) : Rowed sz (a ++ b) := by
  intro r hr
  rcases List.mem_append.1 hr with hr | hr
  · exact h r hr
  · exact k r hr

/-- What is appended. -/
def Src (P : Program) (h : Heap) (H : List Chunk) (sz : Nat) (x : Value) (rows : List (List Value)) : Prop :=
  ∀ (c : Ctx) (w : World), St c h H w → ∀ w' : World, w'.heap = w.heap → (Builtin.lenOf x).run P w' = .ok rows.length w' ∧ (Builtin.firstCells sz rows.length x).run P w' = .ok rows.flatten.toArray w'

theorem cell_heap {w w' : World} (h : w'.heap = w.heap) (a : Addr) : w'.cell? a = w.cell? a := by simp [World.cell?, h]

theorem Src.blk {P : Program} {h : Heap} {H Hr : List Chunk} {sz g n c : Nat} {e : TypeId} {cs : List Value} {rows : List (List Value)} (ht : Take (.blk g cs e) H Hr) (hr : rows.flatten = cs) (hw : Rowed sz rows) (hn : n = rows.length) :
    Src P h H sz (.slice (some ⟨g, 0, none⟩) n c) rows := by
  subst hn
  intro cx w s w' hh
  refine ⟨by simp [Builtin.lenOf], ?_⟩
  refine run_firstCells_some w' sz rows.length ⟨g, 0, none⟩ rows.length c rows.flatten (flatten_length hw) fun j v hj => ?_
  rw [cell_heap hh, Addr.add_lit, blk_cell (s.own _ ht.mem), ← hr]
  simpa using hj

/-- A slice that is only read. -/
structure HSl (h : Heap) (v : Value) (sz : Nat) (rows : List (List Value)) : Prop where
  rowed : Rowed sz rows
  form : ∃ A c, v = .slice A rows.length c ∧ rows.length ≤ c ∧ c ≤ maxLen ∧ (rows ≠ [] → ∃ ad, A = some ad ∧ ∀ j u, rows.flatten[j]? = some u → Heap.cell? h (ad.add j) = some u)
theorem HSl.mono {h h' : Heap} {v : Value} {sz : Nat} {rows : List (List Value)} (s : HSl h v sz rows) (hl : Heap.le h h') : HSl h' v sz rows := by
  obtain ⟨A, c, h1, h2, h3, h4⟩ := s.form
  refine ⟨s.rowed, A, c, h1, h2, h3, fun hne => ?_⟩
  obtain ⟨ad, h5, h6⟩ := h4 hne
  exact ⟨ad, h5, fun j u hj => Heap.cell_mono hl (h6 j u hj)⟩
theorem HSl.nil (h : Heap) (sz : Nat) : HSl h (.slice none 0 0) sz [] := ⟨fun _ hr => absurd hr (by simp), none, 0, rfl, Nat.le_refl _, Nat.zero_le _, fun hne => absurd rfl hne⟩
theorem HSl.len {h : Heap} {v : Value} {sz : Nat} {rows : List (List Value)} (s : HSl h v sz rows) : rows.length ≤ 9223372036854775807 := by
  obtain ⟨A, c, _, h2, h3, _⟩ := s.form
  simp only [maxLen] at h3; omega

theorem Src.imm {P : Program} {h : Heap} {H : List Chunk} {sz : Nat} {v : Value} {rows : List (List Value)} (s : HSl h v sz rows) : Src P h H sz v rows := by
  intro cx w st w' hh
  obtain ⟨A, c, rfl, h2, h3, h4⟩ := s.form
  refine ⟨by simp [Builtin.lenOf], ?_⟩
  by_cases hne : rows = []
  · subst hne
    cases A with
    | none => simp [Builtin.firstCells]
    | some ad => exact run_firstCells_some w' sz 0 ad 0 c [] (by simp) (fun j v hj => by simp at hj)
  · obtain ⟨ad, rfl, h6⟩ := h4 hne
    exact run_firstCells_some w' sz rows.length ad rows.length c rows.flatten (flatten_length s.rowed) fun j v hj => by
      rw [cell_heap hh]; exact imm_cell st (h6 j v hj)

theorem Src.str {P : Program} {h : Heap} {H : List Chunk} {l : List UInt8} : Src P h H 1 (str l) (bytesR l) := by
  intro cx w st w' hh
  refine ⟨by simp [Builtin.lenOf, Go.Proofs.YtfmekdmpghhegaaDoor.str, ba_size], ?_⟩
  simp only [Builtin.firstCells, Go.Proofs.YtfmekdmpghhegaaDoor.str, bytesR_length, ba_extract, bytesR_flatten]
  simp

theorem row_cells {w : World} {g n cap : Nat} {e : TypeId} {sz : Nat} {rows : List (List Value)} (hr : (Chunk.row (.slice (some ⟨g, 0, none⟩) n cap) e sz rows).holds w) :
    n = rows.length ∧ ∀ j u, rows.flatten[j]? = some u → w.cell? ⟨g, j, none⟩ = some u := by
  rcases hr.2 with ⟨h0, _⟩ | ⟨g', cap', cur, fz, hv, hb, hu, hn, hc, hs, htk⟩
  · cases h0
  · injection hv with e1 e2 e3
    injection e1 with e1
    injection e1 with e1
    subst e1 e2 e3
    refine ⟨rfl, fun j u hj => ?_⟩
    have hlt : j < rows.length * sz := by rw [← flatten_length hr.1]; exact (List.getElem?_eq_some_iff.1 hj).1
    rw [← htk, List.getElem?_take_of_lt hlt] at hj
    simp only [World.cell?, hb]
    simpa using hj
theorem row_form {w : World} {v : Value} {e : TypeId} {sz : Nat} {rows : List (List Value)} (hr : (Chunk.row v e sz rows).holds w) : ∃ A cap, v = .slice A rows.length cap ∧ rows.length ≤ maxLen ∧ (rows ≠ [] → ∃ g, A = some ⟨g, 0, none⟩) := by
  rcases hr.2 with ⟨rfl, rfl⟩ | ⟨g, cap, cur, fz, rfl, _, _, h1, h2, _⟩
  · exact ⟨none, 0, rfl, Nat.zero_le _, fun h => absurd rfl h⟩
  · exact ⟨_, cap, rfl, Nat.le_trans h1 h2, fun _ => ⟨g, rfl⟩⟩

theorem Src.row {P : Program} {h : Heap} {H Hr : List Chunk} {sz : Nat} {e : TypeId} {v : Value} {rows : List (List Value)} (ht : Take (.row v e sz rows) H Hr) : Src P h H sz v rows := by
  intro cx w st w' hh
  have hr := st.own _ ht.mem
  obtain ⟨A, cap, rfl, h1, h2⟩ := row_form hr
  refine ⟨by simp [Builtin.lenOf], ?_⟩
  by_cases hne : rows = []
  · subst hne
    cases A with
    | none => simp [Builtin.firstCells]
    | some ad => exact run_firstCells_some w' sz 0 ad 0 cap [] (by simp) (fun j v hj => by simp at hj)
  · obtain ⟨g, rfl⟩ := h2 hne
    exact run_firstCells_some w' sz rows.length _ rows.length cap rows.flatten (flatten_length hr.1) fun j v hj => by
      rw [cell_heap hh, Addr.add_lit]; simpa using (row_cells hr).2 j v hj

set_option maxHeartbeats 1000000 in
/-- The run of an append, over a row of the call's own. -/
theorem run_append_row {P : Program} {c : Ctx} {h : Heap} {H : List Chunk} {w : World} (st : St c h H w) {t t2 e ty : TypeId} {td2 : TD} {sz by_ sz1 by1 sz2 by2 : Nat} {z z1 z2 : Value} {td : TD} (ht : Ty P t (.slice e) sz1 by1 z1) (he : Ty P e td sz by_ z)
    (ht2 : Ty P t2 td2 sz2 by2 z2) (h2 : (∃ e2, td2 = .slice e2) ∨ td2 = .str) (hz : (cellsL z).length = sz) (hsz : 0 < sz)
    {v x : Value} {rows news : List (List Value)} (hr : (Chunk.row v e sz rows).holds w) (hx : Src P h H sz x news) (hnw : Rowed sz news) (h1 : ∀ r ∈ news, ∀ u ∈ r, u.oneCell' = true)
    (hb : (rows.length + news.length) * by_ ≤ 140737488355328) (h63 : rows.length + news.length ≤ 9223372036854775807) :
    ∃ v' w', (Builtin.append_ #[t, t2] ty #[v, x]).run P w = .ok v' w' ∧ (Chunk.row v' e sz (rows ++ news)).holds w' ∧ w'.os = w.os ∧ w'.tape = w.tape ∧ w'.output = w.output ∧
      ((v' = v ∧ news = [] ∧ w' = w) ∨ (∃ g, v.ownBlock = some g ∧ v'.ownBlock = some g ∧ w'.heap.size = w.heap.size ∧ ∀ b, b ≠ g → w'.heap[b]? = w.heap[b]?) ∨
       (∃ o, v'.ownBlock = some w.heap.size ∧ w'.heap = w.heap.push o)) := by
  have hu1 := ht.fits
  simp only [TD.fits] at hu1
  obtain ⟨i, hi, hi1, hi2, hi3⟩ := he.info
  subst hi1 hi2
  have hzero : ∃ u2, P.underlying t2 = some u2 ∧ ((∃ e2, u2 = .slice e2) ∨ u2 = .string) := by
    have := ht2.fits
    rcases h2 with ⟨e2, rfl⟩ | rfl <;> simp only [TD.fits] at this
    · exact ⟨_, this, .inl ⟨_, rfl⟩⟩
    · exact ⟨_, this, .inr rfl⟩
  obtain ⟨u2, hu2, hz2⟩ := hzero
  obtain ⟨hx1, hx2⟩ := hx c w st w rfl
  obtain ⟨hd1, hd2⟩ := hx c w st w.drew rfl
  have hfl := flatten_length hnw
  have hsn : ∀ u ∈ news.flatten, u.oneCell' = true := fun u hu => by
    obtain ⟨r, hr1, hr2⟩ := List.mem_flatten.1 hu
    exact h1 r hr1 u hr2
  have hrl := flatten_length hr.1
  have hrow : Rowed i.size (rows ++ news) := hr.1.append hnw
  -- the arm that grows
  have grow : ∀ (A : Option Addr) (cap : Nat), cap < rows.length + news.length → v = .slice A rows.length cap → ((Builtin.firstCells i.size rows.length v).run P w.drew = .ok rows.flatten.toArray w.drew) →
      ∃ v' w', (Builtin.append_ #[t, t2] ty #[v, x]).run P w = .ok v' w' ∧ (Chunk.row v' e i.size (rows ++ news)).holds w' ∧ w'.os = w.os ∧ w'.tape = w.tape ∧ w'.output = w.output ∧
        (∃ o, v'.ownBlock = some w.heap.size ∧ w'.heap = w.heap.push o) := by
    intro A cap hcap hv hold
    subst hv
    have hn : ¬ (rows.length + news.length ≤ cap) := by omega
    have h63' : ¬ (9223372036854775807 < ((rows.length : Int) + (news.length : Int))) := by omega
    have hgf := growslice_fits hcap hb
    have h48' : ¬ (281474976710656 < Builtin.nextslicecap (rows.length + news.length) cap * i.bytes) := by omega
    have hge := grownCap_ge w (rows.length + news.length) cap e
    have hcm : grownCap w (rows.length + news.length) cap e ≤ maxLen := grownCap_le_maxLen w (rows.length + news.length) cap e (by simp only [maxLen]; omega)
    refine ⟨.slice (some ⟨w.heap.size, 0, none⟩) (rows.length + news.length) (grownCap w (rows.length + news.length) cap e),
      w.drew.alloc (.cells (rows.flatten.toArray ++ news.flatten.toArray ++ Builtin.zeroCells z.cells (grownCap w (rows.length + news.length) cap e - (rows.length + news.length))) e), ?_, ⟨hrow, .inr ⟨w.heap.size, _, _, (0, 0), ?_, heap_alloc_new w.drew _, fun j _ => by simp, ?_, hcm, ?_, ?_⟩⟩, rfl, rfl, rfl, ⟨_, rfl, rfl⟩⟩
    · rcases hz2 with ⟨e2, rfl⟩ | rfl
      all_goals
        simp [Builtin.append_, run_underlying hu1, run_underlying hu2, sizeOf, typeInfo, zeroValue, hi, hi3, hx1, hn, h63', h48', Question.forced, hold, hd2, newRow, grownCap]
        congr 2
        apply Array.ext'
        simp [List.append_assoc]
    · simp
    · simpa using hge
    · simp only [Array.size_append, List.size_toArray, hrl, hfl, cellsL_eq, size_zeroCells, hz, ← Nat.add_mul]
      congr 1
      omega
    · simp only [Array.toList_append, List.append_assoc, List.flatten_append]
      rw [← List.append_assoc, List.take_left' (by simp [hrl, hfl, Nat.add_mul])]
  rcases hr.2 with ⟨rfl, rfl⟩ | ⟨g, cap, cur, fz, rfl, hg, hu, hnc, hcm, hcs, htk⟩
  · by_cases hm : news = []
    · subst hm
      refine ⟨.slice none 0 0, w, ?_, ⟨hrow, .inl ⟨rfl, rfl⟩⟩, rfl, rfl, rfl, .inl ⟨rfl, rfl, rfl⟩⟩
      rcases hz2 with ⟨e2, rfl⟩ | rfl
      all_goals
        simp only [List.length_nil] at hx1 hx2
        simp [Builtin.append_, run_underlying hu1, run_underlying hu2, sizeOf, typeInfo, hi, hx1, hx2]
    · have hpos : 0 < news.length := List.length_pos_iff.2 hm
      obtain ⟨v', w', r1, r2, r3, r4, r5, r6⟩ := grow none 0 (by simpa using hpos) rfl (by simp [Builtin.firstCells])
      exact ⟨v', w', r1, r2, r3, r4, r5, .inr (.inr r6)⟩
  · by_cases hroom : rows.length + news.length ≤ cap
    · have hcl : cur.toList.length = cap * i.size := by rw [Array.length_toList, hcs]
      have hfit : rows.length * i.size + 0 + news.flatten.length ≤ cur.toList.length := by
        rw [hfl, hcl, Nat.add_zero, ← Nat.add_mul]; exact Nat.mul_le_mul_right _ hroom
      obtain ⟨w', cur', r1, r2, r3, r4, r5, r6, r7, r8, r9, r10⟩ := run_storeCells_blk P g (rows.length * i.size) e news.flatten 0 cur.toList w fz (by simpa using hg) (by simpa using hu) hfit hsn
      refine ⟨.slice (some ⟨g, 0, none⟩) (rows.length + news.length) cap, w', ?_, ⟨hrow, .inr ⟨g, cap, cur'.toArray, fz, by simp, r2, by simpa [r3] using hu, by simpa using hroom, hcm, by simp [r3, hcs], ?_⟩⟩, r6, r7, r8, .inr (.inl ⟨g, rfl, rfl, r9, r10⟩)⟩
      · rcases hz2 with ⟨e2, rfl⟩ | rfl
        all_goals simp [Builtin.append_, run_underlying hu1, run_underlying hu2, sizeOf, typeInfo, hi, hx1, hx2, hroom, Addr.add_lit, r1]
      · simp only [List.flatten_append]
        have hl2 : (rows ++ news).length * i.size = rows.flatten.length + news.flatten.length := by simp [hrl, hfl, Nat.add_mul]
        rw [hl2]
        apply list_ext_get (by rw [List.length_take, List.length_append, hrl, hfl, ← Nat.add_mul]; show min _ cur'.length = _; rw [r3, hcl]; exact Nat.min_eq_left (Nat.mul_le_mul_right _ hroom))
        intro j hj
        simp only [List.length_append] at hj
        rw [List.getElem?_take_of_lt hj]
        by_cases hj2 : j < rows.flatten.length
        · rw [List.getElem?_append_left hj2, r5 j (.inl (by omega)), ← htk, List.getElem?_take_of_lt (by omega)]
        · rw [List.getElem?_append_right (by omega)]
          have := r4 (j - rows.flatten.length) (by omega)
          rw [← this]
          congr 1
          omega
    · have hold : (Builtin.firstCells i.size rows.length (.slice (some ⟨g, 0, none⟩) rows.length cap)).run P w.drew = .ok rows.flatten.toArray w.drew :=
        run_firstCells_some w.drew i.size rows.length _ rows.length cap rows.flatten hrl fun j u hj => by rw [Addr.add_lit, World.cell?_drew]; simpa using (row_cells hr).2 j u hj
      obtain ⟨v', w', r1, r2, r3, r4, r5, r6⟩ := grow _ cap (by omega) rfl hold
      exact ⟨v', w', r1, r2, r3, r4, r5, .inr (.inr r6)⟩
end Go.Proofs.YtfmekdmpghhegaaDoor
