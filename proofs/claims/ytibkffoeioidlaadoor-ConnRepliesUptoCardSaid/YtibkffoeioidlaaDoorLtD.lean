/- Rules of the light walk for the operations. -/
import Derived.Test.YtibkffoeioidlaaDoorLtB
namespace Go.Proofs.YtibkffoeioidlaaDoor
set_option linter.all false
set_option maxRecDepth 4000
open Go.RowKit

inductive TD where
  | bool | int (k : IntKind) | str | ptr (e : Nat) | slice (e : Nat) | array (n e : Nat) | map (k e : Nat) | struct (fs : List (Nat × Nat × Nat)) | func | iface | other

def structOf (P : Program) (t : TypeId) : Option (List (Nat × Nat × Option Nat)) :=
  match P.underlying t with
  | some (.struct fields) => some (fields.toList.map fun f => (f.type, f.offset, (P.info? f.type).map (·.size)))
  | _ => none
theorem structOf_some {P : Program} {t : TypeId} {l : List (Nat × Nat × Option Nat)} (h : structOf P t = some l) :
    ∃ fields, P.underlying t = some (.struct fields) /\ fields.toList.map (fun f => (f.type, f.offset, (P.info? f.type).map (·.size))) = l := by
  unfold structOf at h
  split at h
  . rename_i fields hf; exact ⟨fields, hf, by simpa using h⟩
  . cases h

def TD.fits (P : Program) (t : TypeId) : TD -> Prop
  | .bool => P.underlying t = some .bool
  | .int k => P.underlying t = some (.int k)
  | .str => P.underlying t = some .string
  | .ptr e => P.underlying t = some (.pointer e)
  | .slice e => P.underlying t = some (.slice e)
  | .array n e => P.underlying t = some (.array n e)
  | .map k e => P.underlying t = some (.map k e)
  | .struct fs => structOf P t = some (fs.map fun x => (x.1, x.2.1, some x.2.2))
  | .func => ∃ a b c, P.underlying t = some (.func a b c)
  | .iface => ∃ ms, P.underlying t = some (.interface ms)
  | .other => True

structure Ty (P : Program) (t : TypeId) (d : TD) (sz bytes : Nat) (z : Value) : Prop where
  fits : d.fits P t
  info : ∃ i, P.info? t = some i /\ i.size = sz /\ i.bytes = bytes /\ i.zero = some z

structure TRow where
  d : TD
  sz : Nat
  bytes : Nat
  z : Value
def tlook : List (Nat × TRow) -> Nat -> Option TRow
  | [], _ => none
  | (j, r) :: l, i => bif Nat.beq j i then some r else tlook l i
def TRow.ok (P : Program) (p : Nat × TRow) : Prop := Ty P p.1 p.2.d p.2.sz p.2.bytes p.2.z
def allOk (P : Program) : List (Nat × TRow) -> Prop
  | [] => True
  | p :: l => p.2.d.fits P p.1 /\ (P.info? p.1).map (fun i => (i.size, i.bytes, i.zero)) = some (p.2.sz, p.2.bytes, some p.2.z) /\ allOk P l
theorem tlook_ok {P : Program} : ∀ {l : List (Nat × TRow)}, allOk P l -> ∀ {t : Nat} {d : TD} {sz bytes : Nat} {z : Value}, tlook l t = some ⟨d, sz, bytes, z⟩ -> Ty P t d sz bytes z
  | [], _, _, _, _, _, _, h => by cases h
  | (j, r) :: l, hok, t, d, sz, bytes, z, h => by
    simp only [tlook] at h
    cases hb : Nat.beq j t with
    | true =>
      rw [hb] at h
      have := Nat.eq_of_beq_eq_true hb
      subst this
      simp at h
      subst h
      obtain ⟨h1, h2, _⟩ := hok
      refine ⟨h1, ?_⟩
      cases hi : P.info? j with
      | none => rw [hi] at h2; cases h2
      | some i => rw [hi] at h2; simp at h2; exact ⟨i, rfl, h2.1, h2.2.1, h2.2.2⟩
    | false => rw [hb] at h; exact tlook_ok hok.2.2 h

def str (l : List UInt8) : Value := .string ⟨l.toArray⟩
def byteAt (l : List UInt8) (i : Nat) : Nat := (l[i]?.getD 0).toNat
theorem byteAt_lt (l : List UInt8) (i : Nat) : byteAt l i < 256 := UInt8.toNat_lt _

def nthV : List Value -> Nat -> Option Value
  | [], _ => none
  | v :: _, 0 => some v
  | _ :: l, i + 1 => nthV l i
theorem nthV_eq : ∀ (l : List Value) (i : Nat), nthV l i = l[i]?
  | [], _ => by simp [nthV]
  | _ :: _, 0 => rfl
  | _ :: l, i + 1 => by simpa [nthV] using nthV_eq l i

def binI : BinOp -> IntKind -> Int -> Int -> Option Value
  | .add, k, a, b => some (.int k (k.wrap (a + b)))
  | .sub, k, a, b => some (.int k (k.wrap (a - b)))
  | .mul, k, a, b => some (.int k (k.wrap (a * b)))
  | .eql, _, a, b => some (.bool (decide (a = b)))
  | .neq, _, a, b => some (.bool (!decide (a = b)))
  | .lss, _, a, b => some (.bool (decide (a < b)))
  | .leq, _, a, b => some (.bool (decide (a <= b)))
  | .gtr, _, a, b => some (.bool (decide (b < a)))
  | .geq, _, a, b => some (.bool (decide (b <= a)))
  | _, _, _, _ => none

def sameKind : IntKind -> IntKind -> Bool
  | .i8, .i8 | .i16, .i16 | .i32, .i32 | .i64, .i64 | .u8, .u8 | .u16, .u16 | .u32, .u32 | .u64, .u64 => true
  | _, _ => false
theorem sameKind_eq {a b : IntKind} (h : sameKind a b = true) : a = b := by cases a <;> cases b <;> first | rfl | cases h

def unV : UnOp -> Option Value -> Option Value
  | .not, some (.bool b) => some (.bool !b)
  | .neg, some (.int k a) => some (.int k (k.wrap (0 - a)))
  | _, _ => none

def opV (f : Fr) : Op -> Option Value
  | .move x => ev f x
  | .assign x => ev f x
  | .pick c a b => match ev f c with
    | some (.bool true) => ev f a
    | some (.bool false) => ev f b
    | _ => none
  | .extract t i => match ev f t with
    | some (.tuple vs) => nthV vs.toList i
    | _ => none
  | .nilCheck x => match ev f x with
    | some (.pointer (some a)) => some (.pointer (some a))
    | _ => none
  | .unOp op _ x => unV op (ev f x)
  | .binOp op _ x y _ => match ev f x, ev f y with
    | some (.int k a), some (.int k' b) => bif sameKind k k' then binI op k a b else none
    | _, _ => none
  | .makeFunc fn first captured => match first.toList, captured.toList with
    | [], [] => some (.func fn #[] #[])
    | _, _ => none
  | _ => none

section
variable {E : Env} {k : List It} {f : Fr} {h : Heap} {H : List Chunk} {st : Md} [hmd : OkMd st h H] {all : Array Oper} {rest : List Oper} {d : Nat} {ty : TypeId} {pos : String} {aft : Array Edge}

theorem opV_run {op : Op} {v : Value} (ho : opV f op = some v) {a : Act} (ha : FSat E.n f a) (w : World) :
    (execOp a.eval ⟨some d, op, ty, pos, aft, none⟩).run E.P w = .ok (.value v) w := by
  cases op <;> simp only [opV] at ho <;> try (cases ho; done)
  case move x => simp [execOp, ev_eq ha ho]
  case assign x => simp [execOp, ev_eq ha ho]
  case pick c x y =>
    split at ho
    . rename_i hc; simp [execOp, ev_eq ha hc, ev_eq ha ho, asBool]
    . rename_i hc; simp [execOp, ev_eq ha hc, ev_eq ha ho, asBool]
    . cases ho
  case extract t i =>
    split at ho
    . rename_i vs hc
      rw [nthV_eq] at ho
      have ho' : vs[i]? = some v := by simpa using ho
      simp [execOp, ev_eq ha hc, Instr.extract, ho']
    . cases ho
  case nilCheck x =>
    split at ho
    . rename_i a' hc
      simp at ho
      subst ho
      simp [execOp, ev_eq ha hc]
    . cases ho
  case unOp op t x =>
    unfold unV at ho
    split at ho
    . rename_i b hc; simp at ho; subst ho; simp [execOp, ev_eq ha hc, Op.unary]
    . rename_i b hc; simp at ho; subst ho; simp [execOp, ev_eq ha hc, Op.unary, Op.intArith]
    . cases ho
  case binOp op t x y u =>
    split at ho
    . rename_i k1 a1 k2 b1 hx hy
      cases hk : sameKind k1 k2 with
      | false => rw [hk] at ho; cases ho
      | true =>
        rw [hk] at ho
        have := sameKind_eq hk
        subst this
        simp only [cond_true] at ho
        have e1 := ev_eq ha hx
        have e2 := ev_eq ha hy
        cases op <;> simp only [binI] at ho <;> try (cases ho; done)
        all_goals
          simp only [Option.some.injEq] at ho
          subst ho
          simp [execOp, e1, e2, eqGuard, binOp, Op.intArith, Op.intCmp]
        all_goals rfl
    . cases ho
  case makeFunc fn first captured =>
    split at ho
    . rename_i h1 h2
      simp at ho
      subst ho
      have h1' : first = #[] := by simpa using h1
      have h2' : captured = #[] := by simpa using h2
      subst h1'; subst h2'
      simp [execOp, Instr.makeFunc]
    . cases ho

theorem G.op {op : Op} {v : Value} (ho : opV f op = some v) (hd : Nat.blt d E.n = true) (g : G E (.ops st all rest :: k) ((d, v) :: f) h H) :
    G E (.ops st all (⟨some d, op, ty, pos, aft, none⟩ :: rest) :: k) f h H :=
  G.opVal hd (fun _ a w ha _ => opV_run ho ha w) g

def inR : IntKind -> Int -> Prop
  | .i8, n => -128 <= n /\ n <= 127
  | .i16, n => -32768 <= n /\ n <= 32767
  | .i32, n => -2147483648 <= n /\ n <= 2147483647
  | .i64, n => -9223372036854775808 <= n /\ n <= 9223372036854775807
  | .u8, n => 0 <= n /\ n <= 255
  | .u16, n => 0 <= n /\ n <= 65535
  | .u32, n => 0 <= n /\ n <= 4294967295
  | .u64, n => 0 <= n /\ n <= 18446744073709551615
theorem wrap_in {k : IntKind} {n : Int} (h : inR k n) : k.wrap n = n := by
  cases k <;> simp only [inR] at h <;> simp only [IntKind.wrap, IntKind.bits, IntKind.signed] <;> simp <;> omega

def binA : BinOp -> Int -> Int -> Option Int
  | .add, a, b => some (a + b)
  | .sub, a, b => some (a - b)
  | .mul, a, b => some (a * b)
  | _, _, _ => none
theorem G.arith {op : BinOp} {t t' : TypeId} {x y : Operand} {kd kd' : IntKind} {a b c : Int} (hx : ev f x = some (.int kd a)) (hy : ev f y = some (.int kd' b)) (hk : sameKind kd kd' = true)
    (hc : binA op a b = some c) (hd : Nat.blt d E.n = true) (hin : inR kd c) (g : G E (.ops st all rest :: k) ((d, .int kd c) :: f) h H) :
    G E (.ops st all (⟨some d, .binOp op t x y t', ty, pos, aft, none⟩ :: rest) :: k) f h H := by
  refine G.op (v := .int kd c) ?_ hd g
  simp only [opV, hx, hy, hk, cond_true]
  cases op <;> simp only [binA] at hc <;> try (cases hc; done)
  all_goals
    simp only [Option.some.injEq] at hc
    subst hc
    simp only [binI, wrap_in hin]

theorem G.conv {s t : TypeId} {x : Operand} {kd kd' : IntKind} {a : Int} {sz by_ : Nat} {z : Value} {ks : IntKind} {ss sb : Nat} {sv : Value} (hx : ev f x = some (.int kd a)) (hs : Ty E.P s (.int ks) ss sb sv) (ht : Ty E.P t (.int kd') sz by_ z) (hd : Nat.blt d E.n = true)
    (hin : inR kd' a) (g : G E (.ops st all rest :: k) ((d, .int kd' a) :: f) h H) :
    G E (.ops st all (⟨some d, .convert s t x, ty, pos, aft, none⟩ :: rest) :: k) f h H := by
  refine G.opVal hd (fun _ a w ha _ => ?_) g
  have hu := hs.fits
  have := ht.fits
  simp only [TD.fits] at this hu
  simp [execOp, ev_eq ha hx, convert, underlying, hu, this, Conv.intToInt, wrap_in hin]
end
end Go.Proofs.YtibkffoeioidlaaDoor
namespace Go.Proofs.YtibkffoeioidlaaDoor
set_option linter.all false
set_option maxRecDepth 4000
open Go.RowKit

theorem str_inj {a b : List UInt8} : str a = str b ↔ a = b := by
  constructor
  . intro h; unfold str at h; injection h with h; injection h with h; simpa using h
  . rintro rfl; rfl

theorem ba_size (l : List UInt8) : (⟨l.toArray⟩ : ByteArray).size = l.length := by simp [ByteArray.size]
theorem ba_toList_loop (l : List UInt8) : ∀ (n i : Nat) (r : List UInt8), l.length - i = n -> i <= l.length -> ByteArray.toList.loop ⟨l.toArray⟩ i r = r.reverse ++ l.drop i := by
  intro n
  induction n with
  | zero =>
    intro i r hn hi
    unfold ByteArray.toList.loop
    rw [if_neg (by rw [ba_size]; omega), List.drop_of_length_le (by omega)]
    simp
  | succ n ih =>
    intro i r hn hi
    have hlt : i < l.length := by omega
    unfold ByteArray.toList.loop
    rw [if_pos (by rw [ba_size]; exact hlt), ih (i + 1) _ (by omega) (by omega), List.drop_eq_getElem_cons hlt]
    have : (⟨l.toArray⟩ : ByteArray).get! i = l[i] := by simp [ByteArray.get!, hlt]
    rw [this]
    simp
theorem ba_toList (l : List UInt8) : (⟨l.toArray⟩ : ByteArray).toList = l := by
  unfold ByteArray.toList
  rw [ba_toList_loop l _ 0 [] rfl (by omega)]
  simp
theorem ba_extract (l : List UInt8) (a b : Nat) : (⟨l.toArray⟩ : ByteArray).extract a b = ⟨((l.drop a).take (b - a)).toArray⟩ := by
  apply ByteArray.ext
  rw [ByteArray.data_extract]
  apply Array.ext'
  simp [List.extract_eq_take_drop]
theorem ba_append (a b : List UInt8) : (⟨a.toArray⟩ : ByteArray) ++ ⟨b.toArray⟩ = ⟨(a ++ b).toArray⟩ := by
  apply ByteArray.ext; simp
theorem ba_get (l : List UInt8) (i : Nat) : (⟨l.toArray⟩ : ByteArray)[i]? = l[i]? := by
  by_cases h : i < l.length
  . have h' : i < (⟨l.toArray⟩ : ByteArray).size := by rw [ba_size]; exact h
    rw [getElem?_pos (⟨l.toArray⟩ : ByteArray) i h', List.getElem?_eq_getElem h]
    rfl
  . have h' : ¬ i < (⟨l.toArray⟩ : ByteArray).size := by rw [ba_size]; exact h
    rw [getElem?_neg (⟨l.toArray⟩ : ByteArray) i h', List.getElem?_eq_none (by omega)]

section
variable {E : Env} {k : List It} {f : Fr} {h : Heap} {H : List Chunk} {st : Md} [hmd : OkMd st h H] {all : Array Oper} {rest : List Oper} {d : Nat} {ty : TypeId} {pos : String} {aft : Array Edge}

theorem G.lenStr {t : TypeId} {x : Operand} {l : List UInt8} {sz by_ : Nat} {z : Value} (hx : ev f x = some (str l)) (ht : Ty E.P t .str sz by_ z) (hd : Nat.blt d E.n = true)
    (g : G E (.ops st all rest :: k) ((d, .int .i64 l.length) :: f) h H) :
    G E (.ops st all (⟨some d, .call { callee := .builtin .len, args := #[x], argTypes := #[t] }, ty, pos, aft, none⟩ :: rest) :: k) f h H := by
  refine G.opVal hd (fun _ a w ha _ => ?_) g
  have := ht.fits
  simp only [TD.fits] at this
  simp [execOp, resolve, invoke, builtin, Builtin.len_, ev_eq ha hx, underlying, this, str, goInt, ba_size]

theorem G.lenSlice {t e : TypeId} {x : Operand} {A : Option Addr} {n c : Nat} {sz by_ : Nat} {z : Value} (hx : ev f x = some (.slice A n c)) (ht : Ty E.P t (.slice e) sz by_ z) (hd : Nat.blt d E.n = true)
    (g : G E (.ops st all rest :: k) ((d, .int .i64 n) :: f) h H) :
    G E (.ops st all (⟨some d, .call { callee := .builtin .len, args := #[x], argTypes := #[t] }, ty, pos, aft, none⟩ :: rest) :: k) f h H := by
  refine G.opVal hd (fun _ a w ha _ => ?_) g
  have := ht.fits
  simp only [TD.fits] at this
  simp [execOp, resolve, invoke, builtin, Builtin.len_, ev_eq ha hx, underlying, this, goInt]

theorem G.idxStr {t : TypeId} {x i : Operand} {l : List UInt8} {kd : IntKind} {n : Int} {m : Nat} {sz by_ : Nat} {z : Value} (hx : ev f x = some (str l)) (hi : ev f i = some (.int kd n)) (ht : Ty E.P t .str sz by_ z)
    (hd : Nat.blt d E.n = true) (hm : n.toNat = m) (hb : 0 <= n /\ n < l.length) (g : byteAt l m < 256 -> G E (.ops st all rest :: k) ((d, .int .u8 (byteAt l m)) :: f) h H) :
    G E (.ops st all (⟨some d, .index t x i, ty, pos, aft, none⟩ :: rest) :: k) f h H := by
  subst hm
  refine G.opVal hd (fun _ a w ha _ => ?_) (g (byteAt_lt _ _))
  have := ht.fits
  simp only [TD.fits] at this
  have hlt : n.toNat < l.length := by omega
  simp only [execOp, Instr.index, asIntOf, ev_eq ha hx, ev_eq ha hi, Sem.run_bind, Sem.run_pure, Result.andThen_ok, underlying, run_program, this, str, if_pos hb.1, ba_get, List.getElem?_eq_getElem hlt]
  simp [byteAt, hlt]

def optI (f : Fr) : Option Operand -> Int -> Option Int
  | none, n => some n
  | some x, _ => match ev f x with
    | some (.int _ n) => some n
    | _ => none
theorem sliceBound_ok {P : Program} {w : World} {kd : IntKind} {n : Int} {y : Nat} {c : BoundsCode} (hb : 0 <= n /\ n <= y) : (Instr.sliceBound (.int kd n) y c).run P w = .ok n.toNat w := by
  simp [Instr.sliceBound, asIntOf, hb]
theorem G.sliceStr {t : TypeId} {x : Operand} {lo hi : Option Operand} {l l' : List UInt8} {a b : Int} {sz by_ : Nat} {z : Value} (hx : ev f x = some (str l)) (hlo : optI f lo 0 = some a) (hhi : optI f hi l.length = some b)
    (ht : Ty E.P t .str sz by_ z) (hd : Nat.blt d E.n = true) {a' b' : Nat} (ha' : a.toNat = a') (hb' : b.toNat = b') (hb : 0 <= a /\ a <= b /\ b <= l.length) (hl : l' = (l.drop a').take (b' - a'))
    (g : G E (.ops st all rest :: k) ((d, str l') :: f) h H) :
    G E (.ops st all (⟨some d, .slice t x lo hi none, ty, pos, aft, none⟩ :: rest) :: k) f h H := by
  subst ha' hb' hl
  refine G.opVal hd (fun _ ac w ha _ => ?_) g
  have := ht.fits
  simp only [TD.fits] at this
  have hsz : (⟨l.toArray⟩ : ByteArray).size = l.length := ba_size l
  cases lo with
  | none =>
    simp only [optI, Option.some.injEq] at hlo
    subst hlo
    cases hi with
    | none =>
      simp only [optI, Option.some.injEq] at hhi
      subst hhi
      simp [execOp, Instr.sliceAt, Instr.slice, Instr.sliceBounds, ev_eq ha hx, underlying, this, str, ba_extract, ba_size]
    | some y =>
      simp only [optI] at hhi
      split at hhi
      . rename_i kd n hy
        simp at hhi
        subst hhi
        have := sliceBound_ok (P := E.P) (w := w) (kd := kd) (n := n) (y := l.length) (c := .sliceAlen) (by omega)
        simp [execOp, Instr.sliceAt, Instr.slice, Instr.sliceBounds, ev_eq ha hx, ev_eq ha hy, underlying, *, str, ba_extract, ba_size]
      . cases hhi
  | some u =>
    simp only [optI] at hlo
    split at hlo
    . rename_i kd0 n0 hu
      simp at hlo
      subst hlo
      cases hi with
      | none =>
        simp only [optI, Option.some.injEq] at hhi
        subst hhi
        have := sliceBound_ok (P := E.P) (w := w) (kd := kd0) (n := n0) (y := l.length) (c := .sliceB) (by omega)
        simp [execOp, Instr.sliceAt, Instr.slice, Instr.sliceBounds, ev_eq ha hx, ev_eq ha hu, underlying, *, str, ba_extract, ba_size]
      | some y =>
        simp only [optI] at hhi
        split at hhi
        . rename_i kd n hy
          simp at hhi
          subst hhi
          have h1 := sliceBound_ok (P := E.P) (w := w) (kd := kd) (n := n) (y := l.length) (c := .sliceAlen) (by omega)
          have h2 := sliceBound_ok (P := E.P) (w := w) (kd := kd0) (n := n0) (y := n.toNat) (c := .sliceB) (by omega)
          simp [execOp, Instr.sliceAt, Instr.slice, Instr.sliceBounds, ev_eq ha hx, ev_eq ha hu, ev_eq ha hy, underlying, *, str, ba_extract, ba_size]
        . cases hhi
    . cases hlo

theorem G.dropStr {t : TypeId} {x lo : Operand} {l : List UInt8} {kd : IntKind} {a : Int} {a' sz by_ : Nat} {z : Value} (hx : ev f x = some (str l)) (hlo : ev f lo = some (.int kd a))
    (ht : Ty E.P t .str sz by_ z) (hd : Nat.blt d E.n = true) (ha' : a.toNat = a') (hb : 0 <= a /\ a <= l.length) (g : G E (.ops st all rest :: k) ((d, str (l.drop a')) :: f) h H) :
    G E (.ops st all (⟨some d, .slice t x (some lo) none none, ty, pos, aft, none⟩ :: rest) :: k) f h H :=
  G.sliceStr (a := a) (b := l.length) hx (by simp [optI, hlo]) rfl ht hd ha' (Int.toNat_natCast _) (by omega) (by rw [List.take_of_length_le]; simp) g
theorem G.takeStr {t : TypeId} {x hi : Operand} {l : List UInt8} {kd : IntKind} {b : Int} {b' sz by_ : Nat} {z : Value} (hx : ev f x = some (str l)) (hhi : ev f hi = some (.int kd b))
    (ht : Ty E.P t .str sz by_ z) (hd : Nat.blt d E.n = true) (hb' : b.toNat = b') (hb : 0 <= b /\ b <= l.length) (g : G E (.ops st all rest :: k) ((d, str (l.take b')) :: f) h H) :
    G E (.ops st all (⟨some d, .slice t x none (some hi) none, ty, pos, aft, none⟩ :: rest) :: k) f h H :=
  G.sliceStr (a := 0) (b := b) hx rfl (by simp [optI, hhi]) ht hd rfl hb' (by omega) (by simp) g

theorem G.catStr {t t' : TypeId} {x y : Operand} {l l' : List UInt8} (hx : ev f x = some (str l)) (hy : ev f y = some (str l')) (hd : Nat.blt d E.n = true) (hb : l.length + l'.length <= 9223372036854775807)
    (g : G E (.ops st all rest :: k) ((d, str (l ++ l')) :: f) h H) :
    G E (.ops st all (⟨some d, .binOp .add t x y t', ty, pos, aft, none⟩ :: rest) :: k) f h H := by
  refine G.opVal hd (fun _ a w ha _ => ?_) g
  have h1 : ¬ ((((⟨l.toArray⟩ : ByteArray).size + (⟨l'.toArray⟩ : ByteArray).size : Nat) : Int) > IntKind.i64.max) := by
    rw [ba_size, ba_size]; simp only [IntKind.max, IntKind.signed, IntKind.bits]; simp; omega
  simp only [execOp, ev_eq ha hx, ev_eq ha hy, str, eqGuard, binOp, Op.stringOp]
  rw [if_neg h1]
  simp [ba_append]

theorem G.eqStr {t t' : TypeId} {x y : Operand} {l l' : List UInt8} (hx : ev f x = some (str l)) (hy : ev f y = some (str l')) (hd : Nat.blt d E.n = true)
    (g : G E (.ops st all rest :: k) ((d, .bool (decide (l = l'))) :: f) h H) :
    G E (.ops st all (⟨some d, .binOp .eql t x y t', ty, pos, aft, none⟩ :: rest) :: k) f h H := by
  refine G.opVal hd (fun _ a w ha _ => ?_) g
  have hbd : (l == l') = decide (l = l') := by by_cases he : l = l' <;> simp [he]
  simp only [execOp, ev_eq ha hx, ev_eq ha hy, str, eqGuard, binOp, Op.stringOp, ba_toList, hbd]
  simp

theorem G.neStr {t t' : TypeId} {x y : Operand} {l l' : List UInt8} (hx : ev f x = some (str l)) (hy : ev f y = some (str l')) (hd : Nat.blt d E.n = true)
    (g : G E (.ops st all rest :: k) ((d, .bool (!decide (l = l'))) :: f) h H) :
    G E (.ops st all (⟨some d, .binOp .neq t x y t', ty, pos, aft, none⟩ :: rest) :: k) f h H := by
  refine G.opVal hd (fun _ a w ha _ => ?_) g
  have hbd : (l == l') = decide (l = l') := by by_cases he : l = l' <;> simp [he]
  simp only [execOp, ev_eq ha hx, ev_eq ha hy, str, eqGuard, binOp, Op.stringOp, ba_toList, hbd]
  simp

theorem G.eqStr0 {t t' : TypeId} {x y : Operand} {l : List UInt8} (hx : ev f x = some (str l)) (hy : ev f y = some (str [])) (hd : Nat.blt d E.n = true)
    (g : G E (.ops st all rest :: k) ((d, .bool (decide (l.length = 0))) :: f) h H) :
    G E (.ops st all (⟨some d, .binOp .eql t x y t', ty, pos, aft, none⟩ :: rest) :: k) f h H := by
  refine G.eqStr hx hy hd ?_
  rw [show decide (l = []) = decide (l.length = 0) by simp]; exact g
theorem G.neStr0 {t t' : TypeId} {x y : Operand} {l : List UInt8} (hx : ev f x = some (str l)) (hy : ev f y = some (str [])) (hd : Nat.blt d E.n = true)
    (g : G E (.ops st all rest :: k) ((d, .bool (!decide (l.length = 0))) :: f) h H) :
    G E (.ops st all (⟨some d, .binOp .neq t x y t', ty, pos, aft, none⟩ :: rest) :: k) f h H := by
  refine G.neStr hx hy hd ?_
  rw [show decide (l = []) = decide (l.length = 0) by simp]; exact g

theorem run_eqGen {t t' : TypeId} {x y : Operand} {u v : Value} {r : Bool} {a : Act} {w : World} (ha : FSat E.n f a) (hx : ev f x = some u) (hy : ev f y = some v)
    (hb : binOp .eql t u v = (do pure (.bool (← Op.equal t u v)))) (hg : ∀ o1 o2, eqGuard .eql t o1 o2 u v = pure ()) (hq : (Op.equal t u v).run E.P w = .ok r w) :
    (execOp a.eval ⟨some d, .binOp .eql t x y t', ty, pos, aft, none⟩).run E.P w = .ok (.value (.bool r)) w := by
  simp only [execOp, ev_eq ha hx, ev_eq ha hy, hg, hb]
  simp [hq]
theorem G.eqPtr {t t' : TypeId} {x y : Operand} {p : Option Addr} {e : TypeId} {sz by_ : Nat} {z : Value} (hx : ev f x = some (.pointer p)) (hy : ev f y = some (.pointer none)) (ht : Ty E.P t (.ptr e) sz by_ z) (hd : Nat.blt d E.n = true)
    (g : G E (.ops st all rest :: k) ((d, .bool p.isNone) :: f) h H) :
    G E (.ops st all (⟨some d, .binOp .eql t x y t', ty, pos, aft, none⟩ :: rest) :: k) f h H := by
  refine G.opVal hd (fun _ a w ha _ => ?_) g
  have := ht.fits
  simp only [TD.fits] at this
  have hq : ∀ dd, (Op.equalIn (dd + 1) t (.pointer p) (.pointer none)).run E.P w = .ok p.isNone w := fun dd => by
    cases p <;> simp [Op.equalIn, underlying, this]
  exact run_eqGen ha hx hy (by cases p <;> rfl) (fun _ _ => by cases p <;> rfl) (hq 9999)
theorem G.eqBool {t t' : TypeId} {x y : Operand} {p q : Bool} {sz by_ : Nat} {z : Value} (hx : ev f x = some (.bool p)) (hy : ev f y = some (.bool q)) (ht : Ty E.P t .bool sz by_ z) (hd : Nat.blt d E.n = true)
    (g : G E (.ops st all rest :: k) ((d, .bool (p == q)) :: f) h H) :
    G E (.ops st all (⟨some d, .binOp .eql t x y t', ty, pos, aft, none⟩ :: rest) :: k) f h H := by
  refine G.opVal hd (fun _ a w ha _ => ?_) g
  have := ht.fits
  simp only [TD.fits] at this
  have hq : ∀ dd, (Op.equalIn (dd + 1) t (.bool p) (.bool q)).run E.P w = .ok (p == q) w := fun dd => by
    simp [Op.equalIn, underlying, this]
  exact run_eqGen ha hx hy rfl (fun _ _ => rfl) (hq 9999)
def evs (f : Fr) : List Operand -> Option (List Value)
  | [] => some []
  | x :: r => match ev f x, evs f r with
    | some v, some l => some (v :: l)
    | _, _ => none
theorem evs_eq {n : Nat} {a : Act} (ha : FSat n f a) : ∀ {xs : List Operand} {vs : List Value}, evs f xs = some vs -> xs.map a.eval = vs
  | [], vs, hv => by simp [evs] at hv; simp [hv]
  | x :: r, vs, hv => by
    simp only [evs] at hv
    split at hv
    . rename_i v l h1 h2
      simp at hv
      subst hv
      simp [ev_eq ha h1, evs_eq ha h2]
    . cases hv

theorem callFunc_run {P : Program} {g : FuncId} {fn : Func} (hf : P.funcs[g]? = some fn) (hn : (fn.name == "runtime.NumGoroutine") = false) (hb : fn.body.isNone = false) (args : Array Value) (w : World) :
    (callFunc g args).run P w = .ok (.enter g args) w := by
  have hn' : ¬ fn.name = "runtime.NumGoroutine" := by simpa using hn
  have hb' : ¬ fn.body = none := by intro e; rw [e] at hb; cases hb
  simp [callFunc, hf, hn', hb']

theorem St.before {c : Ctx} {H1 H2 : List Chunk} {w : World} (s : St c h H w) (t : Takes H1 H H2) : St c h (H1 ++ H2) w := s.sub ⟨[], by simpa using t.perm⟩

theorem G.callGen {op : Op} {g : FuncId} {vs : List Value} {H1 H2 : List Chunk} {R : Value -> Heap -> List Chunk -> Prop}
    (hrun : ∀ a w, FSat E.n f a -> St E.c h H w -> (execOp a.eval ⟨some d, op, ty, pos, aft, none⟩).run E.P w = .ok (.enter g vs.toArray) w)
    (sp : Spec E.P g vs h H1 R) (hH : Takes H1 H H2) (hd : Nat.blt d E.n = true)
    (next : ∀ v h' H', R v h' H' -> Heap.le h h' -> G E (.ops .seq all rest :: k) ((d, v) :: f) h' (H' ++ H2)) :
    G E (.ops .seq all (⟨some d, op, ty, pos, aft, none⟩ :: rest) :: k) f h H := by
  refine ⟨fun a w ha hw => ?_⟩
  show wpList E.P all (den E k) (⟨some d, op, ty, pos, aft, none⟩ :: rest) a w
  refine wpList_plain rfl fun K hK => ?_
  unfold Oper.wp
  rw [hrun a w ha hw, Oper.upon_enter]
  have hb := hw.before hH
  have hI : StI h H1 w := hb.toI.sub ⟨H2, List.Perm.refl _⟩
  refine (sp.run w hI).mono ?_
  rintro e w' ⟨v, h', H', rfl, hr, hst⟩
  exact hK _ _ ((next v h' H' hr hst.mono).run _ w' (ha.put d v hd) (hb.after hst))

def Callable (P : Program) (g : FuncId) : Prop := ∃ fn, P.funcs[g]? = some fn /\ (fn.name == "runtime.NumGoroutine") = false /\ fn.body.isNone = false

theorem G.call {g : FuncId} {xs : List Operand} {ts : Array TypeId} {vs : List Value} {H1 H2 : List Chunk} {R : Value -> Heap -> List Chunk -> Prop}
    (hc : Callable E.P g) (hx : evs f xs = some vs) (hd : Nat.blt d E.n = true) (sp : Spec E.P g vs h H1 R) (hH : Takes H1 H H2)
    (next : ∀ v h' H', R v h' H' -> Heap.le h h' -> G E (.ops .seq all rest :: k) ((d, v) :: f) h' (H' ++ H2)) :
    G E (.ops .seq all (⟨some d, .call { callee := .value (.func g), args := xs.toArray, argTypes := ts }, ty, pos, aft, none⟩ :: rest) :: k) f h H := by
  obtain ⟨fn, hf, hn, hb⟩ := hc
  refine G.callGen (fun a w ha _ => ?_) sp hH hd next
  have hm := evs_eq ha hx
  simp [execOp, resolve, invoke, Deferred.ofValue, Act.eval, callFunc_run hf hn hb, hm]
end
end Go.Proofs.YtibkffoeioidlaaDoor
