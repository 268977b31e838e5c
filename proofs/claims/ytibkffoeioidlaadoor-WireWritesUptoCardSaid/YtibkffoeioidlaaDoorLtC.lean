/- Rules of the light walk for the operations. -/
import Derived.Test.YtibkffoeioidlaaDoorLtB
namespace Go.Proofs.YtibkffoeioidlaaDoor
set_option linter.all false
set_option maxRecDepth 4000
open Go.RowKit

inductive TD where
  | bool | int (k : IntKind) | str | ptr (e : Nat) | slice (e : Nat) | array (n e : Nat) | map (k e : Nat) | struct (fs : List (Nat × Nat × Nat)) | func | iface | other

def structOf (P : Program) (t : TypeId) : Option (List (Nat × Nat × Option Nat)) :=
  match P.underlying t with
  | some (.struct fields) => some (fields.toList.map fun f => (f.type, f.offset, (P.info? f.type).map (·.size)))
  | _ => none
theorem structOf_some {P : Program} {t : TypeId} {l : List (Nat × Nat × Option Nat)} (h : structOf P t = some l) :
    ∃ fields, P.underlying t = some (.struct fields) /\ fields.toList.map (fun f => (f.type, f.offset, (P.info? f.type).map (·.size))) = l := by
  unfold structOf at h
  split at h
  . rename_i fields hf; exact ⟨fields, hf, by simpa using h⟩
  . cases h

def TD.fits (P : Program) (t : TypeId) : TD -> Prop
  | .bool => P.underlying t = some .bool
  | .int k => P.underlying t = some (.int k)
  | .str => P.underlying t = some .string
  | .ptr e => P.underlying t = some (.pointer e)
  | .slice e => P.underlying t = some (.slice e)
  | .array n e => P.underlying t = some (.array n e)
  | .map k e => P.underlying t = some (.map k e)
  | .struct fs => structOf P t = some (fs.map fun x => (x.1, x.2.1, some x.2.2))
  | .func => ∃ a b c, P.underlying t = some (.func a b c)
  | .iface => ∃ ms, P.underlying t = some (.interface ms)
  | .other => True

structure Ty (P : Program) (t : TypeId) (d : TD) (sz bytes : Nat) (z : Value) : Prop where
  fits : d.fits P t
  info : ∃ i, P.info? t = some i /\ i.size = sz /\ i.bytes = bytes /\ i.zero = some z

structure TRow where
  d : TD
  sz : Nat
  bytes : Nat
  z : Value
def tlook : List (Nat × TRow) -> Nat -> Option TRow
  | [], _ => none
  | (j, r) :: l, i => bif Nat.beq j i then some r else tlook l i
def TRow.ok (P : Program) (p : Nat × TRow) : Prop := Ty P p.1 p.2.d p.2.sz p.2.bytes p.2.z
def allOk (P : Program) : List (Nat × TRow) -> Prop
  | [] => True
  | p :: l => p.2.d.fits P p.1 /\ (P.info? p.1).map (fun i => (i.size, i.bytes, i.zero)) = some (p.2.sz, p.2.bytes, some p.2.z) /\ allOk P l
theorem tlook_ok {P : Program} : ∀ {l : List (Nat × TRow)}, allOk P l -> ∀ {t : Nat} {d : TD} {sz bytes : Nat} {z : Value}, tlook l t = some ⟨d, sz, bytes, z⟩ -> Ty P t d sz bytes z
  | [], _, _, _, _, _, _, h => by cases h
  | (j, r) :: l, hok, t, d, sz, bytes, z, h => by
    simp only [tlook] at h
    cases hb : Nat.beq j t with
    | true =>
      rw [hb] at h
      have := Nat.eq_of_beq_eq_true hb
      subst this
      simp at h
      subst h
      obtain ⟨h1, h2, _⟩ := hok
      refine ⟨h1, ?_⟩
      cases hi : P.info? j with
      | none => rw [hi] at h2; cases h2
      | some i => rw [hi] at h2; simp at h2; exact ⟨i, rfl, h2.1, h2.2.1, h2.2.2⟩
    | false => rw [hb] at h; exact tlook_ok hok.2.2 h

def str (l : List UInt8) : Value := .string ⟨l.toArray⟩
def byteAt (l : List UInt8) (i : Nat) : Nat := (l[i]?.getD 0).toNat
theorem byteAt_lt (l : List UInt8) (i : Nat) : byteAt l i < 256 := UInt8.toNat_lt _

def nthV : List Value -> Nat -> Option Value
  | [], _ => none
  | v :: _, 0 => some v
  | _ :: l, i + 1 => nthV l i
theorem nthV_eq : ∀ (l : List Value) (i : Nat), nthV l i = l[i]?
  | [], _ => by simp [nthV]
  | _ :: _, 0 => rfl
  | _ :: l, i + 1 => by simpa [nthV] using nthV_eq l i

def binI : BinOp -> IntKind -> Int -> Int -> Option Value
  | .add, k, a, b => some (.int k (k.wrap (a + b)))
  | .sub, k, a, b => some (.int k (k.wrap (a - b)))
  | .mul, k, a, b => some (.int k (k.wrap (a * b)))
  | .eql, _, a, b => some (.bool (decide (a = b)))
  | .neq, _, a, b => some (.bool (!decide (a = b)))
  | .lss, _, a, b => some (.bool (decide (a < b)))
  | .leq, _, a, b => some (.bool (decide (a <= b)))
  | .gtr, _, a, b => some (.bool (decide (b < a)))
  | .geq, _, a, b => some (.bool (decide (b <= a)))
  | _, _, _, _ => none

def sameKind : IntKind -> IntKind -> Bool
  | .i8, .i8 | .i16, .i16 | .i32, .i32 | .i64, .i64 | .u8, .u8 | .u16, .u16 | .u32, .u32 | .u64, .u64 => true
  | _, _ => false
theorem sameKind_eq {a b : IntKind} (h : sameKind a b = true) : a = b := by cases a <;> cases b <;> first | rfl | cases h

def unV : UnOp -> Option Value -> Option Value
  | .not, some (.bool b) => some (.bool !b)
  | .neg, some (.int k a) => some (.int k (k.wrap (0 - a)))
  | _, _ => none

def opV (f : Fr) : Op -> Option Value
  | .move x => ev f x
  | .assign x => ev f x
  | .pick c a b => match ev f c with
    | some (.bool true) => ev f a
    | some (.bool false) => ev f b
    | _ => none
  | .extract t i => match ev f t with
    | some (.tuple vs) => nthV vs.toList i
    | _ => none
  | .nilCheck x => match ev f x with
    | some (.pointer (some a)) => some (.pointer (some a))
    | _ => none
  | .unOp op _ x => unV op (ev f x)
  | .binOp op _ x y _ => match ev f x, ev f y with
    | some (.int k a), some (.int k' b) => bif sameKind k k' then binI op k a b else none
    | _, _ => none
  | .makeFunc fn first captured => match first.toList, captured.toList with
    | [], [] => some (.func fn #[] #[])
    | _, _ => none
  | _ => none

section
variable {E : Env} {k : List It} {f : Fr} {h : Heap} {H : List Chunk} {st : Md} [hmd : OkMd st h H] {all : Array Oper} {rest : List Oper} {d : Nat} {ty : TypeId} {pos : String} {aft : Array Edge}

theorem opV_run {op : Op} {v : Value} (ho : opV f op = some v) {a : Act} (ha : FSat E.n f a) (w : World) :
    (execOp a.eval ⟨some d, op, ty, pos, aft, none⟩).run E.P w = .ok (.value v) w := by
  cases op <;> simp only [opV] at ho <;> try (cases ho; done)
  case move x => simp [execOp, ev_eq ha ho]
  case assign x => simp [execOp, ev_eq ha ho]
  case pick c x y =>
    split at ho
    . rename_i hc; simp [execOp, ev_eq ha hc, ev_eq ha ho, asBool]
    . rename_i hc; simp [execOp, ev_eq ha hc, ev_eq ha ho, asBool]
    . cases ho
  case extract t i =>
    split at ho
    . rename_i vs hc
      rw [nthV_eq] at ho
      have ho' : vs[i]? = some v := by simpa using ho
      simp [execOp, ev_eq ha hc, Instr.extract, ho']
    . cases ho
  case nilCheck x =>
    split at ho
    . rename_i a' hc
      simp at ho
      subst ho
      simp [execOp, ev_eq ha hc]
    . cases ho
  case unOp op t x =>
    unfold unV at ho
    split at ho
    . rename_i b hc; simp at ho; subst ho; simp [execOp, ev_eq ha hc, Op.unary]
    . rename_i b hc; simp at ho; subst ho; simp [execOp, ev_eq ha hc, Op.unary, Op.intArith]
    . cases ho
  case binOp op t x y u =>
    split at ho
    . rename_i k1 a1 k2 b1 hx hy
      cases hk : sameKind k1 k2 with
      | false => rw [hk] at ho; cases ho
      | true =>
        rw [hk] at ho
        have := sameKind_eq hk
        subst this
        simp only [cond_true] at ho
        have e1 := ev_eq ha hx
        have e2 := ev_eq ha hy
        cases op <;> simp only [binI] at ho <;> try (cases ho; done)
        all_goals
          simp only [Option.some.injEq] at ho
          subst ho
          simp [execOp, e1, e2, eqGuard, binOp, Op.intArith, Op.intCmp]
        all_goals rfl
    . cases ho
  case makeFunc fn first captured =>
    split at ho
    . rename_i h1 h2
      simp at ho
      subst ho
      have h1' : first = #[] := by simpa using h1
      have h2' : captured = #[] := by simpa using h2
      subst h1'; subst h2'
      simp [execOp, Instr.makeFunc]
    . cases ho

theorem G.op {op : Op} {v : Value} (ho : opV f op = some v) (hd : Nat.blt d E.n = true) (g : G E (.ops st all rest :: k) ((d, v) :: f) h H) :
    G E (.ops st all (⟨some d, op, ty, pos, aft, none⟩ :: rest) :: k) f h H :=
  G.opVal hd (fun _ a w ha _ => opV_run ho ha w) g

def inR : IntKind -> Int -> Prop
  | .i8, n => -128 <= n /\ n <= 127
  | .i16, n => -32768 <= n /\ n <= 32767
  | .i32, n => -2147483648 <= n /\ n <= 2147483647
  | .i64, n => -9223372036854775808 <= n /\ n <= 9223372036854775807
  | .u8, n => 0 <= n /\ n <= 255
  | .u16, n => 0 <= n /\ n <= 65535
  | .u32, n => 0 <= n /\ n <= 4294967295
  | .u64, n => 0 <= n /\ n <= 18446744073709551615
theorem wrap_in {k : IntKind} {n : Int} (h : inR k n) : k.wrap n = n := by
  cases k <;> simp only [inR] at h <;> simp only [IntKind.wrap, IntKind.bits, IntKind.signed] <;> simp <;> omega

def binA : BinOp -> Int -> Int -> Option Int
  | .add, a, b => some (a + b)
  | .sub, a, b => some (a - b)
  | .mul, a, b => some (a * b)
  | _, _, _ => none
theorem G.arith {op : BinOp} {t t' : TypeId} {x y : Operand} {kd kd' : IntKind} {a b c : Int} (hx : ev f x = some (.int kd a)) (hy : ev f y = some (.int kd' b)) (hk : sameKind kd kd' = true)
    (hc : binA op a b = some c) (hd : Nat.blt d E.n = true) (hin : inR kd c) (g : G E (.ops st all rest :: k) ((d, .int kd c) :: f) h H) :
    G E (.ops st all (⟨some d, .binOp op t x y t', ty, pos, aft, none⟩ :: rest) :: k) f h H := by
  refine G.op (v := .int kd c) ?_ hd g
  simp only [opV, hx, hy, hk, cond_true]
  cases op <;> simp only [binA] at hc <;> try (cases hc; done)
  all_goals
    simp only [Option.some.injEq] at hc
    subst hc
    simp only [binI, wrap_in hin]

theorem G.conv {s t : TypeId} {x : Operand} {kd kd' : IntKind} {a : Int} {sz by_ : Nat} {z : Value} {ks : IntKind} {ss sb : Nat} {sv : Value} (hx : ev f x = some (.int kd a)) (hs : Ty E.P s (.int ks) ss sb sv) (ht : Ty E.P t (.int kd') sz by_ z) (hd : Nat.blt d E.n = true)
    (hin : inR kd' a) (g : G E (.ops st all rest :: k) ((d, .int kd' a) :: f) h H) :
    G E (.ops st all (⟨some d, .convert s t x, ty, pos, aft, none⟩ :: rest) :: k) f h H := by
  refine G.opVal hd (fun _ a w ha _ => ?_) g
  have hu := hs.fits
  have := ht.fits
  simp only [TD.fits] at this hu
  simp [execOp, ev_eq ha hx, convert, underlying, hu, this, Conv.intToInt, wrap_in hin]
end
end Go.Proofs.YtibkffoeioidlaaDoor
