/- Rules of the light walk: shifts, bits, the end with results in memory. -/
import Derived.Test.YtibkffoeioidlaaDoorLtI
namespace Go.Proofs.YtibkffoeioidlaaDoor
set_option linter.all false
set_option maxRecDepth 4000
open Go.RowKit

section
variable {E : Env} {k : List It} {f : Fr} {h : Heap} {H Hr : List Chunk} {st : Md} [hmd : OkMd st h H] {all : Array Oper} {rest : List Oper} {d : Nat} {ty : TypeId} {pos : String} {aft : Array Edge}

theorem G.shl {t t' : TypeId} {x y : Operand} {kd ky : IntKind} {a n c : Int} {m : Nat} (hx : ev f x = some (.int kd a)) (hy : ev f y = some (.int ky n)) (hn : n.toNat = m) (hd : Nat.blt d E.n = true) (h0 : 0 <= n /\ m <= kd.bits) (hc : a * 2 ^ m = c) (hin : inR kd c)
    (g : G E (.ops st all rest :: k) ((d, .int kd c) :: f) h H) :
    G E (.ops st all (⟨some d, .binOp .shl t x y t', ty, pos, aft, none⟩ :: rest) :: k) f h H := by
  subst hn hc
  refine G.opVal hd (fun _ ac w ha _ => ?_) g
  have hmin : min n.toNat kd.bits = n.toNat := Nat.min_eq_left h0.2
  simp only [execOp, ev_eq ha hx, ev_eq ha hy, eqGuard, binOp, Op.shift]
  have hn0 : ¬ n < 0 := by omega
  simp only [hmin, wrap_in hin]
  simp [hn0]

theorem G.shlW {t t' : TypeId} {x y : Operand} {kd ky : IntKind} {a n : Int} {m : Nat} (hx : ev f x = some (.int kd a)) (hy : ev f y = some (.int ky n)) (hn : n.toNat = m) (hd : Nat.blt d E.n = true) (h0 : 0 <= n)
    (g : G E (.ops st all rest :: k) ((d, .int kd (kd.wrap (a * 2 ^ (min m kd.bits)))) :: f) h H) :
    G E (.ops st all (⟨some d, .binOp .shl t x y t', ty, pos, aft, none⟩ :: rest) :: k) f h H := by
  subst hn
  refine G.opVal hd (fun _ ac w ha _ => ?_) g
  simp only [execOp, ev_eq ha hx, ev_eq ha hy, eqGuard, binOp, Op.shift]
  have hn0 : ¬ n < 0 := by omega
  simp [hn0]

theorem G.shr {t t' : TypeId} {x y : Operand} {kd ky : IntKind} {a n c : Int} {m : Nat} (hx : ev f x = some (.int kd a)) (hy : ev f y = some (.int ky n)) (hn : n.toNat = m) (hd : Nat.blt d E.n = true) (h0 : 0 <= n /\ m <= kd.bits) (hc : a / 2 ^ m = c)
    (g : G E (.ops st all rest :: k) ((d, .int kd c) :: f) h H) :
    G E (.ops st all (⟨some d, .binOp .shr t x y t', ty, pos, aft, none⟩ :: rest) :: k) f h H := by
  subst hn hc
  refine G.opVal hd (fun _ ac w ha _ => ?_) g
  have hmin : min n.toNat kd.bits = n.toNat := Nat.min_eq_left h0.2
  have hp : (0 : Int) <= 2 ^ n.toNat := Int.le_of_lt (Int.pow_pos (by decide))
  simp only [execOp, ev_eq ha hx, ev_eq ha hy, eqGuard, binOp, Op.shift]
  have hn0 : ¬ n < 0 := by omega
  simp only [hmin, Int.fdiv_eq_ediv_of_nonneg _ hp]
  simp [hn0]

def binB : BinOp -> Nat -> Nat -> Option Nat
  | .and, a, b => some (a &&& b)
  | .or, a, b => some (a ||| b)
  | .xor, a, b => some (a ^^^ b)
  | _, _, _ => none
def lim : IntKind -> Nat
  | .i8 => 128 | .i16 => 32768 | .i32 => 2147483648 | .i64 => 9223372036854775808
  | .u8 => 256 | .u16 => 65536 | .u32 => 4294967296 | .u64 => 18446744073709551616
def limB : IntKind -> Nat
  | .i8 => 7 | .i16 => 15 | .i32 => 31 | .i64 => 63 | .u8 => 8 | .u16 => 16 | .u32 => 32 | .u64 => 64
theorem lim_pow (k : IntKind) : lim k = 2 ^ limB k := by cases k <;> rfl
theorem lim_in {k : IntKind} {n : Nat} (h : n < lim k) : inR k n := by cases k <;> simp only [lim] at h <;> simp only [inR] <;> omega
theorem limB_le (k : IntKind) : limB k <= k.bits := by cases k <;> decide
theorem ofInt_nat {b n : Nat} (h : n < 2 ^ b) : (BitVec.ofInt b (n : Int)).toNat = n := by
  rw [BitVec.ofInt_natCast, BitVec.toNat_ofNat]; exact Nat.mod_eq_of_lt h

theorem G.bit {op : BinOp} {t t' : TypeId} {x y : Operand} {kd kd' : IntKind} {a b : Int} {an bn c : Nat} (hx : ev f x = some (.int kd a)) (hy : ev f y = some (.int kd' b)) (hk : sameKind kd kd' = true) (han : a.toNat = an) (hbn : b.toNat = bn) (hc : binB op an bn = some c)
    (hd : Nat.blt d E.n = true) (ha0 : 0 <= a /\ an < lim kd) (hb0 : 0 <= b /\ bn < lim kd) (g : G E (.ops st all rest :: k) ((d, .int kd c) :: f) h H) :
    G E (.ops st all (⟨some d, .binOp op t x y t', ty, pos, aft, none⟩ :: rest) :: k) f h H := by
  have := sameKind_eq hk
  subst this
  obtain ⟨a, rfl⟩ := Int.eq_ofNat_of_zero_le ha0.1
  obtain ⟨b, rfl⟩ := Int.eq_ofNat_of_zero_le hb0.1
  simp only [Int.toNat_natCast] at han hbn
  subst han hbn
  have hla : a < 2 ^ limB kd := by rw [<- lim_pow]; exact ha0.2
  have hlb : b < 2 ^ limB kd := by rw [<- lim_pow]; exact hb0.2
  have hle : 2 ^ limB kd <= 2 ^ kd.bits := Nat.pow_le_pow_right (by decide) (limB_le kd)
  have ea := ofInt_nat (Nat.lt_of_lt_of_le hla hle)
  have eb := ofInt_nat (Nat.lt_of_lt_of_le hlb hle)
  have hcl : c < 2 ^ limB kd := by
    cases op <;> simp only [binB] at hc <;> try (cases hc; done)
    all_goals
      simp only [Option.some.injEq] at hc
      subst hc
    . exact Nat.and_lt_two_pow _ hlb
    . exact Nat.or_lt_two_pow hla hlb
    . exact Nat.xor_lt_two_pow hla hlb
  have hw : kd.wrap ((c : Nat) : Int) = c := wrap_in (lim_in (by rw [lim_pow]; exact hcl))
  refine G.opVal hd (fun _ ac w ha _ => ?_) g
  cases op <;> simp only [binB] at hc <;> try (cases hc; done)
  all_goals
    simp only [Option.some.injEq] at hc
    subst hc
    simp only [execOp, ev_eq ha hx, ev_eq ha hy, eqGuard, binOp, Op.intBits, BitVec.toNat_and, BitVec.toNat_or, BitVec.toNat_xor, ea, eb, hw]
    simp

theorem asAddr_ptr (a : Addr) : asAddr (.pointer (some a)) = pure a := rfl

inductive Res (P : Program) (f : Fr) (H : List Chunk) : List ResultVar -> List Value -> Prop
  | nil : Res P f H [] []
  | tmp {t : Nat} {v : Value} {r : List ResultVar} {vs : List Value} : Fr.get f t = some v -> Res P f H r vs -> Res P f H (.tmp t :: r) (v :: vs)
  | cell {s t e : Nat} {td : TD} {g sz by_ : Nat} {z : Value} {cs : List Value} {Hr : List Chunk} {r : List ResultVar} {vs : List Value} {v : Value} : Fr.get f s = some (.pointer (some ⟨g, 0, none⟩)) -> Ty P t td sz by_ z -> td.known = true -> (td.isAgg || Nat.beq sz 1) = true →
      Take (.blk g cs e) H Hr -> Nat.beq cs.length sz = true -> aggV td.isAgg cs = v -> Res P f H r vs -> Res P f H (.cell s t :: r) (v :: vs)

theorem Res.cellA {P : Program} {s t e : Nat} {td : TD} {g sz by_ : Nat} {z : Value} {cs : List Value} {Hr : List Chunk} {r : List ResultVar} {vs : List Value} (hx : Fr.get f s = some (.pointer (some ⟨g, 0, none⟩))) (ht : Ty P t td sz by_ z) (hk : td.known = true) (ha : td.isAgg = true)
    (hH : Take (.blk g cs e) H Hr) (hl : Nat.beq cs.length sz = true) (n : Res P f H r vs) : Res P f H (.cell s t :: r) (.agg cs.toArray :: vs) :=
  .cell hx ht hk (by rw [ha]; rfl) hH hl (by rw [ha]; rfl) n

def resOne (tmps : Array Value) : ResultVar -> Sem Value
  | .tmp t => pure (tmps.getD t undef)
  | .cell a t => do loadVar t (← asAddr (tmps.getD a undef))
theorem results_eq (fn : Func) (tmps : Array Value) : results fn tmps = (do let vs ← fn.results.mapM (resOne tmps); pure (if h : vs.size = 1 then vs[0] else .tuple vs)) := by
  unfold results
  have : (fun (x : ResultVar) => (match x with
    | .tmp t => pure (tmps.getD t undef)
    | .cell a t => do loadVar t (← asAddr (tmps.getD a undef)) : Sem Value)) = resOne tmps := by funext x; cases x <;> rfl
  rw [<- this]
  rfl

theorem Res.run {c : Ctx} {P : Program} {n : Nat} {a : Act} {w : World} (ha : FSat n f a) (hw : St c h H w) : ∀ {rs : List ResultVar} {vs : List Value}, Res P f H rs vs →
    (rs.mapM (resOne a.tmps)).run P w = .ok vs w
  | _, _, .nil => by simp
  | _, _, .tmp hg r => by
    have ih := Res.run ha hw r
    simp only [List.mapM_cons, resOne, Sem.run_bind, Sem.run_pure, Result.andThen_ok, ha.get _ _ hg, ih]
  | _, _, .cell (t := t) (g := g) (cs := cs) hg ht hk hs hH hl hv r => by
    have ih := Res.run ha hw r
    have hb := hw.own _ hH.mem
    have hs' := hs
    have hs2 : _ \/ _ := (Bool.or_eq_true_iff).1 hs'
    have := run_load_at (w := w) (p := ⟨g, 0, none⟩) ht hk (Nat.eq_of_beq_eq_true hl) (hs2.imp id Nat.eq_of_beq_eq_true) (fun j v hj => by rw [Addr.add_lit, Nat.zero_add, blk_cell hb]; exact hj)
    rw [hv] at this
    simp only [List.mapM_cons, resOne, Sem.run_bind, ha.get _ _ hg, asAddr_ptr, Sem.run_pure, Result.andThen_ok, this, ih]

theorem sint {k : IntKind} {a b : Int} (h : a = b) : (some (Value.int k a) : Option Value) = some (.int k b) := by rw [h]
theorem sbool {a b : Bool} (h : a = b) : (some (Value.bool a) : Option Value) = some (.bool b) := by rw [h]

def resV : List Value -> Value
  | [v] => v
  | vs => .tuple vs.toArray

theorem G.done {rs : List ResultVar} {vs : List Value} {v : Value} (hr : E.fn.results = rs.toArray) (hg : Res E.P f H rs vs) (hv : resV vs = v) (H' : List Chunk) (hs : SubH H' H) (hR : E.R v h H') : G E [] f h H := by
  subst hv
  refine ⟨fun a w ha hw => ?_⟩
  refine ⟨ha.defers, resV vs, ?_, _, h, H', rfl, hR, hw.sub hs⟩
  have := Res.run ha hw hg
  rw [results_eq, hr]
  simp only [List.mapM_toArray, Sem.run_bind, Sem.run_map, this, Result.andThen_ok, Sem.run_pure]
  congr 1
  match vs with
  | [] => simp [resV]
  | [v] => simp [resV]
  | u :: v :: r => simp [resV]

theorem bytesR_get {l : List UInt8} {i : Nat} (hi : i < l.length) : (bytesR l)[i]? = some [.int .u8 (byteAt l i)] := by
  simp [bytesR, byteAt, List.getElem?_eq_getElem hi]
theorem strsR_get {l : List (List UInt8)} {i : Nat} (hi : i < l.length) : (strsR l)[i]? = some [str l[i]] := by
  simp [strsR, List.getElem?_eq_getElem hi]
theorem G.lenRowB {t e e' : TypeId} {x : Operand} {v : Value} {sz1 by_ : Nat} {z : Value} {l : List UInt8} (hx : ev f x = some v) (ht : Ty E.P t (.slice e) sz1 by_ z) (hH : Take (.row v e' 1 (bytesR l)) H Hr) (hd : Nat.blt d E.n = true)
    (g : G E (.ops st all rest :: k) ((d, .int .i64 l.length) :: f) h H) :
    G E (.ops st all (⟨some d, .call { callee := .builtin .len, args := #[x], argTypes := #[t] }, ty, pos, aft, none⟩ :: rest) :: k) f h H :=
  G.lenRow hx ht hH hd (by rw [bytesR_length]; exact g)
theorem G.lenImmB {t e : TypeId} {x : Operand} {v : Value} {sz1 by_ : Nat} {z : Value} {l : List UInt8} (hx : ev f x = some v) (ht : Ty E.P t (.slice e) sz1 by_ z) (hv : HSl h v 1 (bytesR l)) (hd : Nat.blt d E.n = true)
    (g : G E (.ops st all rest :: k) ((d, .int .i64 l.length) :: f) h H) :
    G E (.ops st all (⟨some d, .call { callee := .builtin .len, args := #[x], argTypes := #[t] }, ty, pos, aft, none⟩ :: rest) :: k) f h H :=
  G.lenImm hx ht hv hd (by rw [bytesR_length]; exact g)
theorem G.lenImmS {t e : TypeId} {x : Operand} {v : Value} {sz1 by_ : Nat} {z : Value} {l : List (List UInt8)} (hx : ev f x = some v) (ht : Ty E.P t (.slice e) sz1 by_ z) (hv : HSl h v 1 (strsR l)) (hd : Nat.blt d E.n = true)
    (g : G E (.ops st all rest :: k) ((d, .int .i64 l.length) :: f) h H) :
    G E (.ops st all (⟨some d, .call { callee := .builtin .len, args := #[x], argTypes := #[t] }, ty, pos, aft, none⟩ :: rest) :: k) f h H :=
  G.lenImm hx ht hv hd (by rw [strsR_length]; exact g)
theorem G.lenRowS {t e e' : TypeId} {x : Operand} {v : Value} {sz1 by_ : Nat} {z : Value} {l : List (List UInt8)} (hx : ev f x = some v) (ht : Ty E.P t (.slice e) sz1 by_ z) (hH : Take (.row v e' 1 (strsR l)) H Hr) (hd : Nat.blt d E.n = true)
    (g : G E (.ops st all rest :: k) ((d, .int .i64 l.length) :: f) h H) :
    G E (.ops st all (⟨some d, .call { callee := .builtin .len, args := #[x], argTypes := #[t] }, ty, pos, aft, none⟩ :: rest) :: k) f h H :=
  G.lenRow hx ht hH hd (by rw [strsR_length]; exact g)
theorem G.loadRowB {t e : TypeId} {x : Operand} {i by_ : Nat} {z v : Value} {p : Addr} {l : List UInt8} (hx : ev f x = some (.pointer (some p))) (ht : Ty E.P t (.int .u8) 1 by_ z) (hp : Elem v 1 i p)
    (hH : Take (.row v e 1 (bytesR l)) H Hr) (hi : i < l.length) (hd : Nat.blt d E.n = true) (n : byteAt l i < 256 -> G E (.ops st all rest :: k) ((d, .int .u8 (byteAt l i)) :: f) h H) :
    G E (.ops st all (⟨some d, .load t x, ty, pos, aft, none⟩ :: rest) :: k) f h H :=
  G.loadRow1 hx ht rfl rfl hp hH (bytesR_get hi) hd (n (byteAt_lt _ _))

def strAt (l : List (List UInt8)) (i : Nat) : List UInt8 := l[i]?.getD []
theorem strsR_get' {l : List (List UInt8)} {i : Nat} (hi : i < l.length) : (strsR l)[i]? = some [str (strAt l i)] := by
  rw [strsR_get hi]; simp [strAt, List.getElem?_eq_getElem hi]
theorem G.idxImmS {t e : TypeId} {x y : Operand} {td : TD} {kd : IntKind} {i : Int} {m by_ sz1 by1 : Nat} {z z1 v : Value} {l : List (List UInt8)} (hx : ev f x = some v) (hy : ev f y = some (.int kd i)) (ht : Ty E.P t (.slice e) sz1 by1 z1)
    (he : Ty E.P e td 1 by_ z) (hv : HSl h v 1 (strsR l)) (hm : i.toNat = m) (hd : Nat.blt d E.n = true) (hb : 0 <= i /\ i < l.length)
    (g : ∀ p, HCells h p [str (strAt l m)] -> G E (.ops st all rest :: k) ((d, .pointer (some p)) :: f) h H) :
    G E (.ops st all (⟨some d, .indexAddr t x y, ty, pos, aft, none⟩ :: rest) :: k) f h H :=
  G.idxImm hx hy ht he hv hm hd (by rw [strsR_length]; exact hb) fun p r hr hp => g p (by
    rw [strsR_get' (by omega)] at hr
    injection hr with hr
    rw [hr]; exact hp)
def eff : Op -> Bool
  | .alloc _ | .box _ _ | .buildSlice _ _ _ | .insert _ _ _ _ | .store _ _ _ | .makeMap _ _ | .makeChan _ _ | .makeSlice _ _ _ | .mapUpdate _ _ _ _ | .mapEntry _ _ _ | .entryStore _ _ _ _ | .range _ _ | .next _ _ => true
  | .call { callee := .builtin .len, .. } => false
  | .call _ => true
  | _ => false
def splitE : List Oper -> Option (List Oper × List Oper)
  | [] => some ([], [])
  | o :: l => bif eff o.op then some ([], o :: l) else match splitE l with
    | some (a, b) => some (o :: a, b)
    | none => none
theorem splitE_eq : ∀ {l a b : List Oper}, splitE l = some (a, b) -> l.take a.length = a /\ l.drop a.length = b
  | [], a, b, h => by simp [splitE] at h; obtain ⟨rfl, rfl⟩ := h; exact ⟨rfl, rfl⟩
  | o :: l, a, b, h => by
    simp only [splitE] at h
    cases he : eff o.op with
    | true => rw [he] at h; simp at h; obtain ⟨rfl, rfl⟩ := h; exact ⟨rfl, rfl⟩
    | false =>
      rw [he] at h
      simp only [cond_false] at h
      split at h
      . rename_i a' b' hs
        simp at h
        obtain ⟨rfl, rfl⟩ := h
        obtain ⟨h1, h2⟩ := splitE_eq hs
        simp [h1, h2]
      . cases h
theorem G.drawAuto {id : Nat} {l l1 l2 : List Oper} (hm : E.P.follows .mixedOrders = true) (hs : splitE l = some (l1, l2)) (hB : Region.lexTailB .any l.toArray l1.length = true)
    (g : G E (.ops (.still l2) l.toArray l1 :: k) f h H) : G E (.code (.region id l.toArray true) :: k) f h H :=
  G.draw l1.length hm hB (splitE_eq hs).1 (splitE_eq hs).2 g

end
end Go.Proofs.YtibkffoeioidlaaDoor
