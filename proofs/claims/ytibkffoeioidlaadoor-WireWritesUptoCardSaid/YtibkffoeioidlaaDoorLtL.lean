/- Rules of the light walk: wraps, remainders, an element of an own row in any order. -/
import Derived.Test.YtibkffoeioidlaaDoorLtJ
namespace Go.Proofs.YtibkffoeioidlaaDoor
set_option linter.all false
set_option maxRecDepth 4000
open Go.RowKit

theorem wrap_inR (k : IntKind) (n : Int) : inR k (k.wrap n) := by
  cases k <;> simp only [inR, IntKind.wrap, IntKind.bits, IntKind.signed] <;> simp <;> omega

section
variable {E : Env} {k : List It} {f : Fr} {h : Heap} {H Hr : List Chunk} {st : Md} [hmd : OkMd st h H] {all : Array Oper} {rest : List Oper} {d : Nat} {ty : TypeId} {pos : String} {aft : Array Edge}

theorem G.convW {s t : TypeId} {x : Operand} {kd kd' : IntKind} {a : Int} {sz by_ : Nat} {z : Value} {ks : IntKind} {ss sb : Nat} {sv : Value} (hx : ev f x = some (.int kd a)) (hs : Ty E.P s (.int ks) ss sb sv) (ht : Ty E.P t (.int kd') sz by_ z) (hd : Nat.blt d E.n = true)
    (g : inR kd' (kd'.wrap a) -> G E (.ops st all rest :: k) ((d, .int kd' (kd'.wrap a)) :: f) h H) :
    G E (.ops st all (⟨some d, .convert s t x, ty, pos, aft, none⟩ :: rest) :: k) f h H := by
  refine G.opVal hd (fun _ a w ha _ => ?_) (g (wrap_inR _ _))
  have hu := hs.fits
  have := ht.fits
  simp only [TD.fits] at this hu
  simp [execOp, ev_eq ha hx, convert, underlying, hu, this, Conv.intToInt]

theorem G.rem {t t' : TypeId} {x y : Operand} {kd kd' : IntKind} {a b : Int} (hx : ev f x = some (.int kd a)) (hy : ev f y = some (.int kd' b)) (hk : sameKind kd kd' = true) (hd : Nat.blt d E.n = true) (hb : 0 <= a /\ 0 < b)
    (g : 0 <= a % b -> a % b < b -> a % b <= a -> G E (.ops st all rest :: k) ((d, .int kd (a % b)) :: f) h H) :
    G E (.ops st all (⟨some d, .binOp .rem t x y t', ty, pos, aft, none⟩ :: rest) :: k) f h H := by
  have := sameKind_eq hk
  subst this
  have hb0 : ¬ b = 0 := by omega
  have hle : a % b <= a := by
    rcases Int.lt_or_le a b with h1 | h1
    . rw [Int.emod_eq_of_lt hb.1 h1]; exact Int.le_refl _
    . have := Int.emod_lt_of_pos a hb.2; omega
  refine G.opVal hd (fun _ ac w ha _ => ?_) (g (Int.emod_nonneg _ hb0) (Int.emod_lt_of_pos _ hb.2) hle)
  simp only [execOp, ev_eq ha hx, ev_eq ha hy, eqGuard, binOp, Op.intDiv, if_neg hb0, Int.tmod_eq_emod_of_nonneg hb.1]
  simp

theorem G.remT {t t' : TypeId} {x y : Operand} {kd kd' : IntKind} {a b : Int} (hx : ev f x = some (.int kd a)) (hy : ev f y = some (.int kd' b)) (hk : sameKind kd kd' = true) (hd : Nat.blt d E.n = true) (hb : b ≠ 0)
    (g : G E (.ops st all rest :: k) ((d, .int kd (a.tmod b)) :: f) h H) :
    G E (.ops st all (⟨some d, .binOp .rem t x y t', ty, pos, aft, none⟩ :: rest) :: k) f h H := by
  have := sameKind_eq hk
  subst this
  refine G.opVal hd (fun _ ac w ha _ => ?_) g
  simp only [execOp, ev_eq ha hx, ev_eq ha hy, eqGuard, binOp, Op.intDiv, if_neg hb]
  simp

theorem G.quo {t t' : TypeId} {x y : Operand} {kd kd' : IntKind} {a b : Int} (hx : ev f x = some (.int kd a)) (hy : ev f y = some (.int kd' b)) (hk : sameKind kd kd' = true) (hd : Nat.blt d E.n = true) (hb : 0 <= a /\ 0 < b) (hin : inR kd (a / b))
    (g : G E (.ops st all rest :: k) ((d, .int kd (a / b)) :: f) h H) :
    G E (.ops st all (⟨some d, .binOp .quo t x y t', ty, pos, aft, none⟩ :: rest) :: k) f h H := by
  have := sameKind_eq hk
  subst this
  have hb0 : ¬ b = 0 := by omega
  refine G.opVal hd (fun _ ac w ha _ => ?_) g
  simp only [execOp, ev_eq ha hx, ev_eq ha hy, eqGuard, binOp, Op.intDiv, if_neg hb0, Int.tdiv_eq_ediv_of_nonneg hb.1, wrap_in hin]
  simp

theorem G.idxRow' {t e : TypeId} {x y : Operand} {td : TD} {kd : IntKind} {i : Int} {m sz by_ sz1 by1 : Nat} {z z1 v : Value} {rows : List (List Value)} (hx : ev f x = some v) (hy : ev f y = some (.int kd i)) (ht : Ty E.P t (.slice e) sz1 by1 z1)
    (he : Ty E.P e td sz by_ z) (hH : Take (.row v e sz rows) H Hr) (hm : i.toNat = m) (hd : Nat.blt d E.n = true) (hb : 0 <= i /\ i < rows.length)
    (g : ∀ p, Elem v sz m p -> G E (.ops st all rest :: k) ((d, .pointer (some p)) :: f) h H) :
    G E (.ops st all (⟨some d, .indexAddr t x y, ty, pos, aft, none⟩ :: rest) :: k) f h H := by
  subst hm
  have hne : rows ≠ [] := by intro e; subst e; simp at hb; omega
  by_cases hv : ∃ b n c, v = .slice (some ⟨b, 0, none⟩) n c
  . obtain ⟨b, n, c, rfl⟩ := hv
    refine G.opVal hd (fun _ a w ha hw => ?_) (g ⟨b, i.toNat * sz, none⟩ ⟨b, n, c, rfl, rfl⟩)
    obtain ⟨A, cap, h1, _, _⟩ := row_form (hw.own _ hH.mem)
    injection h1 with e1 e2 e3
    subst e2
    have := run_indexAt ht he (ad := ⟨b, 0, none⟩) (len := rows.length) (c := c) (kd := kd) hb w
    rw [Addr.add_lit, Nat.zero_add] at this
    simp [execOp, ev_eq ha hx, ev_eq ha hy, this]
  . refine ⟨fun a w ha hw => ?_⟩
    obtain ⟨A, cap, rfl, _, h2⟩ := row_form (hw.own _ hH.mem)
    obtain ⟨b, rfl⟩ := h2 hne
    exact absurd ⟨b, _, _, rfl⟩ hv
end
end Go.Proofs.YtibkffoeioidlaaDoor
namespace Go.Proofs.YtibkffoeioidlaaDoor
set_option linter.all false
set_option maxRecDepth 4000
open Go.RowKit

theorem Src.blkMem {P : Program} {h : Heap} {H : List Chunk} {sz g n c : Nat} {e : TypeId} {cs : List Value} {rows : List (List Value)} (ht : Chunk.blk g cs e ∈ H) (hr : rows.flatten = cs) (hw : Rowed sz rows) (hn : n = rows.length) :
    Src P h H sz (.slice (some ⟨g, 0, none⟩) n c) rows := by
  subst hn
  intro cx w s w' hh
  refine ⟨by simp [Builtin.lenOf], ?_⟩
  refine run_firstCells_some w' sz rows.length ⟨g, 0, none⟩ rows.length c rows.flatten (flatten_length hw) fun j v hj => ?_
  rw [cell_heap hh, Addr.add_lit, blk_cell (s.own _ ht), ← hr]
  simpa using hj

section
variable {E : Env} {k : List It} {f : Fr} {h : Heap} {H H1 H2 Hr : List Chunk} {st : Md} [hmd : OkMd st h H] {all : Array Oper} {rest : List Oper} {d : Nat} {ty : TypeId} {pos : String} {aft : Array Edge}

theorem len_of_bytes {n by_ : Nat} (h : n * by_ <= 140737488355328) (hb : 0 < by_) : n <= 9223372036854775807 := by
  have := Nat.mul_le_mul_left n hb
  omega
theorem permDrop {x b : Chunk} {H1 H2 : List Chunk} (h : Take b H1 H2) : SubH (x :: H2) (x :: H1) :=
  ⟨[b], List.Perm.cons _ (h.perm.trans (by simpa using (List.perm_append_comm (l₁ := [b]) (l₂ := H2))))⟩

theorem G.appendBlk {t e e' : TypeId} {x y : Operand} {td : TD} {sz by_ sz1 by1 g m c : Nat} {z z1 v : Value} {rows news : List (List Value)} {cs : List Value} (hx : ev f x = some v) (hy : ev f y = some (.slice (some ⟨g, 0, none⟩) m c))
    (ht : Ty E.P t (.slice e) sz1 by1 z1) (he : Ty E.P e td sz by_ z) (hz : (Nat.beq (cellsL z).length sz && Nat.blt 0 sz) = true) (hby : Nat.blt 0 by_ = true)
    (hH : Take (.row v e sz rows) H H1) (hB : Take (.blk g cs e') H1 H2) (hn : news.flatten = cs) (hm : m = news.length) (hw : Rowed sz news) (h1 : cs.all Value.oneCell' = true) (hd : Nat.blt d E.n = true)
    (hb : (rows.length + news.length) * by_ <= 140737488355328) (n : ∀ v', G E (.ops .seq all rest :: k) ((d, v') :: f) h (.row v' e sz (rows ++ news) :: H2)) :
    G E (.ops .seq all (⟨some d, .call { callee := .builtin .append, args := #[x, y], argTypes := #[t, t] }, ty, pos, aft, none⟩ :: rest) :: k) f h H := by
  rw [Nat.blt_eq] at hby
  have hmem : Chunk.blk g cs e' ∈ H := hH.perm.mem_iff.2 (List.mem_cons_of_mem _ hB.mem)
  exact G.append hx hy ht he ht (.inl ⟨e, rfl⟩) hz hH (Src.blkMem hmem hn hw hm) hw
    (fun q hq u hu => by
      have : u ∈ cs := by rw [<- hn]; exact List.mem_flatten.2 ⟨q, hq, hu⟩
      simpa using List.all_eq_true.1 h1 u this) hd hb (len_of_bytes hb hby) (fun v' => G.chunks (permDrop hB) (n v'))
theorem G.append1 {t e e' : TypeId} {x y : Operand} {td : TD} {sz by_ sz1 by1 g c : Nat} {z z1 v : Value} {rows : List (List Value)} {r : List Value} (hx : ev f x = some v) (hy : ev f y = some (.slice (some ⟨g, 0, none⟩) 1 c))
    (ht : Ty E.P t (.slice e) sz1 by1 z1) (he : Ty E.P e td sz by_ z) (hz : (Nat.beq (cellsL z).length sz && Nat.blt 0 sz) = true) (hby : Nat.blt 0 by_ = true)
    (hH : Take (.row v e sz rows) H H1) (hB : Take (.blk g r e') H1 H2) (hl : Nat.beq r.length sz = true) (h1 : r.all Value.oneCell' = true) (hd : Nat.blt d E.n = true)
    (hb : (rows.length + 1) * by_ <= 140737488355328) (n : ∀ v', G E (.ops .seq all rest :: k) ((d, v') :: f) h (.row v' e sz (rows ++ [r]) :: H2)) :
    G E (.ops .seq all (⟨some d, .call { callee := .builtin .append, args := #[x, y], argTypes := #[t, t] }, ty, pos, aft, none⟩ :: rest) :: k) f h H :=
  G.appendBlk (news := [r]) hx hy ht he hz hby hH hB (by simp) rfl (fun q hq => by simp at hq; rw [hq]; exact Nat.eq_of_beq_eq_true hl) h1 hd hb n
theorem G.append1B {t e e' : TypeId} {x y : Operand} {td : TD} {by_ sz1 by1 g c : Nat} {z z1 v : Value} {l : List UInt8} {b : Int} (hx : ev f x = some v) (hy : ev f y = some (.slice (some ⟨g, 0, none⟩) 1 c))
    (ht : Ty E.P t (.slice e) sz1 by1 z1) (he : Ty E.P e td 1 by_ z) (hz : (Nat.beq (cellsL z).length 1 && Nat.blt 0 1) = true) (hby : Nat.blt 0 by_ = true)
    (hH : Take (.row v e 1 (bytesR l)) H H1) (hB : Take (.blk g [.int .u8 b] e') H1 H2) (hd : Nat.blt d E.n = true) (hb8 : 0 <= b /\ b < 256)
    (hb : (l.length + 1) * by_ <= 140737488355328) (n : ∀ v', G E (.ops .seq all rest :: k) ((d, v') :: f) h (.row v' e 1 (bytesR (l ++ [UInt8.ofNat b.toNat])) :: H2)) :
    G E (.ops .seq all (⟨some d, .call { callee := .builtin .append, args := #[x, y], argTypes := #[t, t] }, ty, pos, aft, none⟩ :: rest) :: k) f h H :=
  G.append1 hx hy ht he hz hby hH hB rfl rfl hd (by rw [bytesR_length]; exact hb) (fun v' => by
    have := n v'
    rw [bytesR_append] at this
    have e1 : bytesR [UInt8.ofNat b.toNat] = [[Value.int .u8 b]] := by
      simp only [bytesR, List.map_cons, List.map_nil, UInt8.toNat_ofNat']
      rw [show ((b.toNat % 2 ^ 8 : Nat) : Int) = b by omega]
    rw [e1] at this; exact this)
theorem G.appendImm {t e : TypeId} {x y : Operand} {td : TD} {sz by_ sz1 by1 : Nat} {z z1 v u : Value} {rows news : List (List Value)} (hx : ev f x = some v) (hy : ev f y = some u)
    (ht : Ty E.P t (.slice e) sz1 by1 z1) (he : Ty E.P e td sz by_ z) (hz : (Nat.beq (cellsL z).length sz && Nat.blt 0 sz) = true) (hby : Nat.blt 0 by_ = true)
    (hH : Take (.row v e sz rows) H H1) (hu : HSl h u sz news) (h1 : ∀ r ∈ news, ∀ q ∈ r, q.oneCell' = true) (hd : Nat.blt d E.n = true)
    (hb : (rows.length + news.length) * by_ <= 140737488355328) (n : ∀ v', G E (.ops .seq all rest :: k) ((d, v') :: f) h (.row v' e sz (rows ++ news) :: H1)) :
    G E (.ops .seq all (⟨some d, .call { callee := .builtin .append, args := #[x, y], argTypes := #[t, t] }, ty, pos, aft, none⟩ :: rest) :: k) f h H := by
  rw [Nat.blt_eq] at hby
  exact G.append hx hy ht he ht (.inl ⟨e, rfl⟩) hz hH (Src.imm hu) hu.rowed h1 hd hb (len_of_bytes hb hby) n
theorem one_strs (l : List (List UInt8)) : ∀ r ∈ strsR l, ∀ q ∈ r, q.oneCell' = true := by
  intro r hr q hq
  simp only [strsR, List.mem_map] at hr
  obtain ⟨s, _, rfl⟩ := hr
  simp at hq; subst hq; rfl
theorem one_bytes (l : List UInt8) : ∀ r ∈ bytesR l, ∀ q ∈ r, q.oneCell' = true := by
  intro r hr q hq
  simp only [bytesR, List.mem_map] at hr
  obtain ⟨s, _, rfl⟩ := hr
  simp at hq; subst hq; rfl
theorem G.appendImmS {t e : TypeId} {x y : Operand} {td : TD} {by_ sz1 by1 : Nat} {z z1 v u : Value} {l l' : List (List UInt8)} (hx : ev f x = some v) (hy : ev f y = some u)
    (ht : Ty E.P t (.slice e) sz1 by1 z1) (he : Ty E.P e td 1 by_ z) (hz : (Nat.beq (cellsL z).length 1 && Nat.blt 0 1) = true) (hby : Nat.blt 0 by_ = true)
    (hH : Take (.row v e 1 (strsR l)) H H1) (hu : HSl h u 1 (strsR l')) (hd : Nat.blt d E.n = true)
    (hb : (l.length + l'.length) * by_ <= 140737488355328) (n : ∀ v', G E (.ops .seq all rest :: k) ((d, v') :: f) h (.row v' e 1 (strsR (l ++ l')) :: H1)) :
    G E (.ops .seq all (⟨some d, .call { callee := .builtin .append, args := #[x, y], argTypes := #[t, t] }, ty, pos, aft, none⟩ :: rest) :: k) f h H :=
  G.appendImm hx hy ht he hz hby hH hu (one_strs l') hd (by rw [strsR_length, strsR_length]; exact hb) (fun v' => by have := n v'; rw [strsR_append] at this; exact this)
theorem G.appendStr {t t2 e : TypeId} {x y : Operand} {td : TD} {by_ sz1 by1 sz2 by2 : Nat} {z z1 z2 v : Value} {l s : List UInt8} (hx : ev f x = some v) (hy : ev f y = some (str s))
    (ht : Ty E.P t (.slice e) sz1 by1 z1) (ht2 : Ty E.P t2 .str sz2 by2 z2) (he : Ty E.P e td 1 by_ z) (hz : (Nat.beq (cellsL z).length 1 && Nat.blt 0 1) = true) (hby : Nat.blt 0 by_ = true)
    (hH : Take (.row v e 1 (bytesR l)) H H1) (hd : Nat.blt d E.n = true)
    (hb : (l.length + s.length) * by_ <= 140737488355328) (n : ∀ v', G E (.ops .seq all rest :: k) ((d, v') :: f) h (.row v' e 1 (bytesR (l ++ s)) :: H1)) :
    G E (.ops .seq all (⟨some d, .call { callee := .builtin .append, args := #[x, y], argTypes := #[t, t2] }, ty, pos, aft, none⟩ :: rest) :: k) f h H := by
  rw [Nat.blt_eq] at hby
  exact G.append hx hy ht he ht2 (.inr rfl) hz hH Src.str (rowed_bytes s) (one_bytes s) hd (by rw [bytesR_length, bytesR_length]; exact hb) (by rw [bytesR_length, bytesR_length]; exact len_of_bytes hb hby) (fun v' => by have := n v'; rw [bytesR_append] at this; exact this)
end
end Go.Proofs.YtibkffoeioidlaaDoor
