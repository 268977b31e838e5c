/- Rules of the light walk: append, in the forms that are met most. -/
import Derived.Test.YtahpemfnhepgoaaLtK
namespace Go.Proofs.Ytahpemfnhepgoaa
set_option linter.all false
set_option maxRecDepth 4000
open Go.RowKit

theorem Src.blkMem {P : Program} {h : Heap} {H : List Chunk} {sz g n c : Nat} {e : TypeId} {cs : List Value} {rows : List (List Value)} (ht : Chunk.blk g cs e ∈ H) (hr : rows.flatten = cs) (hw : Rowed sz rows) (hn : n = rows.length) :
    Src P h H sz (.slice (some ⟨g, 0, none⟩) n c) rows := by
  subst hn
  intro cx w s w' hh
  refine ⟨by simp [Builtin.lenOf], ?_⟩
  refine run_firstCells_some w' sz rows.length ⟨g, 0, none⟩ rows.length c rows.flatten (flatten_length hw) fun j v hj => ?_
  rw [cell_heap hh, Addr.add_lit, blk_cell (s.own _ ht), ← hr]
  simpa using hj

section
variable {E : Env} {k : List It} {f : Fr} {h : Heap} {H H1 H2 Hr : List Chunk} {st : Md} [hmd : OkMd st h H] {all : Array Oper} {rest : List Oper} {d : Nat} {ty : TypeId} {pos : String} {aft : Array Edge}

theorem len_of_bytes {n by_ : Nat} (h : n * by_ <= 140737488355328) (hb : 0 < by_) : n <= 9223372036854775807 := by
  have := Nat.mul_le_mul_left n hb
  omega
theorem permDrop {x b : Chunk} {H1 H2 : List Chunk} (h : Take b H1 H2) : SubH (x :: H2) (x :: H1) :=
  ⟨[b], List.Perm.cons _ (h.perm.trans (by simpa using (List.perm_append_comm (l₁ := [b]) (l₂ := H2))))⟩

theorem G.appendBlk {t e e' : TypeId} {x y : Operand} {td : TD} {sz by_ sz1 by1 g m c : Nat} {z z1 v : Value} {rows news : List (List Value)} {cs : List Value} (hx : ev f x = some v) (hy : ev f y = some (.slice (some ⟨g, 0, none⟩) m c))
    (ht : Ty E.P t (.slice e) sz1 by1 z1) (he : Ty E.P e td sz by_ z) (hz : (Nat.beq (cellsL z).length sz && Nat.blt 0 sz) = true) (hby : Nat.blt 0 by_ = true)
    (hH : Take (.row v e sz rows) H H1) (hB : Take (.blk g cs e') H1 H2) (hn : news.flatten = cs) (hm : m = news.length) (hw : Rowed sz news) (h1 : cs.all Value.oneCell' = true) (hd : Nat.blt d E.n = true)
    (hb : (rows.length + news.length) * by_ <= 140737488355328) (n : ∀ v', G E (.ops .seq all rest :: k) ((d, v') :: f) h (.row v' e sz (rows ++ news) :: H2)) :
    G E (.ops .seq all (⟨some d, .call { callee := .builtin .append, args := #[x, y], argTypes := #[t, t] }, ty, pos, aft, none⟩ :: rest) :: k) f h H := by
  rw [Nat.blt_eq] at hby
  have hmem : Chunk.blk g cs e' ∈ H := hH.perm.mem_iff.2 (List.mem_cons_of_mem _ hB.mem)
  exact G.append hx hy ht he ht (.inl ⟨e, rfl⟩) hz hH (Src.blkMem hmem hn hw hm) hw
    (fun q hq u hu => by
      have : u ∈ cs := by rw [<- hn]; exact List.mem_flatten.2 ⟨q, hq, hu⟩
      simpa using List.all_eq_true.1 h1 u this) hd hb (len_of_bytes hb hby) (fun v' => G.chunks (permDrop hB) (n v'))
theorem G.append1 {t e e' : TypeId} {x y : Operand} {td : TD} {sz by_ sz1 by1 g c : Nat} {z z1 v : Value} {rows : List (List Value)} {r : List Value} (hx : ev f x = some v) (hy : ev f y = some (.slice (some ⟨g, 0, none⟩) 1 c))
    (ht : Ty E.P t (.slice e) sz1 by1 z1) (he : Ty E.P e td sz by_ z) (hz : (Nat.beq (cellsL z).length sz && Nat.blt 0 sz) = true) (hby : Nat.blt 0 by_ = true)
    (hH : Take (.row v e sz rows) H H1) (hB : Take (.blk g r e') H1 H2) (hl : Nat.beq r.length sz = true) (h1 : r.all Value.oneCell' = true) (hd : Nat.blt d E.n = true)
    (hb : (rows.length + 1) * by_ <= 140737488355328) (n : ∀ v', G E (.ops .seq all rest :: k) ((d, v') :: f) h (.row v' e sz (rows ++ [r]) :: H2)) :
    G E (.ops .seq all (⟨some d, .call { callee := .builtin .append, args := #[x, y], argTypes := #[t, t] }, ty, pos, aft, none⟩ :: rest) :: k) f h H :=
  G.appendBlk (news := [r]) hx hy ht he hz hby hH hB (by simp) rfl (fun q hq => by simp at hq; rw [hq]; exact Nat.eq_of_beq_eq_true hl) h1 hd hb n
theorem G.append1S {t e e' : TypeId} {x y : Operand} {td : TD} {by_ sz1 by1 g c : Nat} {z z1 v : Value} {l : List (List UInt8)} {s : List UInt8} (hx : ev f x = some v) (hy : ev f y = some (.slice (some ⟨g, 0, none⟩) 1 c))
    (ht : Ty E.P t (.slice e) sz1 by1 z1) (he : Ty E.P e td 1 by_ z) (hz : (Nat.beq (cellsL z).length 1 && Nat.blt 0 1) = true) (hby : Nat.blt 0 by_ = true)
    (hH : Take (.row v e 1 (strsR l)) H H1) (hB : Take (.blk g [str s] e') H1 H2) (hd : Nat.blt d E.n = true)
    (hb : (l.length + 1) * by_ <= 140737488355328) (n : ∀ v', G E (.ops .seq all rest :: k) ((d, v') :: f) h (.row v' e 1 (strsR (l ++ [s])) :: H2)) :
    G E (.ops .seq all (⟨some d, .call { callee := .builtin .append, args := #[x, y], argTypes := #[t, t] }, ty, pos, aft, none⟩ :: rest) :: k) f h H :=
  G.append1 hx hy ht he hz hby hH hB rfl rfl hd (by rw [strsR_length]; exact hb) (fun v' => by have := n v'; rw [strsR_append] at this; exact this)
theorem G.append1B {t e e' : TypeId} {x y : Operand} {td : TD} {by_ sz1 by1 g c : Nat} {z z1 v : Value} {l : List UInt8} {b : Int} (hx : ev f x = some v) (hy : ev f y = some (.slice (some ⟨g, 0, none⟩) 1 c))
    (ht : Ty E.P t (.slice e) sz1 by1 z1) (he : Ty E.P e td 1 by_ z) (hz : (Nat.beq (cellsL z).length 1 && Nat.blt 0 1) = true) (hby : Nat.blt 0 by_ = true)
    (hH : Take (.row v e 1 (bytesR l)) H H1) (hB : Take (.blk g [.int .u8 b] e') H1 H2) (hd : Nat.blt d E.n = true) (hb8 : 0 <= b /\ b < 256)
    (hb : (l.length + 1) * by_ <= 140737488355328) (n : ∀ v', G E (.ops .seq all rest :: k) ((d, v') :: f) h (.row v' e 1 (bytesR (l ++ [UInt8.ofNat b.toNat])) :: H2)) :
    G E (.ops .seq all (⟨some d, .call { callee := .builtin .append, args := #[x, y], argTypes := #[t, t] }, ty, pos, aft, none⟩ :: rest) :: k) f h H :=
  G.append1 hx hy ht he hz hby hH hB rfl rfl hd (by rw [bytesR_length]; exact hb) (fun v' => by
    have := n v'
    rw [bytesR_append] at this
    have e1 : bytesR [UInt8.ofNat b.toNat] = [[Value.int .u8 b]] := by
      simp only [bytesR, List.map_cons, List.map_nil, UInt8.toNat_ofNat']
      rw [show ((b.toNat % 2 ^ 8 : Nat) : Int) = b by omega]
    rw [e1] at this; exact this)
theorem G.appendImm {t e : TypeId} {x y : Operand} {td : TD} {sz by_ sz1 by1 : Nat} {z z1 v u : Value} {rows news : List (List Value)} (hx : ev f x = some v) (hy : ev f y = some u)
    (ht : Ty E.P t (.slice e) sz1 by1 z1) (he : Ty E.P e td sz by_ z) (hz : (Nat.beq (cellsL z).length sz && Nat.blt 0 sz) = true) (hby : Nat.blt 0 by_ = true)
    (hH : Take (.row v e sz rows) H H1) (hu : HSl h u sz news) (h1 : ∀ r ∈ news, ∀ q ∈ r, q.oneCell' = true) (hd : Nat.blt d E.n = true)
    (hb : (rows.length + news.length) * by_ <= 140737488355328) (n : ∀ v', G E (.ops .seq all rest :: k) ((d, v') :: f) h (.row v' e sz (rows ++ news) :: H1)) :
    G E (.ops .seq all (⟨some d, .call { callee := .builtin .append, args := #[x, y], argTypes := #[t, t] }, ty, pos, aft, none⟩ :: rest) :: k) f h H := by
  rw [Nat.blt_eq] at hby
  exact G.append hx hy ht he ht (.inl ⟨e, rfl⟩) hz hH (Src.imm hu) hu.rowed h1 hd hb (len_of_bytes hb hby) n
theorem one_strs (l : List (List UInt8)) : ∀ r ∈ strsR l, ∀ q ∈ r, q.oneCell' = true := by
  intro r hr q hq
  simp only [strsR, List.mem_map] at hr
  obtain ⟨s, _, rfl⟩ := hr
  simp at hq; subst hq; rfl
theorem one_bytes (l : List UInt8) : ∀ r ∈ bytesR l, ∀ q ∈ r, q.oneCell' = true := by
  intro r hr q hq
  simp only [bytesR, List.mem_map] at hr
  obtain ⟨s, _, rfl⟩ := hr
  simp at hq; subst hq; rfl
theorem G.appendImmS {t e : TypeId} {x y : Operand} {td : TD} {by_ sz1 by1 : Nat} {z z1 v u : Value} {l l' : List (List UInt8)} (hx : ev f x = some v) (hy : ev f y = some u)
    (ht : Ty E.P t (.slice e) sz1 by1 z1) (he : Ty E.P e td 1 by_ z) (hz : (Nat.beq (cellsL z).length 1 && Nat.blt 0 1) = true) (hby : Nat.blt 0 by_ = true)
    (hH : Take (.row v e 1 (strsR l)) H H1) (hu : HSl h u 1 (strsR l')) (hd : Nat.blt d E.n = true)
    (hb : (l.length + l'.length) * by_ <= 140737488355328) (n : ∀ v', G E (.ops .seq all rest :: k) ((d, v') :: f) h (.row v' e 1 (strsR (l ++ l')) :: H1)) :
    G E (.ops .seq all (⟨some d, .call { callee := .builtin .append, args := #[x, y], argTypes := #[t, t] }, ty, pos, aft, none⟩ :: rest) :: k) f h H :=
  G.appendImm hx hy ht he hz hby hH hu (one_strs l') hd (by rw [strsR_length, strsR_length]; exact hb) (fun v' => by have := n v'; rw [strsR_append] at this; exact this)
theorem G.appendStr {t t2 e : TypeId} {x y : Operand} {td : TD} {by_ sz1 by1 sz2 by2 : Nat} {z z1 z2 v : Value} {l s : List UInt8} (hx : ev f x = some v) (hy : ev f y = some (str s))
    (ht : Ty E.P t (.slice e) sz1 by1 z1) (ht2 : Ty E.P t2 .str sz2 by2 z2) (he : Ty E.P e td 1 by_ z) (hz : (Nat.beq (cellsL z).length 1 && Nat.blt 0 1) = true) (hby : Nat.blt 0 by_ = true)
    (hH : Take (.row v e 1 (bytesR l)) H H1) (hd : Nat.blt d E.n = true)
    (hb : (l.length + s.length) * by_ <= 140737488355328) (n : ∀ v', G E (.ops .seq all rest :: k) ((d, v') :: f) h (.row v' e 1 (bytesR (l ++ s)) :: H1)) :
    G E (.ops .seq all (⟨some d, .call { callee := .builtin .append, args := #[x, y], argTypes := #[t, t2] }, ty, pos, aft, none⟩ :: rest) :: k) f h H := by
  rw [Nat.blt_eq] at hby
  exact G.append hx hy ht he ht2 (.inr rfl) hz hH Src.str (rowed_bytes s) (one_bytes s) hd (by rw [bytesR_length, bytesR_length]; exact hb) (by rw [bytesR_length, bytesR_length]; exact len_of_bytes hb hby) (fun v' => by have := n v'; rw [bytesR_append] at this; exact this)
end
end Go.Proofs.Ytahpemfnhepgoaa
