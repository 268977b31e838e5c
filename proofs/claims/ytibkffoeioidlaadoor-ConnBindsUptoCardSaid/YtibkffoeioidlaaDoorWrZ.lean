/- slices.Sort of texts, strings.Join with a text between, as contracts of the light walk; rows that are only read, cut short. -/
import Derived.Test.YtibkffoeioidlaaDoorDnA
import Derived.Maps.RangeRun
import Derived.Lib.OthersKept
import Derived.Lib.DecodeN
import Derived.Test.YtibkffoeioidlaaDoorLtP
import Derived.Test.YtibkffoeioidlaaDoorTy
import Derived.Test.YtibkffoeioidlaaDoorShG
import Derived.Test.YtibkffoeioidlaaDoorProg
import Derived.Ground.NamesProg
import Derived.Shelf.Sort.Plain
import Derived.Shelf.Strings.OnBuilder
import Derived.Shelf.Slices.In.SortNone
import Derived.Test.YtibkffoeioidlaaDoorFlO
import Derived.Sort.Walk0
import Derived.Test.YtibkffoeioidlaaDoorWrQ
import Derived.Test.YtibkffoeioidlaaDoorWrTie
import Derived.Test.YtibkffoeioidlaaDoorFeed
import Derived.Test.YtibkffoeioidlaaDoorTlvW
import Derived.Test.YtibkffoeioidlaaDoorTlvT
import Derived.Test.YtibkffoeioidlaaDoorWrL
import Derived.Test.YtibkffoeioidlaaDoorWrO
namespace Go.Proofs.YtibkffoeioidlaaDoor
set_option linter.all false
set_option maxRecDepth 4000
open Go.RowKit

theorem St.grow {c : Ctx} {h : Heap} {H : List Chunk} {w w' : World} (s : St c h H w) {os : Array Obj} (hh : w'.heap = w.heap ++ os) (ho : w'.os = w.os) (ht : w'.tape = w.tape) (hp : w'.output = w.output) : St c h H w' := by
  have hk : ∀ b, b < w.heap.size -> w'.heap[b]? = w.heap[b]? := fun b hb => by rw [hh, Array.getElem?_append_left hb]
  refine ⟨ho.trans s.os, ht.trans s.tape, hp.trans s.output, by rw [hh, Array.size_append]; have := s.size; omega, fun b hb hK => ?_, s.mono, fun b o hb => ?_, fun x hx => ?_, s.nodup, s.sep, s.ksub, s.isub⟩
  . rw [hk b (Nat.lt_of_lt_of_le hb s.size)]; exact s.fr b hb hK
  . rw [hk b (lt_of_get (s.imm b o hb))]; exact s.imm b o hb
  . exact Chunk.holds_congr (fun g hg => hk g (Chunk.holds_lt (s.own x hx) g hg)) (s.own x hx)
def sortM (L : List (List UInt8)) : List (List UInt8) := L.mergeSort fun x y => decide (x <= y)
theorem St.below {h : Heap} {H : List Chunk} {w w' : World} (s : StI h H w) (b : Below w.heap.size w w') : St ⟨w, keys H, h⟩ h H w' := by
  have hk : ∀ x ∈ H, ∀ g, x.key = some g -> w'.heap[g]? = w.heap[g]? := fun x hx g hg => b.block g (Chunk.holds_lt (s.own x hx) g hg)
  exact ⟨b.os, b.tape, b.output, b.size, fun q hq _ => b.block q hq, Heap.le_refl h, fun q o ho => by
      have h1 := s.imm q o ho
      rw [b.block q (lt_of_get h1)]; exact h1, fun x hx => Chunk.holds_congr (hk x hx) (s.own x hx), s.nodup, s.sep, fun g hg => .inl hg, fun q o ho => .inl ⟨o, ho⟩⟩
end Go.Proofs.YtibkffoeioidlaaDoor
namespace Go.Proofs.YtibkffoeioidlaaDoor
set_option linter.all false
set_option maxRecDepth 4000
open Go.RowKit

def avaT (a : List UInt8 × List UInt8) : List UInt8 := a.1 ++ [61] ++ wrM a.2
def keyA (a : List UInt8 × List UInt8) : List UInt8 × List UInt8 := (foldM a.1, prepM a.2)
def fA (b : Bool) (a : List UInt8 × List UInt8) : List UInt8 := avaT (if b then keyA a else a)
def fR (b : Bool) (r : Rdn) : List UInt8 := Lib.join (if b then sortM (r.map (fA b)) else r.map (fA b)) [43]
def txt (b : Bool) (d : Dn) : List UInt8 := Lib.join (d.map (fR b)) [44]
def avaW (a : List UInt8 × List UInt8) : Nat := a.1.length + 3 * a.2.length + 2
def rdnW (r : Rdn) : Nat := (r.map avaW).sum
def dnW (d : Dn) : Nat := (d.map fun r => rdnW r + 1).sum
theorem sum_le {α : Type} (f g : α -> Nat) (l : List α) (h : ∀ x ∈ l, f x <= g x) : (l.map f).sum <= (l.map g).sum := by
  induction l with
  | nil => simp
  | cons x l ih =>
    have h1 := h x (by simp)
    have h2 := ih fun y hy => h y (by simp [hy])
    simp only [List.map_cons, List.sum_cons]; omega
theorem mem_le_sum {α : Type} (f : α -> Nat) (l : List α) (x : α) (h : x ∈ l) : f x <= (l.map f).sum := by
  induction l with
  | nil => simp at h
  | cons y l ih =>
    simp only [List.map_cons, List.sum_cons]
    rcases List.mem_cons.1 h with rfl | h
    . omega
    . have := ih h; omega
theorem len_le_sum {α : Type} (f : α -> Nat) (l : List α) (h : ∀ x ∈ l, 1 <= f x) : l.length <= (l.map f).sum := by
  have := sum_le (fun _ => 1) f l h
  have h2 : (l.map fun _ => 1).sum = l.length := by
    induction l with
    | nil => rfl
    | cons x l ih => simp only [List.map_cons, List.sum_cons, List.length_cons]; rw [ih (fun y hy => h y (by simp [hy])) (sum_le _ _ _ fun y hy => h y (by simp [hy]))]; omega
  omega
theorem rdnW_le {d : Dn} {r : Rdn} (h : r ∈ d) : rdnW r + 1 <= dnW d := mem_le_sum (fun r => rdnW r + 1) d r h
theorem rdn_len_le (r : Rdn) : r.length <= rdnW r := len_le_sum avaW r fun a _ => by unfold avaW; omega
theorem dn_len_le (d : Dn) : d.length <= dnW d := len_le_sum (fun r => rdnW r + 1) d fun a _ => by omega
end Go.Proofs.YtibkffoeioidlaaDoor
namespace Go.Proofs.YtibkffoeioidlaaDoor
set_option linter.all false
set_option maxRecDepth 4000
open Go.RowKit

def avaC (pre : Rdn) (a : List UInt8 × List UInt8) : Int := if pre.length = 8 then 9 else if typeM a.1 = false then 20 else if hasM pre a.1 = true then 21 else 0
def rdnGo : Rdn -> Rdn -> Int
  | _, [] => 0
  | pre, a :: r => if avaC pre a ≠ 0 then avaC pre a else rdnGo (pre ++ [a]) r
theorem take_of_get {α : Type} {l : List α} {i : Nat} {x : α} (h : l[i]? = some x) : l.take (i + 1) = l.take i ++ [x] := by
  have hi := (List.getElem?_eq_some_iff.1 h).1
  have e := (List.getElem?_eq_some_iff.1 h).2
  rw [List.take_succ_eq_append_getElem hi, e]
end Go.Proofs.YtibkffoeioidlaaDoor
namespace Go.Proofs.YtibkffoeioidlaaDoor
set_option linter.all false
set_option maxRecDepth 4000
open Go.RowKit

section
variable {E : Env} {k : List It} {f : Fr} {h : Heap} {H : List Chunk} {st : Md} [hmd : OkMd st h H] {all : Array Oper} {rest : List Oper} {d : Nat} {ty : TypeId} {pos : String} {aft : Array Edge}
end
structure PlainD (d p : Dn) : Prop where
  same : p.map (fun l => l.map avaT) = d.map fun r => sortM (r.map (fA true))
  w : dnW p <= dnW d
theorem PlainD.text {d p : Dn} (h : PlainD d p) : txt false p = txt true d := by
  have e1 : p.map (fR false) = (p.map fun l => l.map avaT).map fun l => Lib.join l [43] := by rw [List.map_map]; rfl
  have e2 : d.map (fR true) = (d.map fun r => sortM (r.map (fA true))).map fun l => Lib.join l [43] := by rw [List.map_map]; rfl
  unfold txt
  rw [e1, e2, h.same]
theorem avaR_one (r : Rdn) : ∀ x ∈ avaR r, ∀ q ∈ x, q.oneCell' = true := by
  intro x hx q hq
  simp only [avaR, List.mem_map] at hx
  obtain ⟨a, _, rfl⟩ := hx
  rcases List.mem_cons.1 hq with rfl | hq
  . rfl
  . rw [List.mem_singleton.1 hq]; rfl
end Go.Proofs.YtibkffoeioidlaaDoor
namespace Go.Proofs.YtibkffoeioidlaaDoor
set_option linter.all false
set_option maxRecDepth 4000
open Go.RowKit

theorem rowed3 {l : List (List Value)} (h : (l.all fun r => Nat.beq r.length 3) = true) : Rowed 3 l := fun r hr => Nat.eq_of_beq_eq_true (List.all_eq_true.1 h r hr)
def ElN (nd : Nd) (okb : Bool) (u : Value) (h' : Heap) : Prop := ∃ (t : Int) (d : Bs) (A : Option Addr) (k c : Nat), u = .tuple #[.agg #[.int .i64 t, str d, .slice A k c], .bool okb] /\ (okb = true -> NodeC h' nd [.int .i64 t, str d, .slice A k c])
theorem ElN.mk_ {nd : Nd} {okb : Bool} {h' : Heap} {t : Int} {d : Bs} {A : Option Addr} {k c : Nat} (hn : NodeC h' nd [.int .i64 t, str d, .slice A k c]) : ElN nd okb (.tuple #[.agg #[.int .i64 t, str d, .slice A k c], .bool okb]) h' := ⟨t, d, A, k, c, rfl, fun _ => hn⟩
theorem ElN.mk2 {nd : Nd} {b okb : Bool} {h' : Heap} {t : Int} {d : Bs} {A : Option Addr} {k c : Nat} (hb : b = okb) (hn : NodeC h' nd [.int .i64 t, str d, .slice A k c]) : ElN nd okb (.tuple #[.agg #[.int .i64 t, str d, .slice A k c], .bool b]) h' := by
  subst hb; exact ElN.mk_ hn
theorem KidsC.of1 {h : Heap} {n : Nd} {r : List Value} (hn : NodeC h n r) {l : List Nd} {rs : List (List Value)} (hl : KidsC h l rs) : KidsC h (n :: l) (r :: rs) := by
  simp only [KidsC]
  exact ⟨r, rs, rfl, hn, hl⟩
theorem KidsC.nil_ (h : Heap) : KidsC h [] [] := by simp only [KidsC]
end Go.Proofs.YtibkffoeioidlaaDoor
namespace Go.Proofs.YtibkffoeioidlaaDoor
set_option linter.all false
set_option maxRecDepth 4000
open Go.RowKit
theorem G.blkRow {E : Env} {ks : List It} {f : Fr} {h : Heap} {H Hr : List Chunk} {g n : Nat} {cs : List Value} {e : TypeId} (sz : Nat) (rows : List (List Value)) (t : Take (.blk g cs e) H Hr) (hr : rows.flatten = cs) (hw : Rowed sz rows) (hn : n = rows.length) (hm : n <= maxLen)
    (next : G E ks f h (.row (.slice (some ⟨g, 0, none⟩) n n) e sz rows :: Hr)) : G E ks f h H :=
  ⟨fun ac w hac hw' => next.run ac w hac (hw'.swapRow t hr hw hn hm)⟩
end Go.Proofs.YtibkffoeioidlaaDoor
namespace Go.Proofs.YtibkffoeioidlaaDoor
set_option linter.all false
set_option maxRecDepth 4000
open Go.RowKit

def MsU (h : Heap) (m : Ms) (u : Value) : Prop := ∃ pv kv nv av mv cv, u = .agg (msR m pv kv nv av mv cv).toArray /\ MsV h m pv kv nv av mv cv
theorem MsU.mk_ {h : Heap} {m : Ms} {pv kv nv av mv cv : Value} (hV : MsV h m pv kv nv av mv cv) : MsU h m (.agg (msR m pv kv nv av mv cv).toArray) := ⟨pv, kv, nv, av, mv, cv, rfl, hV⟩
end Go.Proofs.YtibkffoeioidlaaDoor
namespace Go.Proofs.YtibkffoeioidlaaDoor
set_option linter.all false
set_option maxRecDepth 4000
open Go.RowKit

def Msg (w : List UInt8) : Prop := 0 < w.length /\ ∀ t, cutM (w ++ t) = ((w.length : Int), 0)
theorem flatten_cons (w : List UInt8) (ws : List (List UInt8)) : (w :: ws).flatten = w ++ ws.flatten := rfl
end Go.Proofs.YtibkffoeioidlaaDoor
namespace Go.Proofs.YtibkffoeioidlaaDoor
set_option linter.all false
set_option maxRecDepth 4000
open Go.RowKit

theorem RdR.ok_inv {m : Ms} {u : Value} {h' : Heap} (h : RdR (.ok m) u h') : ∃ pv kv nv av mv cv, u = .tuple #[.agg (msR m pv kv nv av mv cv).toArray, .int .i64 0] /\ MsV h' m pv kv nv av mv cv := by
  obtain ⟨m', pv, kv, nv, av, mv, cv, e, rfl, hV, ⟨rfl, h⟩ | ⟨_, h, _⟩⟩ := h
  . injection h with h
    subst h
    exact ⟨_, _, _, _, _, _, rfl, hV⟩
  . cases h
theorem RdR.err_inv {x : Int} {u : Value} {h' : Heap} (h : RdR (.error x) u h') : x ≠ 0 /\ ∃ pv kv nv av mv cv, u = .tuple #[.agg (msR zM pv kv nv av mv cv).toArray, .int .i64 x] /\ MsV h' zM pv kv nv av mv cv := by
  obtain ⟨m', pv, kv, nv, av, mv, cv, e, rfl, hV, ⟨rfl, h⟩ | ⟨he, h, rfl⟩⟩ := h
  . cases h
  . injection h with h
    subst h
    exact ⟨he, _, _, _, _, _, _, rfl, hV⟩
def awN : Ms := { zM with id := 1, op := 0, ver := 3 }
theorem aw2 : writeM awN = ([48, 12, 2, 1, 1, 96, 7, 2, 1, 3, 4, 0, 128, 0], 0) := by kernel_rfl
theorem awN_I : MsI awN := by
  constructor <;> first | (simp only [inR, awN, zM]; omega) | (intro x hx; cases hx)
end Go.Proofs.YtibkffoeioidlaaDoor
