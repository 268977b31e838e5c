/- Filters: trees, and what they look like in memory that is only read. -/
import Derived.Test.YtibkffoeioidlaaDoorLtM
import Derived.Test.YtibkffoeioidlaaDoorTy
import Derived.Test.YtibkffoeioidlaaDoorDnA
import Derived.Test.YtibkffoeioidlaaDoorLtP
import Derived.Maps.RangeRun
import Derived.Lib.OthersKept
import Derived.Lib.DecodeN
import Derived.Test.YtibkffoeioidlaaDoorShG
import Derived.Test.YtibkffoeioidlaaDoorProg
import Derived.Ground.NamesProg
import Derived.Shelf.Small.Strs
import Derived.Shelf.Strings.Cut
import Derived.Shelf.Strings.Search2
import Derived.Shelf.Strings.IndexAnyAll
import Derived.Shelf.Strings.Count
import Derived.Laws.Runes
import Derived.KernelRfl
namespace Go.Proofs.YtibkffoeioidlaaDoor
set_option linter.all false
set_option maxRecDepth 4000
open Go.RowKit

abbrev Pcs := List (Int × List UInt8)
inductive Fl where
  | mk (kind : Int) (attr value : List UInt8) (pieces : Pcs) (kids : List Fl)
def Fl.kind : Fl -> Int | .mk k _ _ _ _ => k
def Fl.attr : Fl -> List UInt8 | .mk _ a _ _ _ => a
def Fl.value : Fl -> List UInt8 | .mk _ _ v _ _ => v
def Fl.pieces : Fl -> Pcs | .mk _ _ _ p _ => p
def Fl.kids : Fl -> List Fl | .mk _ _ _ _ k => k
def pcsR (ps : Pcs) : List (List Value) := ps.map fun p => [.int .i64 p.1, str p.2]
theorem pcsR_length (ps : Pcs) : (pcsR ps).length = ps.length := by simp [pcsR]

mutual
def FlC (h : Heap) : Fl -> List Value -> Prop
  | .mk k a v ps ks, r => ∃ pv kv rows, r = [.int .i64 k, str a, str v, pv, kv] /\ HSl h pv 2 (pcsR ps) /\ HSl h kv 5 rows /\ FlsC h ks rows
def FlsC (h : Heap) : List Fl -> List (List Value) -> Prop
  | [], rows => rows = []
  | k :: ks, rows => ∃ r rs, rows = r :: rs /\ FlC h k r /\ FlsC h ks rs
end
mutual
theorem FlC.mono {h h' : Heap} (hl : Heap.le h h') : ∀ (n : Fl) (r : List Value), FlC h n r -> FlC h' n r
  | .mk k a v ps ks, r, hn => by
    simp only [FlC] at hn ⊢
    obtain ⟨pv, kv, rows, e, hp, hs, hk⟩ := hn
    exact ⟨pv, kv, rows, e, hp.mono hl, hs.mono hl, FlsC.mono hl ks rows hk⟩
theorem FlsC.mono {h h' : Heap} (hl : Heap.le h h') : ∀ (l : List Fl) (rows : List (List Value)), FlsC h l rows -> FlsC h' l rows
  | [], rows, hk => by simpa only [FlsC] using hk
  | k :: ks, rows, hk => by
    simp only [FlsC] at hk ⊢
    obtain ⟨r, rs, e, h1, h2⟩ := hk
    exact ⟨r, rs, e, FlC.mono hl k r h1, FlsC.mono hl ks rs h2⟩
end
theorem FlsC.append {h : Heap} : ∀ {a b : List Fl} {ra rb : List (List Value)}, FlsC h a ra -> FlsC h b rb -> FlsC h (a ++ b) (ra ++ rb)
  | [], b, ra, rb, ha, hb => by simp only [FlsC] at ha; subst ha; exact hb
  | k :: ks, b, ra, rb, ha, hb => by
    simp only [FlsC] at ha
    obtain ⟨r, rs, rfl, h1, h2⟩ := ha
    simp only [List.cons_append, FlsC]
    exact ⟨r, rs ++ rb, rfl, h1, FlsC.append h2 hb⟩
theorem FlsC.one {h : Heap} {n : Fl} {r : List Value} (hn : FlC h n r) : FlsC h [n] [r] := by
  simp only [FlsC]
  exact ⟨r, [], rfl, hn, rfl⟩
theorem FlsC.nil (h : Heap) : FlsC h [] [] := by simp only [FlsC]
theorem FlsC.len {h : Heap} : ∀ {a : List Fl} {ra : List (List Value)}, FlsC h a ra -> ra.length = a.length
  | [], ra, ha => by simp only [FlsC] at ha; subst ha; rfl
  | k :: ks, ra, ha => by
    simp only [FlsC] at ha
    obtain ⟨r, rs, rfl, _, h2⟩ := ha
    simp [FlsC.len h2]
theorem FlsC.get {h : Heap} : ∀ {a : List Fl} {ra : List (List Value)} {i : Nat} {n : Fl}, FlsC h a ra -> a[i]? = some n -> ∃ r, ra[i]? = some r /\ FlC h n r
  | [], ra, i, n, _, hi => by simp at hi
  | k :: ks, ra, i, n, ha, hi => by
    simp only [FlsC] at ha
    obtain ⟨r, rs, rfl, h1, h2⟩ := ha
    cases i with
    | zero => simp at hi; subst hi; exact ⟨r, rfl, h1⟩
    | succ i => simp at hi; obtain ⟨r', h3, h4⟩ := FlsC.get h2 hi; exact ⟨r', by simpa using h3, h4⟩
theorem FlC.mk_ {h : Heap} {k : Int} {a v : List UInt8} {ps : Pcs} {ks : List Fl} {pv kv : Value} {rows : List (List Value)} (hp : HSl h pv 2 (pcsR ps)) (hs : HSl h kv 5 rows) (hk : FlsC h ks rows) : FlC h (.mk k a v ps ks) [.int .i64 k, str a, str v, pv, kv] := by
  simp only [FlC]
  exact ⟨pv, kv, rows, rfl, hp, hs, hk⟩
theorem FlC.open_ {h : Heap} {k : Int} {a v : List UInt8} {ps : Pcs} {ks : List Fl} {r : List Value} (hn : FlC h (.mk k a v ps ks) r) : ∃ pv kv rows, r = [.int .i64 k, str a, str v, pv, kv] /\ HSl h pv 2 (pcsR ps) /\ HSl h kv 5 rows /\ FlsC h ks rows := by
  simpa only [FlC] using hn
theorem FlC.shape {h : Heap} {f : Fl} {r : List Value} (hn : FlC h f r) : ∃ pv kv rows, r = [.int .i64 f.kind, str f.attr, str f.value, pv, kv] /\ HSl h pv 2 (pcsR f.pieces) /\ HSl h kv 5 rows /\ FlsC h f.kids rows := by
  cases f
  exact hn.open_
def zF : Fl := .mk 0 [] [] [] []
theorem zF_C (h : Heap) : FlC h zF [.int .i64 0, str [], str [], .slice none 0 0, .slice none 0 0] := FlC.mk_ (HSl.nil h 2) (HSl.nil h 5) (FlsC.nil h)
end Go.Proofs.YtibkffoeioidlaaDoor
namespace Go.Proofs.YtibkffoeioidlaaDoor
set_option linter.all false
set_option maxRecDepth 4000
open Go.RowKit

def sameT (a b : List UInt8) : Bool := decide (foldM a = foldM b)
def hasM (r : Rdn) (t : List UInt8) : Bool := r.any fun a => sameT a.1 t
def RdL (h : Heap) (v : Value) (e sz : Nat) (rows : List (List Value)) (L : List Chunk) : Prop := (L = [] /\ HSl h v sz rows) \/ L = [.row v e sz rows]
theorem RdL.mono {h h' : Heap} {v : Value} {e sz : Nat} {rows : List (List Value)} {L : List Chunk} (r : RdL h v e sz rows L) (hl : Heap.le h h') : RdL h' v e sz rows L := r.imp (fun x => ⟨x.1, x.2.mono hl⟩) id
end Go.Proofs.YtibkffoeioidlaaDoor
namespace Go.Proofs.YtibkffoeioidlaaDoor
set_option linter.all false
set_option maxRecDepth 4000
open Go.RowKit

theorem St.keep {h : Heap} {H : List Chunk} {w : World} (s : StI h H w) : St ⟨w, keys H, h⟩ h H w := s.start
end Go.Proofs.YtibkffoeioidlaaDoor
namespace Go.Proofs.YtibkffoeioidlaaDoor
set_option linter.all false
set_option maxRecDepth 4000
open Go.RowKit

def esB : List UInt8 := [34, 43, 44, 59, 60, 62, 92]
def wrU (first last : Bool) (c : UInt8) : List UInt8 := if c.toNat = 0 then [92, 48, 48] else if inN c.toNat esB = true \/ (first = true /\ (c.toNat = 32 \/ c.toNat = 35)) \/ (last = true /\ c.toNat = 32) then [92, c] else [c]
def wrTo (v : List UInt8) : Nat -> List UInt8
  | 0 => []
  | i + 1 => wrTo v i ++ (match v[i]? with | none => [] | some c => wrU (decide (i = 0)) (decide (i + 1 = v.length)) c)
def wrM (v : List UInt8) : List UInt8 := wrTo v v.length
end Go.Proofs.YtibkffoeioidlaaDoor
namespace Go.Proofs.YtibkffoeioidlaaDoor
set_option linter.all false
set_option maxRecDepth 4000
open Go.RowKit

theorem four {i : Nat} (h : i < 4) : i = 0 \/ i = 1 \/ i = 2 \/ i = 3 := by omega
end Go.Proofs.YtibkffoeioidlaaDoor
namespace Go.Proofs.YtibkffoeioidlaaDoor
set_option linter.all false
set_option maxRecDepth 4000
open Go.RowKit

theorem FlC.mono' {h h' : Heap} {n : Fl} {r : List Value} (hn : FlC h n r) (hl : Heap.le h h') : FlC h' n r := FlC.mono hl n r hn
theorem FlsC.mono' {h h' : Heap} {l : List Fl} {r : List (List Value)} (hn : FlsC h l r) (hl : Heap.le h h') : FlsC h' l r := FlsC.mono hl l r hn
theorem three {i : Nat} (h : i < 3) : i = 0 \/ i = 1 \/ i = 2 := by omega
end Go.Proofs.YtibkffoeioidlaaDoor
namespace Go.Proofs.YtibkffoeioidlaaDoor
set_option linter.all false
set_option maxRecDepth 4000
open Go.RowKit

mutual
def Fl.sz : Fl -> Nat
  | .mk _ _ _ _ ks => 1 + flsz ks
def flsz : List Fl -> Nat
  | [] => 0
  | k :: ks => Fl.sz k + flsz ks
end
theorem FlC.box {h : Heap} {f : Fl} {r : List Value} (hn : FlC h f r) : ∃ k a v ps ks A c B d rows, f = .mk k a v ps ks /\ r = [.int .i64 k, str a, str v, .slice A ps.length c, .slice B ks.length d] /\ HSl h (.slice A ps.length c) 2 (pcsR ps) /\ HSl h (.slice B ks.length d) 5 rows /\ FlsC h ks rows /\ rows.length = ks.length := by
  cases f with
  | mk k a v ps ks =>
    obtain ⟨pv, kv, rows, rfl, h1, h2, h3⟩ := hn.open_
    obtain ⟨A, c, rfl, _⟩ := h1.form
    obtain ⟨B, d, rfl, _⟩ := h2.form
    rw [pcsR_length] at h1
    rw [h3.len] at h2
    refine ⟨k, a, v, ps, ks, A, c, B, d, rows, rfl, ?_, h1, h2, h3, h3.len⟩
    rw [pcsR_length, h3.len]
end Go.Proofs.YtibkffoeioidlaaDoor
namespace Go.Proofs.YtibkffoeioidlaaDoor
set_option linter.all false
set_option maxRecDepth 4000
open Go.RowKit

def isEsc (b : UInt8) : Prop := b.toNat = 0 \/ b.toNat = 40 \/ b.toNat = 41 \/ b.toNat = 42 \/ b.toNat = 92
instance (b : UInt8) : Decidable (isEsc b) := by unfold isEsc; infer_instance
def pcsOkF : Bool -> Pcs -> Bool
  | _, [] => true
  | fst, (k, t) :: ps => decide (t ≠ []) && decide (k = 1 \/ (k = 0 /\ fst = true) \/ (k = 2 /\ ps = [])) && pcsOkF false ps
def pcsOk (ps : Pcs) : Bool := decide (ps ≠ []) && pcsOkF true ps
mutual
def bareF : Fl -> Fl
  | .mk k a v ps ks => if k < 0 \/ 8 < k then .mk k [] [] [] [] else if k <= 2 then .mk k [] [] [] (bareFs ks) else .mk k a (if k = 4 \/ k = 7 then [] else v) (if k = 4 then ps else []) []
def bareFs : List Fl -> List Fl
  | [] => []
  | k :: ks => bareF k :: bareFs ks
end
end Go.Proofs.YtibkffoeioidlaaDoor
namespace Go.Proofs.YtibkffoeioidlaaDoor
set_option linter.all false
set_option maxRecDepth 4000
open Go.RowKit

def pcW : Pcs -> Nat
  | [] => 0
  | (_, t) :: ps => 1 + t.length + pcW ps
mutual
def Fl.wt : Fl -> Nat
  | .mk _ a v ps ks => 1 + a.length + v.length + pcW ps + flwt ks
def flwt : List Fl -> Nat
  | [] => 0
  | k :: ks => Fl.wt k + flwt ks
end
end Go.Proofs.YtibkffoeioidlaaDoor
