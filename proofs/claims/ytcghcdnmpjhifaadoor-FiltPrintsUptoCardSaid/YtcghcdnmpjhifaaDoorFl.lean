/- Filters: trees, and what they look like in memory that is only read. -/
import Derived.Test.YtcghcdnmpjhifaaDoorLtM import Derived.Test.YtcghcdnmpjhifaaDoorTy
namespace Go.Proofs.YtcghcdnmpjhifaaDoor
set_option linter.all false
set_option maxRecDepth 4000
open Go.RowKit

abbrev Pcs := List (Int × List UInt8)
inductive Fl where
  | mk (kind : Int) (attr value : List UInt8) (pieces : Pcs) (kids : List Fl)
def Fl.kind : Fl -> Int | .mk k _ _ _ _ => k
def Fl.attr : Fl -> List UInt8 | .mk _ a _ _ _ => a
def Fl.value : Fl -> List UInt8 | .mk _ _ v _ _ => v
def Fl.pieces : Fl -> Pcs | .mk _ _ _ p _ => p
def Fl.kids : Fl -> List Fl | .mk _ _ _ _ k => k
def pcsR (ps : Pcs) : List (List Value) := ps.map fun p => [.int .i64 p.1, str p.2]
theorem pcsR_length (ps : Pcs) : (pcsR ps).length = ps.length := by simp [pcsR]

mutual
def FlC (h : Heap) : Fl -> List Value -> Prop
  | .mk k a v ps ks, r => ∃ pv kv rows, r = [.int .i64 k, str a, str v, pv, kv] /\ HSl h pv 2 (pcsR ps) /\ HSl h kv 5 rows /\ FlsC h ks rows
def FlsC (h : Heap) : List Fl -> List (List Value) -> Prop
  | [], rows => rows = []
  | k :: ks, rows => ∃ r rs, rows = r :: rs /\ FlC h k r /\ FlsC h ks rs
end
mutual
theorem FlC.mono {h h' : Heap} (hl : Heap.le h h') : ∀ (n : Fl) (r : List Value), FlC h n r -> FlC h' n r
  | .mk k a v ps ks, r, hn => by
    simp only [FlC] at hn ⊢
    obtain ⟨pv, kv, rows, e, hp, hs, hk⟩ := hn
    exact ⟨pv, kv, rows, e, hp.mono hl, hs.mono hl, FlsC.mono hl ks rows hk⟩
theorem FlsC.mono {h h' : Heap} (hl : Heap.le h h') : ∀ (l : List Fl) (rows : List (List Value)), FlsC h l rows -> FlsC h' l rows
  | [], rows, hk => by simpa only [FlsC] using hk
  | k :: ks, rows, hk => by
    simp only [FlsC] at hk ⊢
    obtain ⟨r, rs, e, h1, h2⟩ := hk
    exact ⟨r, rs, e, FlC.mono hl k r h1, FlsC.mono hl ks rs h2⟩
end
theorem FlsC.append {h : Heap} : ∀ {a b : List Fl} {ra rb : List (List Value)}, FlsC h a ra -> FlsC h b rb -> FlsC h (a ++ b) (ra ++ rb)
  | [], b, ra, rb, ha, hb => by simp only [FlsC] at ha; subst ha; exact hb
  | k :: ks, b, ra, rb, ha, hb => by
    simp only [FlsC] at ha
    obtain ⟨r, rs, rfl, h1, h2⟩ := ha
    simp only [List.cons_append, FlsC]
    exact ⟨r, rs ++ rb, rfl, h1, FlsC.append h2 hb⟩
theorem FlsC.one {h : Heap} {n : Fl} {r : List Value} (hn : FlC h n r) : FlsC h [n] [r] := by
  simp only [FlsC]
  exact ⟨r, [], rfl, hn, rfl⟩
theorem FlsC.nil (h : Heap) : FlsC h [] [] := by simp only [FlsC]
theorem FlsC.len {h : Heap} : ∀ {a : List Fl} {ra : List (List Value)}, FlsC h a ra -> ra.length = a.length
  | [], ra, ha => by simp only [FlsC] at ha; subst ha; rfl
  | k :: ks, ra, ha => by
    simp only [FlsC] at ha
    obtain ⟨r, rs, rfl, _, h2⟩ := ha
    simp [FlsC.len h2]
theorem FlsC.get {h : Heap} : ∀ {a : List Fl} {ra : List (List Value)} {i : Nat} {n : Fl}, FlsC h a ra -> a[i]? = some n -> ∃ r, ra[i]? = some r /\ FlC h n r
  | [], ra, i, n, _, hi => by simp at hi
  | k :: ks, ra, i, n, ha, hi => by
    simp only [FlsC] at ha
    obtain ⟨r, rs, rfl, h1, h2⟩ := ha
    cases i with
    | zero => simp at hi; subst hi; exact ⟨r, rfl, h1⟩
    | succ i => simp at hi; obtain ⟨r', h3, h4⟩ := FlsC.get h2 hi; exact ⟨r', by simpa using h3, h4⟩
theorem FlC.mk_ {h : Heap} {k : Int} {a v : List UInt8} {ps : Pcs} {ks : List Fl} {pv kv : Value} {rows : List (List Value)} (hp : HSl h pv 2 (pcsR ps)) (hs : HSl h kv 5 rows) (hk : FlsC h ks rows) : FlC h (.mk k a v ps ks) [.int .i64 k, str a, str v, pv, kv] := by
  simp only [FlC]
  exact ⟨pv, kv, rows, rfl, hp, hs, hk⟩
theorem FlC.open_ {h : Heap} {k : Int} {a v : List UInt8} {ps : Pcs} {ks : List Fl} {r : List Value} (hn : FlC h (.mk k a v ps ks) r) : ∃ pv kv rows, r = [.int .i64 k, str a, str v, pv, kv] /\ HSl h pv 2 (pcsR ps) /\ HSl h kv 5 rows /\ FlsC h ks rows := by
  simpa only [FlC] using hn
theorem FlC.shape {h : Heap} {f : Fl} {r : List Value} (hn : FlC h f r) : ∃ pv kv rows, r = [.int .i64 f.kind, str f.attr, str f.value, pv, kv] /\ HSl h pv 2 (pcsR f.pieces) /\ HSl h kv 5 rows /\ FlsC h f.kids rows := by
  cases f
  exact hn.open_
def zF : Fl := .mk 0 [] [] [] []
theorem zF_C (h : Heap) : FlC h zF [.int .i64 0, str [], str [], .slice none 0 0, .slice none 0 0] := FlC.mk_ (HSl.nil h 2) (HSl.nil h 5) (FlsC.nil h)
end Go.Proofs.YtcghcdnmpjhifaaDoor
