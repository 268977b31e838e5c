/- Nodes: trees of a tag, data and kids, and what they look like in memory that is only read. -/
import Derived.Test.YtibkffoeioidlaaDoorLtM import Derived.Test.YtibkffoeioidlaaDoorTy
namespace Go.Proofs.YtibkffoeioidlaaDoor
set_option linter.all false
set_option maxRecDepth 4000
open Go.RowKit

inductive Nd where
  | mk (tag : Int) (data : List UInt8) (kids : List Nd)

mutual
def NodeC (h : Heap) : Nd -> List Value -> Prop
  | .mk t d ks, r => ∃ v rows, r = [.int .i64 t, str d, v] /\ HSl h v 3 rows /\ KidsC h ks rows
def KidsC (h : Heap) : List Nd -> List (List Value) -> Prop
  | [], rows => rows = []
  | k :: ks, rows => ∃ r rs, rows = r :: rs /\ NodeC h k r /\ KidsC h ks rs
end
mutual
theorem NodeC.mono {h h' : Heap} (hl : Heap.le h h') : ∀ (n : Nd) (r : List Value), NodeC h n r -> NodeC h' n r
  | .mk t d ks, r, hn => by
    simp only [NodeC] at hn ⊢
    obtain ⟨v, rows, e, hs, hk⟩ := hn
    exact ⟨v, rows, e, hs.mono hl, KidsC.mono hl ks rows hk⟩
theorem KidsC.mono {h h' : Heap} (hl : Heap.le h h') : ∀ (l : List Nd) (rows : List (List Value)), KidsC h l rows -> KidsC h' l rows
  | [], rows, hk => by simpa only [KidsC] using hk
  | k :: ks, rows, hk => by
    simp only [KidsC] at hk ⊢
    obtain ⟨r, rs, e, h1, h2⟩ := hk
    exact ⟨r, rs, e, NodeC.mono hl k r h1, KidsC.mono hl ks rs h2⟩
end
theorem KidsC.append {h : Heap} : ∀ {a b : List Nd} {ra rb : List (List Value)}, KidsC h a ra -> KidsC h b rb -> KidsC h (a ++ b) (ra ++ rb)
  | [], b, ra, rb, ha, hb => by simp only [KidsC] at ha; subst ha; exact hb
  | k :: ks, b, ra, rb, ha, hb => by
    simp only [KidsC] at ha
    obtain ⟨r, rs, rfl, h1, h2⟩ := ha
    simp only [List.cons_append, KidsC]
    exact ⟨r, rs ++ rb, rfl, h1, KidsC.append h2 hb⟩
theorem KidsC.one {h : Heap} {n : Nd} {r : List Value} (hn : NodeC h n r) : KidsC h [n] [r] := by
  simp only [KidsC]
  exact ⟨r, [], rfl, hn, rfl⟩
theorem KidsC.len {h : Heap} : ∀ {a : List Nd} {ra : List (List Value)}, KidsC h a ra -> ra.length = a.length
  | [], ra, ha => by simp only [KidsC] at ha; subst ha; rfl
  | k :: ks, ra, ha => by
    simp only [KidsC] at ha
    obtain ⟨r, rs, rfl, _, h2⟩ := ha
    simp [KidsC.len h2]
theorem KidsC.get {h : Heap} : ∀ {a : List Nd} {ra : List (List Value)} {i : Nat} {n : Nd}, KidsC h a ra -> a[i]? = some n -> ∃ r, ra[i]? = some r /\ NodeC h n r
  | [], ra, i, n, _, hi => by simp at hi
  | k :: ks, ra, i, n, ha, hi => by
    simp only [KidsC] at ha
    obtain ⟨r, rs, rfl, h1, h2⟩ := ha
    cases i with
    | zero => simp at hi; subst hi; exact ⟨r, rfl, h1⟩
    | succ i => simp at hi; obtain ⟨r', h3, h4⟩ := KidsC.get h2 hi; exact ⟨r', by simpa using h3, h4⟩
theorem NodeC.mk_ {h : Heap} {t : Int} {d : List UInt8} {ks : List Nd} {v : Value} {rows : List (List Value)} (hs : HSl h v 3 rows) (hk : KidsC h ks rows) : NodeC h (.mk t d ks) [.int .i64 t, str d, v] := by
  simp only [NodeC]
  exact ⟨v, rows, rfl, hs, hk⟩
theorem NodeC.open_ {h : Heap} {t : Int} {d : List UInt8} {ks : List Nd} {r : List Value} (hn : NodeC h (.mk t d ks) r) : ∃ v rows, r = [.int .i64 t, str d, v] /\ HSl h v 3 rows /\ KidsC h ks rows := by
  simpa only [NodeC] using hn
def zN : Nd := .mk 0 [] []
theorem zN_C (h : Heap) : NodeC h zN [.int .i64 0, str [], .slice none 0 0] := NodeC.mk_ (HSl.nil h 3) (by simp only [KidsC])
end Go.Proofs.YtibkffoeioidlaaDoor
