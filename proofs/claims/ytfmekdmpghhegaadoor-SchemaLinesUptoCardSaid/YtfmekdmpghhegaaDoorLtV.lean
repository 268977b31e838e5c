/- Rows whose elements are told by a relation, one by one. -/
import Derived.Test.YtfmekdmpghhegaaDoorLtM
namespace Go.Proofs.YtfmekdmpghhegaaDoor
set_option linter.all false
set_option maxRecDepth 4000
open Go.RowKit

def LC {α : Type} (R : Heap -> α -> List Value -> Prop) (h : Heap) : List α -> List (List Value) -> Prop
  | [], rows => rows = []
  | a :: l, rows => ∃ r rest, rows = r :: rest /\ R h a r /\ LC R h l rest
theorem LC.mono {α : Type} {R : Heap -> α -> List Value -> Prop} {h h' : Heap} (hR : ∀ {a r}, R h a r -> R h' a r) : ∀ {l : List α} {rows : List (List Value)}, LC R h l rows -> LC R h' l rows
  | [], _, e => e
  | _ :: _, _, ⟨v, rest, e, h1, h2⟩ => ⟨v, rest, e, hR h1, h2.mono hR⟩
theorem LC.len {α : Type} {R : Heap -> α -> List Value -> Prop} {h : Heap} : ∀ {l : List α} {rows : List (List Value)}, LC R h l rows -> rows.length = l.length
  | [], _, e => by simp only [LC] at e; subst e; rfl
  | _ :: _, _, ⟨v, rest, e, h1, h2⟩ => by subst e; simp [h2.len]
theorem LC.append {α : Type} {R : Heap -> α -> List Value -> Prop} {h : Heap} : ∀ {a b : List α} {ra rb : List (List Value)}, LC R h a ra -> LC R h b rb -> LC R h (a ++ b) (ra ++ rb)
  | [], b, ra, rb, ha, hb => by simp only [LC] at ha; subst ha; exact hb
  | _ :: _, b, ra, rb, ⟨v, rest, e, h1, h2⟩, hb => by subst e; exact ⟨v, rest ++ rb, rfl, h1, h2.append hb⟩
theorem LC.one {α : Type} {R : Heap -> α -> List Value -> Prop} {h : Heap} {a : α} {r : List Value} (hv : R h a r) : LC R h [a] [r] := ⟨r, [], rfl, hv, rfl⟩
theorem LC.get {α : Type} {R : Heap -> α -> List Value -> Prop} {h : Heap} : ∀ {l : List α} {rows : List (List Value)} {i : Nat} {a : α}, LC R h l rows -> l[i]? = some a -> ∃ r, rows[i]? = some r /\ R h a r
  | [], _, i, r, _, hi => by simp at hi
  | _ :: _, _, 0, r, ⟨v, rest, e, h1, h2⟩, hi => by simp at hi; subst hi; subst e; exact ⟨v, rfl, h1⟩
  | _ :: _, _, i + 1, r, ⟨v, rest, e, h1, h2⟩, hi => by
    subst e
    simp at hi
    obtain ⟨v', h3, h4⟩ := h2.get hi
    exact ⟨v', by simpa using h3, h4⟩
theorem LC.drop {α : Type} {R : Heap -> α -> List Value -> Prop} {h : Heap} : ∀ {l : List α} {rows : List (List Value)} (i : Nat), LC R h l rows -> LC R h (l.drop i) (rows.drop i)
  | _, _, 0, e => by simpa using e
  | [], _, i + 1, e => by simp only [LC] at e; subst e; simp [LC]
  | _ :: _, _, i + 1, ⟨v, rest, e, h1, h2⟩ => by subst e; simpa using h2.drop i
theorem LC.take {α : Type} {R : Heap -> α -> List Value -> Prop} {h : Heap} : ∀ {l : List α} {rows : List (List Value)} (i : Nat), LC R h l rows -> LC R h (l.take i) (rows.take i)
  | _, _, 0, e => by simp [LC]
  | [], _, i + 1, e => by simp only [LC] at e; subst e; simp [LC]
  | _ :: _, _, i + 1, ⟨v, rest, e, h1, h2⟩ => by subst e; exact ⟨v, rest.take i, by simp, h1, h2.take i⟩
theorem LC.rowed {α : Type} {R : Heap -> α -> List Value -> Prop} {h : Heap} {n : Nat} (hR : ∀ {a r}, R h a r -> r.length = n) : ∀ {l : List α} {rows : List (List Value)}, LC R h l rows -> Rowed n rows
  | [], _, e => by simp only [LC] at e; subst e; intro r hr; simp at hr
  | _ :: _, _, ⟨v, rest, e, h1, h2⟩ => by
    subst e
    intro r hr
    rcases List.mem_cons.1 hr with rfl | hr
    . exact hR h1
    . exact h2.rowed hR r hr
theorem LC.all {α : Type} {R : Heap -> α -> List Value -> Prop} {h : Heap} {p : List Value -> Prop} (hR : ∀ {a r}, R h a r -> p r) : ∀ {l : List α} {rows : List (List Value)}, LC R h l rows -> ∀ r ∈ rows, p r
  | [], _, e => by simp only [LC] at e; subst e; intro r hr; simp at hr
  | _ :: _, _, ⟨v, rest, e, h1, h2⟩ => by
    subst e
    intro r hr
    rcases List.mem_cons.1 hr with rfl | hr
    . exact hR h1
    . exact h2.all hR r hr
theorem LC.of {α : Type} {R : Heap -> α -> List Value -> Prop} {h : Heap} : ∀ (l : List α) (rows : List (List Value)), l.length = rows.length -> (∀ (i : Nat) b, l[i]? = some b -> ∃ r, rows[i]? = some r /\ R h b r) -> LC R h l rows
  | [], [], _, _ => rfl
  | [], _ :: _, h, _ => by simp at h
  | _ :: _, [], h, _ => by simp at h
  | b :: l, r :: rows, h, hr => by
    obtain ⟨r0, h0, h1⟩ := hr 0 b rfl
    simp only [List.getElem?_cons_zero, Option.some.injEq] at h0
    have ih := LC.of l rows (by simpa using h) (fun i b' hb => by simpa using hr (i + 1) b' (by simpa using hb))
    exact ⟨r, rows, rfl, h0 ▸ h1, ih⟩
def SC {α : Type} (R : Heap -> α -> List Value -> Prop) (n : Nat) (h : Heap) (l : List α) (v : Value) : Prop := ∃ rows, HSl h v n rows /\ LC R h l rows
theorem SC.mono {α : Type} {R : Heap -> α -> List Value -> Prop} {n : Nat} {h h' : Heap} (hR : ∀ {a r}, R h a r -> R h' a r) (hl : Heap.le h h') {l : List α} {v : Value} : SC R n h l v -> SC R n h' l v
  | ⟨rows, h1, h2⟩ => ⟨rows, h1.mono hl, h2.mono hR⟩
theorem SC.nil {α : Type} (R : Heap -> α -> List Value -> Prop) (n : Nat) (h : Heap) : SC R n h [] (.slice none 0 0) := ⟨[], HSl.nil h n, rfl⟩
theorem SC.form {α : Type} {R : Heap -> α -> List Value -> Prop} {n : Nat} {h : Heap} {l : List α} {v : Value} : SC R n h l v -> ∃ A c, v = .slice A l.length c /\ l.length <= c /\ l.length <= 9223372036854775807
  | ⟨rows, h1, h2⟩ => by
    obtain ⟨A, c, e, h3, h4, _⟩ := h1.form
    rw [h2.len] at e h3
    simp only [maxLen] at h4
    exact ⟨A, c, e, h3, by omega⟩
theorem G.blkNil {E : Env} {k : List It} {f : Fr} {h : Heap} {H Hr : List Chunk} {g : Nat} {e : TypeId} (sz : Nat) (t : Take (.blk g [] e) H Hr) (n : G E k f h (.row (.slice (some ⟨g, 0, none⟩) 0 0) e sz [] :: Hr)) : G E k f h H :=
  ⟨fun ac w hac hw => n.run ac w hac (hw.swapRow t rfl (fun r hr => absurd hr (by simp)) rfl (by decide))⟩
theorem take_get {α : Type} {l : List α} {i : Nat} {x : α} (h : l[i]? = some x) : l.take (i + 1) = l.take i ++ [x] := by
  have hi := (List.getElem?_eq_some_iff.1 h).1
  have e := (List.getElem?_eq_some_iff.1 h).2
  rw [List.take_succ_eq_append_getElem hi, e]
end Go.Proofs.YtfmekdmpghhegaaDoor
