/- Flat structs with structs in them, and rows of these. -/
import Derived.Test.YtpcfnhjeacahdaaFlat
namespace Go.Proofs.Ytpcfnhjeacahdaa
set_option linter.all false
open Go.ChangeShapes Go.WideShapes Go.RowKit

theorem FlatC.app : ∀ {ts ts' : List TD} {r r' : List Value}, FlatC ts r → FlatC ts' r' → FlatC (ts ++ ts') (r ++ r')
  | _, _, _, _, .nil, k => k
  | _, _, _, _, .int h1 h, k => .int h1 (h.app k)
  | _, _, _, _, .str h1 h, k => .str h1 (h.app k)
  | _, _, _, _, .bool h, k => .bool (h.app k)
def flatN (P : Program) : List Field → Nat → List (List TD) → Bool
  | [], _, [] => true
  | f :: fl, i, tds :: rest => Nat.beq f.offset i && Nat.beq (P.cellsOf f.type) tds.length && (match P.underlying f.type with
    | some (.struct fs) => flatT P fs.toList 0 tds && Nat.beq fs.toList.length tds.length
    | some (.int k') => (match tds with | [.int k] => sameKind k k' | _ => false)
    | some .string => (match tds with | [.str] => true | _ => false)
    | some .bool => (match tds with | [.bool] => true | _ => false)
    | _ => false) && flatN P fl (i + tds.length) rest
  | _, _, _ => false
section
variable {H : Type} {enc : TypeId × Value → H} {W : World} {P : Program}
theorem drop_some {l : List Value} {i n : Nat} (h : i + n ≤ l.length) : l.drop i = (l.drop i).take n ++ l.drop (i + n) := by
  rw [← List.drop_drop, List.take_append_drop]
theorem flatN_fields {n : Nat} {cs : List Value} : ∀ (fl : List Field) (i : Nat) (tds : List (List TD)), flatN P fl i tds = true → cs.length = i + tds.flatten.length →
    (∀ (j : Nat) (f : Field), fl[j]? = some f → ∃ y, DataW.trod enc P W 0 (fun _ => true) true n f.type ((cs.drop f.offset).take (P.cellsOf f.type)) = some y) → FlatC tds.flatten (cs.drop i)
  | [], i, [], _, hl, _ => by rw [List.drop_eq_nil_of_le (by simp at hl; omega)]; exact .nil
  | [], _, _ :: _, h, _, _ => by simp [flatN] at h
  | _ :: _, _, [], h, _, _ => by simp [flatN] at h
  | f :: fl, i, td :: tds, h, hl, hy => by
    simp only [flatN, Bool.and_eq_true] at h
    obtain ⟨⟨⟨h1, h2⟩, h3⟩, h4⟩ := h
    have e1 := Nat.eq_of_beq_eq_true h1
    have e2 := Nat.eq_of_beq_eq_true h2
    simp only [List.flatten_cons, List.length_append] at hl
    have ih := flatN_fields fl (i + td.length) tds h4 (by omega) (fun j g hg => hy (j + 1) g (by simpa using hg))
    obtain ⟨y, h0⟩ := hy 0 f rfl
    rw [e1, e2] at h0
    rw [drop_some (l := cs) (i := i) (n := td.length) (by omega), List.flatten_cons]
    refine FlatC.app ?_ ih
    generalize (cs.drop i).take td.length = c at *
    split at h3
    · rename_i fs hu
      simp only [Bool.and_eq_true] at h3
      have e3 := Nat.eq_of_beq_eq_true h3.2
      exact flat_open hu h3.1 (by rw [e2, e3]) h0
    · rename_i k' hu
      split at h3
      · rename_i k
        have := sameKind_eq h3
        subst this
        obtain ⟨m, hc, _, hw⟩ := DataW.trod_int hu h0
        subst hc
        exact .int (inR_of_wf hw) .nil
      · cases h3
    · rename_i hu
      split at h3
      · obtain ⟨s, hc, _, hw⟩ := DataW.trod_string hu h0
        subst hc
        rw [string_eq]
        refine .str ?_ .nil
        have h9 : s.data.toList.length ≤ maxLen := hw
        simp only [maxLen] at h9; omega
      · cases h3
    · rename_i hu
      split at h3
      · obtain ⟨b, hc, _⟩ := DataW.trod_bool hu h0
        subst hc
        exact .bool .nil
      · cases h3
    · cases h3
theorem flatN_open {t : TypeId} {fs : Array Field} {tds : List (List TD)} {fuel : Nat} {cs : List Value} {x : DataW H × List MemPlace} (ht : P.underlying t = some (.struct fs)) (hf : flatN P fs.toList 0 tds = true) (hc : P.cellsOf t = tds.flatten.length)
    (h : DataW.trod enc P W 0 (fun _ => true) true fuel t cs = some x) : FlatC tds.flatten cs := by
  obtain ⟨xs, n, _, _, hl, hlen, hfl⟩ := DataW.trod_struct ht h
  have := flatN_fields (enc := enc) (W := W) (n := n) (cs := cs) fs.toList 0 tds hf (by rw [hl, hc]; omega) (fun j f hj => by
    have hj' : fs[j]? = some f := by simpa using hj
    have hlt : j < xs.length := by rw [hlen]; exact (Array.getElem?_eq_some_iff.1 hj').1
    exact ⟨xs[j], by rw [hfl j f hj', List.getElem?_eq_getElem hlt]⟩)
  simpa using this
/-- A row of such structs that came in. -/
theorem flatNs_open {t e : TypeId} {fs : Array Field} {tds : List (List TD)} {fuel : Nat} {v : Value} {x : DataW H × List MemPlace} (hs : P.underlying t = some (.slice e)) (ht : P.underlying e = some (.struct fs)) (hf : flatN P fs.toList 0 tds = true)
    (hc : P.cellsOf e = tds.flatten.length) (h : DataW.trod enc P W 0 (fun _ => true) true fuel t [v] = some x) :
    ∃ rows : List (List Value), HSl (heapOf W) v tds.flatten.length rows ∧ ∀ r ∈ rows, FlatC tds.flatten r := by
  rcases DataW.trod_slice hs h with ⟨hc1, hy⟩ | ⟨a, len, cap, elems, rest, n', hn', hc1, hy, _, hl1, hm1, hlen1, hel, _, _⟩
  · simp only [List.cons.injEq, and_true] at hc1
    subst hc1
    exact ⟨[], HSl.nil _ _, fun r hr => absurd hr (by simp)⟩
  · simp only [List.cons.injEq, and_true] at hc1
    subst hc1
    rw [hc] at hel
    obtain ⟨rows, h1, h2, h3, h4⟩ := flats_go (fun cs x hh => flatN_open ht hf hc hh) hlen1 hel len (Nat.le_refl _)
    exact ⟨rows, ⟨h2, some a, cap, by rw [h1], by rw [h1]; exact hl1, hm1, fun _ => ⟨a, rfl, h4⟩⟩, h3⟩
end
end Go.Proofs.Ytpcfnhjeacahdaa
