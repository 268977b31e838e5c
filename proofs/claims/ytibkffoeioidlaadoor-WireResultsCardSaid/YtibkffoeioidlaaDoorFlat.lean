/- Structs of texts, numbers and truths that came in, and rows of these. -/
import Derived.Test.YtibkffoeioidlaaDoorRows
import Derived.Test.YtibkffoeioidlaaDoorFlOpen
import Derived.ChangeArms
import Derived.Deep.Strs
namespace Go.Proofs.YtibkffoeioidlaaDoor
set_option linter.all false
set_option maxRecDepth 4000
open Go.ChangeShapes Go.WideShapes Go.RowKit

inductive FlatC : List TD → List Value → Prop
  | nil : FlatC [] []
  | int {k : IntKind} {n : Int} {ts : List TD} {r : List Value} : inR k n → FlatC ts r → FlatC (.int k :: ts) (.int k n :: r)
  | str {l : List UInt8} {ts : List TD} {r : List Value} : l.length ≤ 9223372036854775807 → FlatC ts r → FlatC (.str :: ts) (str l :: r)
  | bool {b : Bool} {ts : List TD} {r : List Value} : FlatC ts r → FlatC (.bool :: ts) (.bool b :: r)
theorem FlatC.len : ∀ {ts : List TD} {r : List Value}, FlatC ts r → r.length = ts.length
  | _, _, .nil => rfl
  | _, _, .int _ h => by simp [h.len]
  | _, _, .str _ h => by simp [h.len]
  | _, _, .bool h => by simp [h.len]
theorem FlatC.str_inv {ts : List TD} {r : List Value} (h : FlatC (.str :: ts) r) : ∃ (l : List UInt8) (r' : List Value), r = Go.Proofs.YtibkffoeioidlaaDoor.str l :: r' ∧ l.length ≤ 9223372036854775807 ∧ FlatC ts r' := by
  cases h with
  | str h1 h2 => exact ⟨_, _, rfl, h1, h2⟩
theorem FlatC.nil_inv {r : List Value} (h : FlatC [] r) : r = [] := by
  cases h; rfl
section
variable {H : Type} {enc : TypeId × Value → H} {W : World} {P : Program}
theorem flats_go {e sz : Nat} {tds : List TD} {n' : Nat} (ho : ∀ cs (x : DataW H × List MemPlace), DataW.trod enc P W 0 (fun _ => true) true n' e cs = some x → FlatC tds cs)
    {a : Addr} {len : Nat} {elems : List (DataW H × List MemPlace)} (hlen : elems.length = len)
    (hel : ∀ i, i < len → (W.cells? 0 (a.add (i * sz)) sz).bind (DataW.trod enc P W 0 (fun _ => true) true n' e) = elems[i]?) :
    ∀ k, k ≤ len → ∃ rows : List (List Value), rows.length = k ∧ Rowed sz rows ∧ (∀ r ∈ rows, FlatC tds r) ∧ (∀ j u, rows.flatten[j]? = some u → Heap.cell? (heapOf W) (a.add j) = some u)
  | 0, _ => ⟨[], rfl, fun r hr => absurd hr (by simp), fun r hr => absurd hr (by simp), fun j u hj => by simp at hj⟩
  | k + 1, hk => by
    obtain ⟨rows, h1, h2, h3, h4⟩ := flats_go ho hlen hel k (by omega)
    have hkl : k < elems.length := by omega
    have he := hel k (by omega)
    rw [List.getElem?_eq_getElem hkl] at he
    obtain ⟨cs, hc, ht⟩ := Option.bind_eq_some_iff.1 he
    obtain ⟨_, hcl, hat⟩ := World.cells?_some hc
    refine ⟨rows ++ [cs], by simp [h1], h2.append (fun r hr => by simp at hr; subst hr; exact hcl), fun r hr => ?_, fun j u hj => ?_⟩
    · rcases List.mem_append.1 hr with hr | hr
      · exact h3 r hr
      · simp only [List.mem_singleton] at hr; subst hr; exact ho _ _ ht
    · simp only [List.flatten_append, List.flatten_cons, List.flatten_nil, List.append_nil] at hj
      have hfl : rows.flatten.length = k * sz := by rw [flatten_length h2, h1]
      by_cases hjl : j < rows.flatten.length
      · rw [List.getElem?_append_left hjl] at hj; exact h4 j u hj
      · rw [List.getElem?_append_right (by omega)] at hj
        have hlt : j - rows.flatten.length < sz := by rw [← hcl]; exact (List.getElem?_eq_some_iff.1 hj).1
        have := hat _ hlt
        rw [hj, add_add_, show k * sz + (j - rows.flatten.length) = j by omega] at this
        exact this
theorem rows_strs : ∀ {rows : List (List Value)}, (∀ r ∈ rows, FlatC [.str] r) → ∃ L : List (List UInt8), rows = strsR L
  | [], _ => ⟨[], rfl⟩
  | r :: rows, h => by
    obtain ⟨L, rfl⟩ := rows_strs (rows := rows) (fun x hx => h x (by simp [hx]))
    obtain ⟨l, r', rfl, _, h2⟩ := (h r (by simp)).str_inv
    obtain rfl := h2.nil_inv
    exact ⟨l :: L, rfl⟩
/-- A row of texts that came in. -/
theorem strs_open {t e : TypeId} {fuel : Nat} {v : Value} {x : DataW H × List MemPlace} (hs : P.underlying t = some (.slice e)) (he : P.underlying e = some .string) (hc : P.cellsOf e = 1)
    (h : DataW.trod enc P W 0 (fun _ => true) true fuel t [v] = some x) : ∃ L : List (List UInt8), HSl (heapOf W) v 1 (strsR L) := by
  rcases DataW.trod_slice hs h with ⟨hc1, hy⟩ | ⟨a, len, cap, elems, rest, n', hn', hc1, hy, _, hl1, hm1, hlen1, hel, _, _⟩
  · simp only [List.cons.injEq, and_true] at hc1
    subst hc1
    exact ⟨[], HSl.nil _ _⟩
  · simp only [List.cons.injEq, and_true] at hc1
    subst hc1
    rw [hc] at hel
    obtain ⟨rows, h1, h2, h3, h4⟩ := flats_go (tds := [.str]) (fun cs x hh => by
      obtain ⟨s, hcs, _, hw⟩ := DataW.trod_string he hh
      subst hcs
      rw [string_eq]
      refine .str ?_ .nil
      have h9 : s.data.toList.length ≤ maxLen := hw
      simp only [maxLen] at h9; omega) hlen1 hel len (Nat.le_refl _)
    obtain ⟨L, rfl⟩ := rows_strs h3
    exact ⟨L, ⟨h2, some a, cap, by rw [h1], by rw [h1]; exact hl1, hm1, fun _ => ⟨a, rfl, h4⟩⟩⟩
end
end Go.Proofs.YtibkffoeioidlaaDoor
