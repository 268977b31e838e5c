/- Structs of texts, numbers and truths that came in, and rows of these. -/
import Derived.Test.YtpcfnhjeacahdaaRows
import Derived.Test.YtpcfnhjeacahdaaOpen
import Derived.ChangeArms
import Derived.Deep.Strs
namespace Go.Proofs.Ytpcfnhjeacahdaa
set_option linter.all false
open Go.ChangeShapes Go.WideShapes Go.RowKit

inductive FlatC : List TD → List Value → Prop
  | nil : FlatC [] []
  | int {k : IntKind} {n : Int} {ts : List TD} {r : List Value} : inR k n → FlatC ts r → FlatC (.int k :: ts) (.int k n :: r)
  | str {l : List UInt8} {ts : List TD} {r : List Value} : l.length ≤ 9223372036854775807 → FlatC ts r → FlatC (.str :: ts) (str l :: r)
  | bool {b : Bool} {ts : List TD} {r : List Value} : FlatC ts r → FlatC (.bool :: ts) (.bool b :: r)
theorem FlatC.len : ∀ {ts : List TD} {r : List Value}, FlatC ts r → r.length = ts.length
  | _, _, .nil => rfl
  | _, _, .int _ h => by simp [h.len]
  | _, _, .str _ h => by simp [h.len]
  | _, _, .bool h => by simp [h.len]
theorem FlatC.int_inv {k : IntKind} {ts : List TD} {r : List Value} (h : FlatC (.int k :: ts) r) : ∃ n r', r = .int k n :: r' ∧ inR k n ∧ FlatC ts r' := by
  cases h with
  | int h1 h2 => exact ⟨_, _, rfl, h1, h2⟩
theorem FlatC.str_inv {ts : List TD} {r : List Value} (h : FlatC (.str :: ts) r) : ∃ (l : List UInt8) (r' : List Value), r = Go.Proofs.Ytpcfnhjeacahdaa.str l :: r' ∧ l.length ≤ 9223372036854775807 ∧ FlatC ts r' := by
  cases h with
  | str h1 h2 => exact ⟨_, _, rfl, h1, h2⟩
theorem FlatC.nil_inv {r : List Value} (h : FlatC [] r) : r = [] := by
  cases h; rfl
def flatT (P : Program) : List Field → Nat → List TD → Bool
  | [], _, [] => true
  | f :: fl, i, td :: tds => Nat.beq f.offset i && Nat.beq (P.cellsOf f.type) 1 && (match td, P.underlying f.type with
    | .int k, some (.int k') => sameKind k k'
    | .str, some .string => true
    | .bool, some .bool => true
    | _, _ => false) && flatT P fl (i + 1) tds
  | _, _, _ => false
section
variable {H : Type} {enc : TypeId × Value → H} {W : World} {P : Program}
theorem drop_one {α : Type} {l : List α} {i : Nat} (h : i < l.length) : ∃ c, l.drop i = c :: l.drop (i + 1) ∧ (l.drop i).take 1 = [c] := by
  refine ⟨l[i], List.drop_eq_getElem_cons h, ?_⟩
  rw [List.drop_eq_getElem_cons h]; rfl
theorem flat_fields {n : Nat} {cs : List Value} : ∀ (fl : List Field) (i : Nat) (tds : List TD), flatT P fl i tds = true → cs.length = i + fl.length →
    (∀ (j : Nat) (f : Field), fl[j]? = some f → ∃ y, DataW.trod enc P W 0 (fun _ => true) true n f.type ((cs.drop f.offset).take (P.cellsOf f.type)) = some y) → FlatC tds (cs.drop i)
  | [], i, [], _, hl, _ => by rw [List.drop_eq_nil_of_le (by simp at hl; omega)]; exact .nil
  | [], _, _ :: _, h, _, _ => by simp [flatT] at h
  | _ :: _, _, [], h, _, _ => by simp [flatT] at h
  | f :: fl, i, td :: tds, h, hl, hy => by
    simp only [flatT, Bool.and_eq_true] at h
    obtain ⟨⟨⟨h1, h2⟩, h3⟩, h4⟩ := h
    have e1 := Nat.eq_of_beq_eq_true h1
    have e2 := Nat.eq_of_beq_eq_true h2
    have ih := flat_fields fl (i + 1) tds h4 (by simp only [List.length_cons] at hl; omega) (fun j g hg => hy (j + 1) g (by simpa using hg))
    obtain ⟨y, h0⟩ := hy 0 f rfl
    obtain ⟨c, d1, d2⟩ := drop_one (l := cs) (i := i) (by simp only [List.length_cons] at hl; omega)
    rw [e1, e2, d2] at h0
    rw [d1]
    split at h3
    · rename_i k k' hu
      have := sameKind_eq h3
      subst this
      obtain ⟨m, hc, _, hw⟩ := DataW.trod_int hu h0
      injection hc with hc
      subst hc
      exact .int (inR_of_wf hw) ih
    · rename_i hu
      obtain ⟨s, hc, _, hw⟩ := DataW.trod_string hu h0
      injection hc with hc
      subst hc
      rw [string_eq]
      refine .str ?_ ih
      have h9 : s.data.toList.length ≤ maxLen := hw
      simp only [maxLen] at h9; omega
    · rename_i hu
      obtain ⟨b, hc, _⟩ := DataW.trod_bool hu h0
      injection hc with hc
      subst hc
      exact .bool ih
    · cases h3
theorem flat_open {t : TypeId} {fs : Array Field} {tds : List TD} {fuel : Nat} {cs : List Value} {x : DataW H × List MemPlace} (ht : P.underlying t = some (.struct fs)) (hf : flatT P fs.toList 0 tds = true) (hc : P.cellsOf t = fs.toList.length)
    (h : DataW.trod enc P W 0 (fun _ => true) true fuel t cs = some x) : FlatC tds cs := by
  obtain ⟨xs, n, _, _, hl, hlen, hfl⟩ := DataW.trod_struct ht h
  have := flat_fields (enc := enc) (W := W) (n := n) (cs := cs) fs.toList 0 tds hf (by rw [hl, hc]; omega) (fun j f hj => by
    have hj' : fs[j]? = some f := by simpa using hj
    have hlt : j < xs.length := by rw [hlen]; exact (Array.getElem?_eq_some_iff.1 hj').1
    exact ⟨xs[j], by rw [hfl j f hj', List.getElem?_eq_getElem hlt]⟩)
  simpa using this
theorem flats_go {e sz : Nat} {tds : List TD} {n' : Nat} (ho : ∀ cs (x : DataW H × List MemPlace), DataW.trod enc P W 0 (fun _ => true) true n' e cs = some x → FlatC tds cs)
    {a : Addr} {len : Nat} {elems : List (DataW H × List MemPlace)} (hlen : elems.length = len)
    (hel : ∀ i, i < len → (W.cells? 0 (a.add (i * sz)) sz).bind (DataW.trod enc P W 0 (fun _ => true) true n' e) = elems[i]?) :
    ∀ k, k ≤ len → ∃ rows : List (List Value), rows.length = k ∧ Rowed sz rows ∧ (∀ r ∈ rows, FlatC tds r) ∧ (∀ j u, rows.flatten[j]? = some u → Heap.cell? (heapOf W) (a.add j) = some u)
  | 0, _ => ⟨[], rfl, fun r hr => absurd hr (by simp), fun r hr => absurd hr (by simp), fun j u hj => by simp at hj⟩
  | k + 1, hk => by
    obtain ⟨rows, h1, h2, h3, h4⟩ := flats_go ho hlen hel k (by omega)
    have hkl : k < elems.length := by omega
    have he := hel k (by omega)
    rw [List.getElem?_eq_getElem hkl] at he
    obtain ⟨cs, hc, ht⟩ := Option.bind_eq_some_iff.1 he
    obtain ⟨_, hcl, hat⟩ := World.cells?_some hc
    refine ⟨rows ++ [cs], by simp [h1], h2.append (fun r hr => by simp at hr; subst hr; exact hcl), fun r hr => ?_, fun j u hj => ?_⟩
    · rcases List.mem_append.1 hr with hr | hr
      · exact h3 r hr
      · simp only [List.mem_singleton] at hr; subst hr; exact ho _ _ ht
    · simp only [List.flatten_append, List.flatten_cons, List.flatten_nil, List.append_nil] at hj
      have hfl : rows.flatten.length = k * sz := by rw [flatten_length h2, h1]
      by_cases hjl : j < rows.flatten.length
      · rw [List.getElem?_append_left hjl] at hj; exact h4 j u hj
      · rw [List.getElem?_append_right (by omega)] at hj
        have hlt : j - rows.flatten.length < sz := by rw [← hcl]; exact (List.getElem?_eq_some_iff.1 hj).1
        have := hat _ hlt
        rw [hj, add_add_, show k * sz + (j - rows.flatten.length) = j by omega] at this
        exact this
end
end Go.Proofs.Ytpcfnhjeacahdaa
