/- A node that came in, as a tree; its size against what the reading holds. -/
import Derived.Test.YtklbhkalpajdgaaRows
import Derived.Test.YtklbhkalpajdgaaTlvS
import Derived.Test.YtklbhkalpajdgaaOpen
import Derived.ChangeArms
import Derived.Deep.Strs
namespace Go.Proofs.Ytklbhkalpajdgaa
set_option linter.all false
open Go.ChangeShapes Go.WideShapes Go.RowKit

theorem bulk_snoc {H : Type} (d : DataW H) : ∀ l : List (DataW H), Rows.uptoBulkAll (l ++ [d]) = Rows.uptoBulkAll l + Rows.uptoBulk d
  | [] => by simp [Rows.uptoBulkAll]
  | x :: l => by simp only [List.cons_append, Rows.uptoBulkAll, bulk_snoc d l]; omega
theorem szs_append : ∀ (a b : List Nd), szs (a ++ b) = szs a + szs b
  | [], b => by simp [szs]
  | k :: a, b => by have := szs_append a b; simp only [List.cons_append, szs]; omega
theorem cells36 : Try.prog.cellsOf 36 = 3 := by kernel_rfl
theorem cells_int : Try.prog.cellsOf 3 = 1 := by kernel_rfl
theorem cells_str : Try.prog.cellsOf 9 = 1 := by kernel_rfl
theorem cells_sl : Try.prog.cellsOf 34 = 1 := by kernel_rfl
section
variable {H : Type} {enc : TypeId × Value → H} {W : World}
/-- Kids, one by one. -/
theorem kids_open {n' : Nat} (ih : ∀ cs (x : DataW H × List MemPlace), DataW.trod enc Try.prog W 0 (fun _ => true) true n' 36 cs = some x → ∃ a : Nd, NodeC (heapOf W) a cs ∧ a.wt ≤ Rows.uptoBulk x.1 ∧ a.sz ≤ Rows.uptoBulk x.1)
    {a : Addr} {len : Nat} {elems : List (DataW H × List MemPlace)} (hlen : elems.length = len)
    (hel : ∀ i, i < len → (W.cells? 0 (a.add (i * 3)) 3).bind (DataW.trod enc Try.prog W 0 (fun _ => true) true n' 36) = elems[i]?) :
    ∀ k, k ≤ len → ∃ (ks : List Nd) (rows : List (List Value)), rows.length = k ∧ Rowed 3 rows ∧ KidsC (heapOf W) ks rows ∧ (∀ j u, rows.flatten[j]? = some u → Heap.cell? (heapOf W) (a.add j) = some u) ∧
      wts ks ≤ Rows.uptoBulkAll ((elems.take k).map (·.1)) ∧ szs ks ≤ Rows.uptoBulkAll ((elems.take k).map (·.1))
  | 0, _ => ⟨[], [], rfl, fun r hr => absurd hr (by simp), by simp only [KidsC], fun j u hj => by simp at hj, by simp [wts], by simp [szs]⟩
  | k + 1, hk => by
    obtain ⟨ks, rows, h1, h2, h3, h4, h5, h6⟩ := kids_open ih hlen hel k (by omega)
    have hkl : k < elems.length := by omega
    have he := hel k (by omega)
    rw [List.getElem?_eq_getElem hkl] at he
    obtain ⟨cs, hc, ht⟩ := Option.bind_eq_some_iff.1 he
    obtain ⟨nd, g1, g2, g3⟩ := ih cs _ ht
    obtain ⟨_, hcl, hat⟩ := World.cells?_some hc
    have htk : elems.take (k + 1) = elems.take k ++ [elems[k]] := List.take_succ_eq_append_getElem hkl
    refine ⟨ks ++ [nd], rows ++ [cs], by simp [h1], h2.append (fun r hr => by simp at hr; subst hr; exact hcl), h3.append (KidsC.one g1), fun j u hj => ?_, ?_, ?_⟩
    · simp only [List.flatten_append, List.flatten_cons, List.flatten_nil, List.append_nil] at hj
      have hfl : rows.flatten.length = k * 3 := by rw [flatten_length h2, h1]
      by_cases hjl : j < rows.flatten.length
      · rw [List.getElem?_append_left hjl] at hj; exact h4 j u hj
      · rw [List.getElem?_append_right (by omega)] at hj
        have hlt : j - rows.flatten.length < 3 := by rw [← hcl]; exact (List.getElem?_eq_some_iff.1 hj).1
        have := hat _ hlt
        rw [hj, add_add_, show k * 3 + (j - rows.flatten.length) = j by omega] at this
        exact this
    · rw [htk, List.map_append, List.map_cons, List.map_nil, bulk_snoc, wts_append]
      simp only [wts]; omega
    · rw [htk, List.map_append, List.map_cons, List.map_nil, bulk_snoc, szs_append]
      simp only [szs]; omega

theorem node_open : ∀ (m fuel : Nat), fuel ≤ m → ∀ (cs : List Value) (x : DataW H × List MemPlace), DataW.trod enc Try.prog W 0 (fun _ => true) true fuel 36 cs = some x →
    ∃ a : Nd, NodeC (heapOf W) a cs ∧ a.wt ≤ Rows.uptoBulk x.1 ∧ a.sz ≤ Rows.uptoBulk x.1
  | m, 0, _, cs, x, h => by simp [DataW.trod] at h
  | 0, f + 1, hf, _, _, _ => by omega
  | m + 1, fuel + 1, hf, cs, x, h => by
    obtain ⟨xs, n, hn, hx, hl, hlen, hfl⟩ := DataW.trod_struct Try.underlying36 h
    rw [cells36] at hl
    match cs, hl, xs, hlen with
    | [c0, c1, c2], _, [y0, y1, y2], _ =>
      have e0 : DataW.trod enc Try.prog W 0 (fun _ => true) true n 3 ((List.drop 0 [c0, c1, c2]).take (Try.prog.cellsOf 3)) = some y0 := hfl 0 _ rfl
      have e1 : DataW.trod enc Try.prog W 0 (fun _ => true) true n 9 ((List.drop 1 [c0, c1, c2]).take (Try.prog.cellsOf 9)) = some y1 := hfl 1 _ rfl
      have e2 : DataW.trod enc Try.prog W 0 (fun _ => true) true n 34 ((List.drop 2 [c0, c1, c2]).take (Try.prog.cellsOf 34)) = some y2 := hfl 2 _ rfl
      rw [cells_int] at e0
      rw [cells_str] at e1
      rw [cells_sl] at e2
      obtain ⟨t, ht, hx0, _⟩ := DataW.trod_int Try.underlying3 e0
      obtain ⟨s, hs, hx1, _⟩ := DataW.trod_string Try.underlying9 e1
      simp only [List.drop_zero, List.take_succ_cons, List.take_zero, List.drop_succ_cons, List.cons.injEq, and_true] at ht hs
      subst ht hs
      rw [string_eq]
      rcases DataW.trod_slice Try.underlying34 e2 with ⟨hc, hy⟩ | ⟨a, len, cap, elems, rest, n', hn', hc, hy, _, hl1, hm1, hlen1, hel, _, _⟩
      · simp only [List.drop_succ_cons, List.drop_zero, List.take_succ_cons, List.take_zero, List.cons.injEq, and_true] at hc
        subst hc
        refine ⟨.mk t s.data.toList [], NodeC.mk_ (HSl.nil _ 3) (by simp only [KidsC]), ?_, ?_⟩
        · rw [hx]; simp only [List.map_cons, List.map_nil, hx0, hx1, hy, Rows.uptoBulk, Rows.uptoBulkAll, Nd.wt, wts]; omega
        · rw [hx]; simp only [List.map_cons, List.map_nil, hx0, hx1, hy, Rows.uptoBulk, Rows.uptoBulkAll, Nd.sz, szs]; omega
      · simp only [List.drop_succ_cons, List.drop_zero, List.take_succ_cons, List.take_zero, List.cons.injEq, and_true] at hc
        subst hc
        rw [cells36] at hel
        obtain ⟨ks, rows, h1, h2, h3, h4, h5, h6⟩ := kids_open (fun cs x hh => node_open m n' (by omega) cs x hh) hlen1 hel len (Nat.le_refl _)
        rw [List.take_of_length_le (by omega)] at h5 h6
        refine ⟨.mk t s.data.toList ks, NodeC.mk_ ⟨h2, some a, cap, by rw [h1], by rw [h1]; exact hl1, hm1, fun _ => ⟨a, rfl, h4⟩⟩ h3, ?_, ?_⟩
        · rw [hx]; simp only [List.map_cons, List.map_nil, hx0, hx1, hy, Rows.uptoBulk, Rows.uptoBulkAll, Nd.wt]; omega
        · rw [hx]; simp only [List.map_cons, List.map_nil, hx0, hx1, hy, Rows.uptoBulk, Rows.uptoBulkAll, Nd.sz]; omega
/-- Nodes that came in. -/
theorem nodes_open {fuel : Nat} {v : Value} {x : DataW H × List MemPlace} (h : DataW.trod enc Try.prog W 0 (fun _ => true) true fuel 34 [v] = some x) :
    ∃ (ks : List Nd) (rows : List (List Value)), HSl (heapOf W) v 3 rows ∧ KidsC (heapOf W) ks rows ∧ wts ks ≤ Rows.uptoBulk x.1 ∧ szs ks ≤ Rows.uptoBulk x.1 := by
  rcases DataW.trod_slice Try.underlying34 h with ⟨hc, hy⟩ | ⟨a, len, cap, elems, rest, n', hn', hc, hy, _, hl1, hm1, hlen1, hel, _, _⟩
  · simp only [List.cons.injEq, and_true] at hc
    subst hc
    exact ⟨[], [], HSl.nil _ 3, by simp only [KidsC], by simp [wts], by simp [szs]⟩
  · simp only [List.cons.injEq, and_true] at hc
    subst hc
    rw [cells36] at hel
    obtain ⟨ks, rows, h1, h2, h3, h4, h5, h6⟩ := kids_open (fun cs x hh => node_open n' n' (Nat.le_refl _) cs x hh) hlen1 hel len (Nat.le_refl _)
    rw [List.take_of_length_le (by omega)] at h5 h6
    refine ⟨ks, rows, ⟨h2, some a, cap, by rw [h1], by rw [h1]; exact hl1, hm1, fun _ => ⟨a, rfl, h4⟩⟩, h3, ?_, ?_⟩
    · rw [hy]; simp only [Rows.uptoBulk]; omega
    · rw [hy]; simp only [Rows.uptoBulk]; omega
end
end Go.Proofs.Ytklbhkalpajdgaa
