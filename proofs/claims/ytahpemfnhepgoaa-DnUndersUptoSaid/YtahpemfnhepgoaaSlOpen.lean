/- From a contract over the whole memory to what a row asks of a call. -/
import Derived.Test.YtahpemfnhepgoaaLtJ
import Derived.Test.YtahpemfnhepgoaaLtM
import Derived.ProofKit
import Derived.OpenShut
import Derived.SliceStrings
import Derived.ShutString
import Derived.Test.YtahpemfnhepgoaaRows
import Derived.ChangeArms
import Derived.Deep.Strs
namespace Go.Proofs.Ytahpemfnhepgoaa
set_option linter.all false
set_option maxRecDepth 4000
open Go.RowKit

def heapOf (w : World) : Heap := fun b => w.heap[b]?
theorem Spec.law {P : Program} {g : FuncId} {args : List Value} {w : World} {v : Value} (s : Spec P g args (heapOf w) [] (fun u _ _ => u = v)) :
    Calls P g args.toArray w fun e w' => e = .returned v /\ Below w.heap.size w w' := by
  refine (s.run w ⟨fun b o hb => hb, fun x hx => absurd hx (by simp), by simp [keys], fun g hg => by simp [keys] at hg⟩).mono ?_
  rintro e w' ⟨u, h', H', rfl, rfl, st⟩
  exact ⟨rfl, st.os, st.tape, st.output, st.size, fun b hb => st.fr b hb (by simp [keys])⟩
end Go.Proofs.Ytahpemfnhepgoaa
namespace Go.Proofs.Ytahpemfnhepgoaa
set_option linter.all false
set_option maxRecDepth 4000
open Go.RowKit

theorem string_eq (s : ByteArray) : Value.string s = str s.data.toList := by cases s; simp [str]
theorem inR_of_wf {k : IntKind} {n : Int} (h : (Lit.int k n).wf = true) : inR k n := by
  simp only [Lit.wf, Bool.and_eq_true, decide_eq_true_eq] at h
  cases k <;> exact h
end Go.Proofs.Ytahpemfnhepgoaa
namespace Go.Proofs.Ytahpemfnhepgoaa
set_option linter.all false
set_option maxRecDepth 4000
open Go.ChangeShapes Go.WideShapes Go.RowKit

theorem bulkAll_snoc {H : Type} (d : DataW H) : ∀ l : List (DataW H), Rows.uptoBulkAll (l ++ [d]) = Rows.uptoBulkAll l + Rows.uptoBulk d
  | [] => by simp [Rows.uptoBulkAll]
  | x :: l => by simp only [List.cons_append, Rows.uptoBulkAll, bulkAll_snoc d l]; omega
section
variable {H : Type} {enc : TypeId × Value -> H} {W : World} {P : Program}
theorem sl_go {α : Type} {R : α -> List Value -> Prop} {m : α -> Nat} {c e sz n' : Nat} (ih : ∀ cs (x : DataW H × List MemPlace), DataW.trod enc P W 0 (fun _ => true) true n' e cs = some x -> ∃ a : α, R a cs /\ m a <= c * Rows.uptoBulk x.1)
    {a : Addr} {len : Nat} {elems : List (DataW H × List MemPlace)} (hlen : elems.length = len)
    (hel : ∀ i, i < len -> (W.cells? 0 (a.add (i * sz)) sz).bind (DataW.trod enc P W 0 (fun _ => true) true n' e) = elems[i]?) :
    ∀ k, k <= len -> ∃ (l : List α) (rows : List (List Value)), rows.length = k /\ l.length = k /\ Rowed sz rows /\ (∀ (i : Nat) (b : α), l[i]? = some b -> ∃ r, rows[i]? = some r /\ R b r) /\ (∀ j u, rows.flatten[j]? = some u -> Heap.cell? (heapOf W) (a.add j) = some u) ∧
      (l.map m).sum <= c * Rows.uptoBulkAll ((elems.take k).map (·.1))
  | 0, _ => ⟨[], [], rfl, rfl, fun r hr => absurd hr (by simp), fun i b hb => by simp at hb, fun j u hj => by simp at hj, by simp⟩
  | k + 1, hk => by
    obtain ⟨l, rows, h1, h0, h2, h3, h4, h5⟩ := sl_go ih hlen hel k (by omega)
    have hkl : k < elems.length := by omega
    have he := hel k (by omega)
    rw [List.getElem?_eq_getElem hkl] at he
    obtain ⟨cs, hc, ht⟩ := Option.bind_eq_some_iff.1 he
    obtain ⟨b, g1, g2⟩ := ih cs _ ht
    obtain ⟨_, hcl, hat⟩ := World.cells?_some hc
    have htk : elems.take (k + 1) = elems.take k ++ [elems[k]] := List.take_succ_eq_append_getElem hkl
    refine ⟨l ++ [b], rows ++ [cs], by simp [h1], by simp [h0], h2.append (fun r hr => by simp at hr; subst hr; exact hcl), fun i b' hb => ?_, fun j u hj => ?_, ?_⟩
    . by_cases hi : i < k
      . rw [List.getElem?_append_left (by omega)] at hb
        obtain ⟨r, hr1, hr2⟩ := h3 i b' hb
        exact ⟨r, by rw [List.getElem?_append_left (by omega)]; exact hr1, hr2⟩
      . have hi2 := (List.getElem?_eq_some_iff.1 hb).1
        rw [List.length_append, h0] at hi2
        simp only [List.length_cons, List.length_nil] at hi2
        obtain rfl : i = k := by omega
        rw [List.getElem?_append_right (by omega), h0, Nat.sub_self] at hb
        simp only [List.getElem?_cons_zero, Option.some.injEq] at hb
        subst hb
        exact ⟨cs, by rw [List.getElem?_append_right (by omega), h1, Nat.sub_self]; rfl, g1⟩
    . simp only [List.flatten_append, List.flatten_cons, List.flatten_nil, List.append_nil] at hj
      have hfl : rows.flatten.length = k * sz := by rw [flatten_length h2, h1]
      by_cases hjl : j < rows.flatten.length
      . rw [List.getElem?_append_left hjl] at hj; exact h4 j u hj
      . rw [List.getElem?_append_right (by omega)] at hj
        have hlt : j - rows.flatten.length < sz := by rw [<- hcl]; exact (List.getElem?_eq_some_iff.1 hj).1
        have := hat _ hlt
        rw [hj, add_add_, show k * sz + (j - rows.flatten.length) = j by omega] at this
        exact this
    . simp only [htk, List.map_append, List.map_cons, List.map_nil, bulkAll_snoc, List.sum_append, List.sum_cons, List.sum_nil, Nat.mul_add, Nat.add_zero]
      omega
theorem sl_open {α : Type} {R : α -> List Value -> Prop} {m : α -> Nat} {c t e sz fuel : Nat} {v : Value} {x : DataW H × List MemPlace} (hs : P.underlying t = some (.slice e)) (hce : P.cellsOf e = sz) (hc1 : 1 <= c)
    (ih : ∀ n', n' < fuel -> ∀ cs (x : DataW H × List MemPlace), DataW.trod enc P W 0 (fun _ => true) true n' e cs = some x -> ∃ a : α, R a cs /\ m a <= c * Rows.uptoBulk x.1)
    (h : DataW.trod enc P W 0 (fun _ => true) true fuel t [v] = some x) :
    ∃ (l : List α) (rows : List (List Value)), HSl (heapOf W) v sz rows /\ l.length = rows.length /\ (∀ (i : Nat) (b : α), l[i]? = some b -> ∃ r, rows[i]? = some r /\ R b r) /\ (l.map m).sum + 1 <= c * Rows.uptoBulk x.1 := by
  rcases DataW.trod_slice hs h with ⟨hc, hy⟩ | ⟨a, len, cap, elems, rest, n', hn', hc, hy, _, hl1, hm1, hlen1, hel, _, _⟩
  . simp only [List.cons.injEq, and_true] at hc
    subst hc
    refine ⟨[], [], HSl.nil _ sz, rfl, fun i b hb => by simp at hb, ?_⟩
    rw [hy]; simp only [Rows.uptoBulk, List.map_nil, List.sum_nil]; omega
  . simp only [List.cons.injEq, and_true] at hc
    subst hc
    rw [hce] at hel
    obtain ⟨l, rows, h1, h0, h2, h3, h4, h5⟩ := sl_go (fun cs x hh => ih n' (by omega) cs x hh) hlen1 hel len (Nat.le_refl _)
    rw [List.take_of_length_le (by omega)] at h5
    refine ⟨l, rows, ⟨h2, some a, cap, by rw [h1], by rw [h1]; exact hl1, hm1, fun _ => ⟨a, rfl, h4⟩⟩, by omega, h3, ?_⟩
    rw [hy]; simp only [Rows.uptoBulk, Nat.mul_add]; omega
theorem str_open {n t : Nat} {cs : List Value} {x : DataW H × List MemPlace} (hu : P.underlying t = some .string) (h : DataW.trod enc P W 0 (fun _ => true) true n t cs = some x) : ∃ s : List UInt8, cs = [str s] /\ s.length + 1 <= Rows.uptoBulk x.1 := by
  obtain ⟨s, hs, hx, _⟩ := DataW.trod_string hu h
  subst hs
  rw [string_eq]
  exact ⟨_, rfl, by rw [hx]; simp only [Rows.uptoBulk]; omega⟩
end
end Go.Proofs.Ytahpemfnhepgoaa
