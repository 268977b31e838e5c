/- From a contract over the whole memory to what a row asks of a call. -/
import Derived.Test.YtieibicgankemaaGreatLtJ
import Derived.Test.YtieibicgankemaaGreatLtV
import Derived.ProofKit
import Derived.OpenShut
import Derived.SliceStrings
import Derived.ShutString
import Derived.Test.YtieibicgankemaaGreatRows
import Derived.ChangeArms
import Derived.Deep.Strs
import Derived.Test.YtieibicgankemaaGreatDnH
namespace Go.Proofs.YtieibicgankemaaGreat
set_option linter.all false
set_option maxRecDepth 4000
open Go.RowKit

def heapOf (w : World) : Heap := fun b => w.heap[b]?
theorem Spec.law {P : Program} {g : FuncId} {args : List Value} {w : World} {v : Value} (s : Spec P g args (heapOf w) [] (fun u _ _ => u = v)) :
    Calls P g args.toArray w fun e w' => e = .returned v /\ Below w.heap.size w w' := by
  refine (s.run w ⟨fun b o hb => hb, fun x hx => absurd hx (by simp), by simp [keys], fun g hg => by simp [keys] at hg⟩).mono ?_
  rintro e w' ⟨u, h', H', rfl, rfl, st⟩
  exact ⟨rfl, st.os, st.tape, st.output, st.size, fun b hb => st.fr b hb (by simp [keys])⟩
end Go.Proofs.YtieibicgankemaaGreat
namespace Go.Proofs.YtieibicgankemaaGreat
set_option linter.all false
set_option maxRecDepth 4000
open Go.RowKit

theorem string_eq (s : ByteArray) : Value.string s = str s.data.toList := by cases s; simp [str]
end Go.Proofs.YtieibicgankemaaGreat
namespace Go.Proofs.YtieibicgankemaaGreat
set_option linter.all false
set_option maxRecDepth 4000
open Go.ChangeShapes Go.WideShapes Go.RowKit

theorem bulkAll_snoc {H : Type} (d : DataW H) : ∀ l : List (DataW H), Rows.uptoBulkAll (l ++ [d]) = Rows.uptoBulkAll l + Rows.uptoBulk d
  | [] => by simp [Rows.uptoBulkAll]
  | x :: l => by simp only [List.cons_append, Rows.uptoBulkAll, bulkAll_snoc d l]; omega
section
variable {H : Type} {enc : TypeId × Value -> H} {W : World} {P : Program}
theorem sl_go {α : Type} {R : α -> List Value -> Prop} {m : α -> Nat} {c e sz n' : Nat} (ih : ∀ cs (x : DataW H × List MemPlace), DataW.trod enc P W 0 (fun _ => true) true n' e cs = some x -> ∃ a : α, R a cs /\ m a <= c * Rows.uptoBulk x.1)
    {a : Addr} {len : Nat} {elems : List (DataW H × List MemPlace)} (hlen : elems.length = len)
    (hel : ∀ i, i < len -> (W.cells? 0 (a.add (i * sz)) sz).bind (DataW.trod enc P W 0 (fun _ => true) true n' e) = elems[i]?) :
    ∀ k, k <= len -> ∃ (l : List α) (rows : List (List Value)), rows.length = k /\ l.length = k /\ Rowed sz rows /\ (∀ (i : Nat) (b : α), l[i]? = some b -> ∃ r, rows[i]? = some r /\ R b r) /\ (∀ j u, rows.flatten[j]? = some u -> Heap.cell? (heapOf W) (a.add j) = some u) ∧
      (l.map m).sum <= c * Rows.uptoBulkAll ((elems.take k).map (·.1))
  | 0, _ => ⟨[], [], rfl, rfl, fun r hr => absurd hr (by simp), fun i b hb => by simp at hb, fun j u hj => by simp at hj, by simp⟩
  | k + 1, hk => by
    obtain ⟨l, rows, h1, h0, h2, h3, h4, h5⟩ := sl_go ih hlen hel k (by omega)
    have hkl : k < elems.length := by omega
    have he := hel k (by omega)
    rw [List.getElem?_eq_getElem hkl] at he
    obtain ⟨cs, hc, ht⟩ := Option.bind_eq_some_iff.1 he
    obtain ⟨b, g1, g2⟩ := ih cs _ ht
    obtain ⟨_, hcl, hat⟩ := World.cells?_some hc
    have htk : elems.take (k + 1) = elems.take k ++ [elems[k]] := List.take_succ_eq_append_getElem hkl
    refine ⟨l ++ [b], rows ++ [cs], by simp [h1], by simp [h0], h2.append (fun r hr => by simp at hr; subst hr; exact hcl), fun i b' hb => ?_, fun j u hj => ?_, ?_⟩
    . by_cases hi : i < k
      . rw [List.getElem?_append_left (by omega)] at hb
        obtain ⟨r, hr1, hr2⟩ := h3 i b' hb
        exact ⟨r, by rw [List.getElem?_append_left (by omega)]; exact hr1, hr2⟩
      . have hi2 := (List.getElem?_eq_some_iff.1 hb).1
        rw [List.length_append, h0] at hi2
        simp only [List.length_cons, List.length_nil] at hi2
        obtain rfl : i = k := by omega
        rw [List.getElem?_append_right (by omega), h0, Nat.sub_self] at hb
        simp only [List.getElem?_cons_zero, Option.some.injEq] at hb
        subst hb
        exact ⟨cs, by rw [List.getElem?_append_right (by omega), h1, Nat.sub_self]; rfl, g1⟩
    . simp only [List.flatten_append, List.flatten_cons, List.flatten_nil, List.append_nil] at hj
      have hfl : rows.flatten.length = k * sz := by rw [flatten_length h2, h1]
      by_cases hjl : j < rows.flatten.length
      . rw [List.getElem?_append_left hjl] at hj; exact h4 j u hj
      . rw [List.getElem?_append_right (by omega)] at hj
        have hlt : j - rows.flatten.length < sz := by rw [<- hcl]; exact (List.getElem?_eq_some_iff.1 hj).1
        have := hat _ hlt
        rw [hj, add_add_, show k * sz + (j - rows.flatten.length) = j by omega] at this
        exact this
    . simp only [htk, List.map_append, List.map_cons, List.map_nil, bulkAll_snoc, List.sum_append, List.sum_cons, List.sum_nil, Nat.mul_add, Nat.add_zero]
      omega
theorem sl_open {α : Type} {R : α -> List Value -> Prop} {m : α -> Nat} {c t e sz fuel : Nat} {v : Value} {x : DataW H × List MemPlace} (hs : P.underlying t = some (.slice e)) (hce : P.cellsOf e = sz) (hc1 : 1 <= c)
    (ih : ∀ n', n' < fuel -> ∀ cs (x : DataW H × List MemPlace), DataW.trod enc P W 0 (fun _ => true) true n' e cs = some x -> ∃ a : α, R a cs /\ m a <= c * Rows.uptoBulk x.1)
    (h : DataW.trod enc P W 0 (fun _ => true) true fuel t [v] = some x) :
    ∃ (l : List α) (rows : List (List Value)), HSl (heapOf W) v sz rows /\ l.length = rows.length /\ (∀ (i : Nat) (b : α), l[i]? = some b -> ∃ r, rows[i]? = some r /\ R b r) /\ (l.map m).sum + 1 <= c * Rows.uptoBulk x.1 := by
  rcases DataW.trod_slice hs h with ⟨hc, hy⟩ | ⟨a, len, cap, elems, rest, n', hn', hc, hy, _, hl1, hm1, hlen1, hel, _, _⟩
  . simp only [List.cons.injEq, and_true] at hc
    subst hc
    refine ⟨[], [], HSl.nil _ sz, rfl, fun i b hb => by simp at hb, ?_⟩
    rw [hy]; simp only [Rows.uptoBulk, List.map_nil, List.sum_nil]; omega
  . simp only [List.cons.injEq, and_true] at hc
    subst hc
    rw [hce] at hel
    obtain ⟨l, rows, h1, h0, h2, h3, h4, h5⟩ := sl_go (fun cs x hh => ih n' (by omega) cs x hh) hlen1 hel len (Nat.le_refl _)
    rw [List.take_of_length_le (by omega)] at h5
    refine ⟨l, rows, ⟨h2, some a, cap, by rw [h1], by rw [h1]; exact hl1, hm1, fun _ => ⟨a, rfl, h4⟩⟩, by omega, h3, ?_⟩
    rw [hy]; simp only [Rows.uptoBulk, Nat.mul_add]; omega
theorem str_open {n t : Nat} {cs : List Value} {x : DataW H × List MemPlace} (hu : P.underlying t = some .string) (h : DataW.trod enc P W 0 (fun _ => true) true n t cs = some x) : ∃ s : List UInt8, cs = [str s] /\ s.length + 1 <= Rows.uptoBulk x.1 := by
  obtain ⟨s, hs, hx, _⟩ := DataW.trod_string hu h
  subst hs
  rw [string_eq]
  exact ⟨_, rfl, by rw [hx]; simp only [Rows.uptoBulk]; omega⟩
end
end Go.Proofs.YtieibicgankemaaGreat
namespace Go.Proofs.YtieibicgankemaaGreat
set_option linter.all false
set_option maxRecDepth 4000
open Go.ChangeShapes Go.WideShapes Go.RowKit

theorem cellsAva : Tryz.prog.cellsOf 81 = 2 := by kernel_rfl
theorem cellsRdn : Tryz.prog.cellsOf 79 = 1 := by kernel_rfl
theorem cellsStr : Tryz.prog.cellsOf 9 = 1 := by kernel_rfl
theorem rows_avaR : ∀ (l : Rdn) (rows : List (List Value)), l.length = rows.length -> (∀ (i : Nat) b, l[i]? = some b -> ∃ r, rows[i]? = some r /\ r = [str b.1, str b.2]) -> rows = avaR l
  | [], [], _, _ => rfl
  | [], _ :: _, h, _ => by simp at h
  | _ :: _, [], h, _ => by simp at h
  | b :: l, r :: rows, h, hr => by
    obtain ⟨r0, h0, h1⟩ := hr 0 b rfl
    simp only [List.getElem?_cons_zero, Option.some.injEq] at h0
    have ih := rows_avaR l rows (by simpa using h) (fun i b' hb => by simpa using hr (i + 1) b' (by simpa using hb))
    rw [h0, h1, ih]; rfl
theorem rows_rdns {h : Heap} : ∀ (l : Dn) (rows : List (List Value)), l.length = rows.length -> (∀ (i : Nat) b, l[i]? = some b -> ∃ r, rows[i]? = some r /\ ∃ v, r = [v] /\ HSl h v 2 (avaR b)) -> RdnsC h l rows
  | [], [], _, _ => rfl
  | [], _ :: _, h, _ => by simp at h
  | _ :: _, [], h, _ => by simp at h
  | b :: l, r :: rows, h, hr => by
    obtain ⟨r0, h0, v, h1, h2⟩ := hr 0 b rfl
    simp only [List.getElem?_cons_zero, Option.some.injEq] at h0
    have ih := rows_rdns l rows (by simpa using h) (fun i b' hb => by simpa using hr (i + 1) b' (by simpa using hb))
    exact ⟨v, rows, by rw [h0, h1], h2, ih⟩
section
variable {H : Type} {enc : TypeId × Value -> H} {W : World}
set_option maxRecDepth 20000 in
theorem ava_open {fuel : Nat} {cs : List Value} {x : DataW H × List MemPlace} (h : DataW.trod enc Tryz.prog W 0 (fun _ => true) true fuel 81 cs = some x) : ∃ a : List UInt8 × List UInt8, cs = [str a.1, str a.2] /\ avaW a <= 3 * Rows.uptoBulk x.1 := by
  obtain ⟨xs, n, hn, hx, hl, hlen, hfl⟩ := DataW.trod_struct Tryz.underlying81 h
  rw [cellsAva] at hl
  match cs, hl, xs, hlen with
  | [c0, c1], _, [y0, y1], _ =>
    have e0 : DataW.trod enc Tryz.prog W 0 (fun _ => true) true n 9 ((List.drop 0 [c0, c1]).take (Tryz.prog.cellsOf 9)) = some y0 := hfl 0 _ rfl
    have e1 : DataW.trod enc Tryz.prog W 0 (fun _ => true) true n 9 ((List.drop 1 [c0, c1]).take (Tryz.prog.cellsOf 9)) = some y1 := hfl 1 _ rfl
    rw [cellsStr] at e0 e1
    obtain ⟨s0, hs0, hb0⟩ := str_open Tryz.underlying9 e0
    obtain ⟨s1, hs1, hb1⟩ := str_open Tryz.underlying9 e1
    simp only [List.drop_zero, List.take_succ_cons, List.take_zero, List.drop_succ_cons, List.cons.injEq, and_true] at hs0 hs1
    subst hs0 hs1
    refine ⟨(s0, s1), rfl, ?_⟩
    rw [hx]; simp only [List.map_cons, List.map_nil, Rows.uptoBulk, Rows.uptoBulkAll, avaW]; omega
set_option maxRecDepth 20000 in
theorem rdn_open {fuel : Nat} {v : Value} {x : DataW H × List MemPlace} (h : DataW.trod enc Tryz.prog W 0 (fun _ => true) true fuel 79 [v] = some x) : ∃ r : Rdn, HSl (heapOf W) v 2 (avaR r) /\ rdnW r + 1 <= 3 * Rows.uptoBulk x.1 := by
  obtain ⟨l, rows, h1, h2, h3, h4⟩ := sl_open (R := fun a r => r = [str a.1, str a.2]) (m := avaW) (c := 3) Tryz.underlying79 cellsAva (by decide) (fun n' _ cs x hh => ava_open hh) h
  rw [rows_avaR l rows h2 h3] at h1
  exact ⟨l, h1, h4⟩
set_option maxRecDepth 20000 in
theorem dn_open {fuel : Nat} {v : Value} {x : DataW H × List MemPlace} (h : DataW.trod enc Tryz.prog W 0 (fun _ => true) true fuel 23 [v] = some x) : ∃ d : Dn, DnC (heapOf W) d v /\ dnW d + 1 <= 3 * Rows.uptoBulk x.1 := by
  obtain ⟨l, rows, h1, h2, h3, h4⟩ := sl_open (R := fun (b : Rdn) r => ∃ v, r = [v] /\ HSl (heapOf W) v 2 (avaR b)) (m := fun r => rdnW r + 1) (c := 3) Tryz.underlying23 cellsRdn (by decide) (fun n' _ cs x hh => by
    have hcl : ∃ v, cs = [v] := by
      rcases DataW.trod_slice Tryz.underlying79 hh with ⟨hc, _⟩ | ⟨a, len, cap, elems, rest, n', _, hc, _⟩
      . exact ⟨_, hc⟩
      . exact ⟨_, hc⟩
    obtain ⟨v, rfl⟩ := hcl
    obtain ⟨r, g1, g2⟩ := rdn_open hh
    exact ⟨r, ⟨v, rfl, g1⟩, g2⟩) h
  exact ⟨l, ⟨rows, h1, rows_rdns l rows h2 h3⟩, h4⟩
end
end Go.Proofs.YtieibicgankemaaGreat
