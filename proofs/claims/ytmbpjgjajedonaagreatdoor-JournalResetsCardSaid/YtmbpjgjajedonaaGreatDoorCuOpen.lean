/- From a contract over the whole memory to what a row asks of a call. -/
import Derived.Test.YtmbpjgjajedonaaGreatDoorLtJ
import Derived.Test.YtmbpjgjajedonaaGreatDoorLtP
import Derived.ProofKit
import Derived.OpenShut
import Derived.SliceStrings
import Derived.ShutString
import Derived.Test.YtmbpjgjajedonaaGreatDoorRows
import Derived.Test.YtmbpjgjajedonaaGreatDoorJoM
import Derived.LaidMore
import Derived.Stop.Joined
import Derived.ChangeArms
import Derived.Deep.Strs
import Derived.Test.YtmbpjgjajedonaaGreatDoorJpP
namespace Go.Proofs.YtmbpjgjajedonaaGreatDoor
set_option linter.all false
set_option maxRecDepth 4000
open Go.RowKit

def heapOf (w : World) : Heap := fun b => w.heap[b]?
theorem Spec.law {P : Program} {g : FuncId} {args : List Value} {w : World} {v : Value} (s : Spec P g args (heapOf w) [] (fun u _ _ => u = v)) :
    Calls P g args.toArray w fun e w' => e = .returned v /\ Below w.heap.size w w' := by
  refine (s.run w ⟨fun b o hb => hb, fun x hx => absurd hx (by simp), by simp [keys], fun g hg => by simp [keys] at hg⟩).mono ?_
  rintro e w' ⟨u, h', H', rfl, rfl, st⟩
  exact ⟨rfl, st.os, st.tape, st.output, st.size, fun b hb => st.fr b hb (by simp [keys])⟩
end Go.Proofs.YtmbpjgjajedonaaGreatDoor
namespace Go.Proofs.YtmbpjgjajedonaaGreatDoor
set_option linter.all false
set_option maxRecDepth 4000
open Go.RowKit

theorem string_eq (s : ByteArray) : Value.string s = str s.data.toList := by cases s; simp [str]
theorem inR_of_wf {k : IntKind} {n : Int} (h : (Lit.int k n).wf = true) : inR k n := by
  simp only [Lit.wf, Bool.and_eq_true, decide_eq_true_eq] at h
  cases k <;> exact h
end Go.Proofs.YtmbpjgjajedonaaGreatDoor
namespace Go.Proofs.YtmbpjgjajedonaaGreatDoor
set_option linter.all false
set_option maxRecDepth 4000
open Go.ChangeShapes Go.WideShapes Go.ChangeAt Go.RowKit

abbrev laidL : List (String × DataW Unit) := [("unicode/utf8.acceptRanges", Rows.laid_unicode_utf8_acceptRanges), ("unicode/utf8.first", Rows.laid_unicode_utf8_first)]
theorem tabs_of {W : World} (_ : laidMetH Tryz.prog laidL W) : True := trivial
end Go.Proofs.YtmbpjgjajedonaaGreatDoor
namespace Go.Proofs.YtmbpjgjajedonaaGreatDoor
set_option linter.all false
set_option maxRecDepth 4000
open Go.ChangeShapes Go.WideShapes Go.RowKit

theorem bulkAll_snoc {H : Type} (d : DataW H) : ∀ l : List (DataW H), Rows.uptoBulkAll (l ++ [d]) = Rows.uptoBulkAll l + Rows.uptoBulk d
  | [] => by simp [Rows.uptoBulkAll]
  | x :: l => by simp only [List.cons_append, Rows.uptoBulkAll, bulkAll_snoc d l]; omega
section
variable {H : Type} {enc : TypeId × Value -> H} {W : World} {P : Program}
theorem sl_go {α : Type} {R : α -> List Value -> Prop} {m : α -> Nat} {c e sz n' : Nat} (ih : ∀ cs (x : DataW H × List MemPlace), DataW.trod enc P W 0 (fun _ => true) true n' e cs = some x -> ∃ a : α, R a cs /\ m a <= c * Rows.uptoBulk x.1)
    {a : Addr} {len : Nat} {elems : List (DataW H × List MemPlace)} (hlen : elems.length = len)
    (hel : ∀ i, i < len -> (W.cells? 0 (a.add (i * sz)) sz).bind (DataW.trod enc P W 0 (fun _ => true) true n' e) = elems[i]?) :
    ∀ k, k <= len -> ∃ (l : List α) (rows : List (List Value)), rows.length = k /\ l.length = k /\ Rowed sz rows /\ (∀ (i : Nat) (b : α), l[i]? = some b -> ∃ r, rows[i]? = some r /\ R b r) /\ (∀ j u, rows.flatten[j]? = some u -> Heap.cell? (heapOf W) (a.add j) = some u) ∧
      (l.map m).sum <= c * Rows.uptoBulkAll ((elems.take k).map (·.1))
  | 0, _ => ⟨[], [], rfl, rfl, fun r hr => absurd hr (by simp), fun i b hb => by simp at hb, fun j u hj => by simp at hj, by simp⟩
  | k + 1, hk => by
    obtain ⟨l, rows, h1, h0, h2, h3, h4, h5⟩ := sl_go ih hlen hel k (by omega)
    have hkl : k < elems.length := by omega
    have he := hel k (by omega)
    rw [List.getElem?_eq_getElem hkl] at he
    obtain ⟨cs, hc, ht⟩ := Option.bind_eq_some_iff.1 he
    obtain ⟨b, g1, g2⟩ := ih cs _ ht
    obtain ⟨_, hcl, hat⟩ := World.cells?_some hc
    have htk : elems.take (k + 1) = elems.take k ++ [elems[k]] := List.take_succ_eq_append_getElem hkl
    refine ⟨l ++ [b], rows ++ [cs], by simp [h1], by simp [h0], h2.append (fun r hr => by simp at hr; subst hr; exact hcl), fun i b' hb => ?_, fun j u hj => ?_, ?_⟩
    . by_cases hi : i < k
      . rw [List.getElem?_append_left (by omega)] at hb
        obtain ⟨r, hr1, hr2⟩ := h3 i b' hb
        exact ⟨r, by rw [List.getElem?_append_left (by omega)]; exact hr1, hr2⟩
      . have hi2 := (List.getElem?_eq_some_iff.1 hb).1
        rw [List.length_append, h0] at hi2
        simp only [List.length_cons, List.length_nil] at hi2
        obtain rfl : i = k := by omega
        rw [List.getElem?_append_right (by omega), h0, Nat.sub_self] at hb
        simp only [List.getElem?_cons_zero, Option.some.injEq] at hb
        subst hb
        exact ⟨cs, by rw [List.getElem?_append_right (by omega), h1, Nat.sub_self]; rfl, g1⟩
    . simp only [List.flatten_append, List.flatten_cons, List.flatten_nil, List.append_nil] at hj
      have hfl : rows.flatten.length = k * sz := by rw [flatten_length h2, h1]
      by_cases hjl : j < rows.flatten.length
      . rw [List.getElem?_append_left hjl] at hj; exact h4 j u hj
      . rw [List.getElem?_append_right (by omega)] at hj
        have hlt : j - rows.flatten.length < sz := by rw [<- hcl]; exact (List.getElem?_eq_some_iff.1 hj).1
        have := hat _ hlt
        rw [hj, add_add_, show k * sz + (j - rows.flatten.length) = j by omega] at this
        exact this
    . simp only [htk, List.map_append, List.map_cons, List.map_nil, bulkAll_snoc, List.sum_append, List.sum_cons, List.sum_nil, Nat.mul_add, Nat.add_zero]
      omega
theorem sl_open {α : Type} {R : α -> List Value -> Prop} {m : α -> Nat} {c t e sz fuel : Nat} {v : Value} {x : DataW H × List MemPlace} (hs : P.underlying t = some (.slice e)) (hce : P.cellsOf e = sz) (hc1 : 1 <= c)
    (ih : ∀ n', n' < fuel -> ∀ cs (x : DataW H × List MemPlace), DataW.trod enc P W 0 (fun _ => true) true n' e cs = some x -> ∃ a : α, R a cs /\ m a <= c * Rows.uptoBulk x.1)
    (h : DataW.trod enc P W 0 (fun _ => true) true fuel t [v] = some x) :
    ∃ (l : List α) (rows : List (List Value)), HSl (heapOf W) v sz rows /\ l.length = rows.length /\ (∀ (i : Nat) (b : α), l[i]? = some b -> ∃ r, rows[i]? = some r /\ R b r) /\ (l.map m).sum + 1 <= c * Rows.uptoBulk x.1 := by
  rcases DataW.trod_slice hs h with ⟨hc, hy⟩ | ⟨a, len, cap, elems, rest, n', hn', hc, hy, _, hl1, hm1, hlen1, hel, _, _⟩
  . simp only [List.cons.injEq, and_true] at hc
    subst hc
    refine ⟨[], [], HSl.nil _ sz, rfl, fun i b hb => by simp at hb, ?_⟩
    rw [hy]; simp only [Rows.uptoBulk, List.map_nil, List.sum_nil]; omega
  . simp only [List.cons.injEq, and_true] at hc
    subst hc
    rw [hce] at hel
    obtain ⟨l, rows, h1, h0, h2, h3, h4, h5⟩ := sl_go (fun cs x hh => ih n' (by omega) cs x hh) hlen1 hel len (Nat.le_refl _)
    rw [List.take_of_length_le (by omega)] at h5
    refine ⟨l, rows, ⟨h2, some a, cap, by rw [h1], by rw [h1]; exact hl1, hm1, fun _ => ⟨a, rfl, h4⟩⟩, by omega, h3, ?_⟩
    rw [hy]; simp only [Rows.uptoBulk, Nat.mul_add]; omega
end
end Go.Proofs.YtmbpjgjajedonaaGreatDoor
namespace Go.Proofs.YtmbpjgjajedonaaGreatDoor
set_option linter.all false
set_option maxRecDepth 4000
open Go.ChangeShapes Go.WideShapes Go.RowKit

theorem rows6 {α : Type} {f : α -> List Value} : ∀ (l : List α) (rows : List (List Value)), l.length = rows.length -> (∀ (i : Nat) b, l[i]? = some b -> ∃ r, rows[i]? = some r /\ r = f b) -> rows = l.map f
  | [], [], _, _ => rfl
  | [], _ :: _, h, _ => by simp at h
  | _ :: _, [], h, _ => by simp at h
  | b :: l, r :: rows, h, hr => by
    obtain ⟨r0, h0, h1⟩ := hr 0 b rfl
    simp only [List.getElem?_cons_zero, Option.some.injEq] at h0
    have ih := rows6 l rows (by simpa using h) (fun i b' hb => by simpa using hr (i + 1) b' (by simpa using hb))
    rw [h0, h1, ih]; rfl
theorem cellsStr6 : Tryz.prog.cellsOf 9 = 1 := by kernel_rfl
theorem cellsInt6 : Tryz.prog.cellsOf 3 = 1 := by kernel_rfl
theorem cellsU646 : Tryz.prog.cellsOf 30 = 1 := by kernel_rfl
theorem cellsLoss6 : Tryz.prog.cellsOf 32 = 3 := by kernel_rfl
theorem cellsCut6 : Tryz.prog.cellsOf 34 = 4 := by kernel_rfl
section
variable {H : Type} {enc : TypeId × Value -> H} {W : World}
theorem int6_open {n t : Nat} {k : IntKind} {cs : List Value} {x : DataW H × List MemPlace} (hu : Tryz.prog.underlying t = some (.int k)) (h : DataW.trod enc Tryz.prog W 0 (fun _ => true) true n t cs = some x) : ∃ s : Int, cs = [.int k s] /\ inR k s /\ 1 <= Rows.uptoBulk x.1 := by
  obtain ⟨s, hs, hx, hw⟩ := DataW.trod_int hu h
  subst hs
  exact ⟨_, rfl, inR_of_wf hw, by rw [hx]; simp only [Rows.uptoBulk]; omega⟩
theorem strB6_open {n t : Nat} {cs : List Value} {x : DataW H × List MemPlace} (hu : Tryz.prog.underlying t = some .string) (h : DataW.trod enc Tryz.prog W 0 (fun _ => true) true n t cs = some x) : ∃ s : List UInt8, cs = [str s] /\ s.length <= 9223372036854775807 /\ 1 <= Rows.uptoBulk x.1 := by
  obtain ⟨s, hs, hx, hw⟩ := DataW.trod_string hu h
  subst hs
  rw [string_eq]
  have h9 : s.data.toList.length <= maxLen := hw
  simp only [maxLen] at h9
  exact ⟨_, rfl, by omega, by rw [hx]; simp only [Rows.uptoBulk]; omega⟩
theorem strs6_open {fuel : Nat} {v : Value} {x : DataW H × List MemPlace} (h : DataW.trod enc Tryz.prog W 0 (fun _ => true) true fuel 22 [v] = some x) : ∃ L : List (List UInt8), HSl (heapOf W) v 1 (strsR L) /\ ∀ b ∈ L, b.length <= 9223372036854775807 := by
  obtain ⟨l, rows, h1, h2, h3, h4⟩ := sl_open (R := fun (a : List UInt8) r => r = [str a] /\ a.length <= 9223372036854775807) (m := fun _ => 1) (c := 1) Tryz.underlying22 cellsStr6 (by decide) (fun n' _ cs x hh => by
    obtain ⟨s, hs, hl, hb⟩ := strB6_open Tryz.underlying9 hh
    exact ⟨s, ⟨hs, hl⟩, by omega⟩) h
  rw [rows6 (f := fun a => [str a]) l rows h2 (fun i b hb => by obtain ⟨r, e, q, _⟩ := h3 i b hb; exact ⟨r, e, q⟩)] at h1
  refine ⟨l, h1, fun b hm => ?_⟩
  obtain ⟨i, hi⟩ := List.getElem?_of_mem hm
  obtain ⟨_, _, _, q⟩ := h3 i b hi
  exact q
set_option maxRecDepth 20000 in
theorem loss_open {fuel : Nat} {cs : List Value} {x : DataW H × List MemPlace} (h : DataW.trod enc Tryz.prog W 0 (fun _ => true) true fuel 32 cs = some x) : ∃ l : Ls, cs = [.int .u64 l.keep, .int .i64 l.torn, .int .i64 l.pos] /\ l.keep < 18446744073709551616 /\ inR .i64 l.pos := by
  obtain ⟨xs, n, hn, hx, hl, hlen, hfl⟩ := DataW.trod_struct Tryz.underlying32 h
  rw [cellsLoss6] at hl
  match cs, hl, xs, hlen with
  | [c0, c1, c2], _, [y0, y1, y2], _ =>
    have e0 : DataW.trod enc Tryz.prog W 0 (fun _ => true) true n 30 ((List.drop 0 [c0, c1, c2]).take (Tryz.prog.cellsOf 30)) = some y0 := hfl 0 _ rfl
    have e1 : DataW.trod enc Tryz.prog W 0 (fun _ => true) true n 3 ((List.drop 1 [c0, c1, c2]).take (Tryz.prog.cellsOf 3)) = some y1 := hfl 1 _ rfl
    have e2 : DataW.trod enc Tryz.prog W 0 (fun _ => true) true n 3 ((List.drop 2 [c0, c1, c2]).take (Tryz.prog.cellsOf 3)) = some y2 := hfl 2 _ rfl
    rw [cellsU646] at e0
    rw [cellsInt6] at e1 e2
    obtain ⟨k0, hs0, hr0, _⟩ := int6_open Tryz.underlying30 e0
    obtain ⟨k1, hs1, hr1, _⟩ := int6_open Tryz.underlying3 e1
    obtain ⟨k2, hs2, hr2, _⟩ := int6_open Tryz.underlying3 e2
    simp only [List.drop_zero, List.take_succ_cons, List.take_zero, List.drop_succ_cons, List.cons.injEq, and_true] at hs0 hs1 hs2
    subst hs0 hs1 hs2
    have hk : 0 <= k0 /\ k0 < 18446744073709551616 := by simp only [inR] at hr0; omega
    exact ⟨⟨k0.toNat, k1, k2⟩, by simp only [Int.toNat_of_nonneg hk.1], by simp only; omega, hr2⟩
end
end Go.Proofs.YtmbpjgjajedonaaGreatDoor
namespace Go.Proofs.YtmbpjgjajedonaaGreatDoor
set_option linter.all false
set_option maxRecDepth 4000
open Go.ChangeShapes Go.WideShapes Go.RowKit

section
variable {H : Type} {enc : TypeId × Value -> H} {W : World}
set_option maxRecDepth 20000 in
theorem cut_open6 {fuel : Nat} {cs : List Value} {x : DataW H × List MemPlace} (h : DataW.trod enc Tryz.prog W 0 (fun _ => true) true fuel 34 cs = some x) : ∃ c : Cu6, cs = c.vals /\ c.Ok /\ 1 <= Rows.uptoBulk x.1 := by
  obtain ⟨xs, n, hn, hx, hl, hlen, hfl⟩ := DataW.trod_struct Tryz.underlying34 h
  rw [cellsCut6] at hl
  match cs, hl, xs, hlen with
  | [c0, c1, c2, c3], _, [y0, y1], _ =>
    have e0 : DataW.trod enc Tryz.prog W 0 (fun _ => true) true n 3 ((List.drop 0 [c0, c1, c2, c3]).take (Tryz.prog.cellsOf 3)) = some y0 := hfl 0 _ rfl
    have e1 : DataW.trod enc Tryz.prog W 0 (fun _ => true) true n 32 ((List.drop 1 [c0, c1, c2, c3]).take (Tryz.prog.cellsOf 32)) = some y1 := hfl 1 _ rfl
    rw [cellsInt6] at e0
    rw [cellsLoss6] at e1
    simp only [List.drop_zero, List.take_succ_cons, List.take_zero, List.drop_succ_cons] at e1
    obtain ⟨k0, hs0, hr0, hb0⟩ := int6_open Tryz.underlying3 e0
    obtain ⟨l, hs4, hl1, hl2⟩ := loss_open e1
    simp only [List.drop_zero, List.take_succ_cons, List.take_zero, List.drop_succ_cons, List.cons.injEq, and_true] at hs0 hs4
    obtain ⟨rfl, rfl, rfl⟩ := hs4
    subst hs0
    exact ⟨⟨k0, l⟩, rfl, ⟨hr0, hl1, hl2⟩, by rw [hx]; simp only [List.map_cons, List.map_nil, Rows.uptoBulk, Rows.uptoBulkAll]; omega⟩
theorem cuts_open6 {fuel : Nat} {v : Value} {x : DataW H × List MemPlace} (h : DataW.trod enc Tryz.prog W 0 (fun _ => true) true fuel 23 [v] = some x) : ∃ l : List Cu6, HSl (heapOf W) v 4 (l.map Cu6.vals) /\ ∀ c ∈ l, c.Ok := by
  obtain ⟨l, rows, h1, h2, h3, h4⟩ := sl_open (R := fun (a : Cu6) r => r = a.vals /\ a.Ok) (m := fun _ => 1) (c := 1) Tryz.underlying23 cellsCut6 (by decide) (fun n' _ cs x hh => by
    obtain ⟨c, e, o, b⟩ := cut_open6 hh
    exact ⟨c, ⟨e, o⟩, by omega⟩) h
  rw [rows6 (f := Cu6.vals) l rows h2 (fun i b hb => by obtain ⟨r, e, q, _⟩ := h3 i b hb; exact ⟨r, e, q⟩)] at h1
  refine ⟨l, h1, fun m hm => ?_⟩
  obtain ⟨i, hi⟩ := List.getElem?_of_mem hm
  obtain ⟨_, _, _, q⟩ := h3 i m hi
  exact q
end
end Go.Proofs.YtmbpjgjajedonaaGreatDoor
