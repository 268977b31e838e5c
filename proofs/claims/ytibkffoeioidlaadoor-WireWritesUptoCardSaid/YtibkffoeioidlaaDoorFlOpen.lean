/- From a contract over the whole memory to what a row asks of a call. -/
import Derived.Test.YtibkffoeioidlaaDoorLtJ
import Derived.Test.YtibkffoeioidlaaDoorNd
import Derived.ProofKit
import Derived.OpenShut
import Derived.SliceStrings
import Derived.ShutString
import Derived.Test.YtibkffoeioidlaaDoorRows
import Derived.Test.YtibkffoeioidlaaDoorWrT
import Derived.LaidMore
import Derived.Stop.Joined
import Derived.ChangeArms
import Derived.Deep.Strs
import Derived.Test.YtibkffoeioidlaaDoorFlO
namespace Go.Proofs.YtibkffoeioidlaaDoor
set_option linter.all false
set_option maxRecDepth 4000
open Go.RowKit

def heapOf (w : World) : Heap := fun b => w.heap[b]?
theorem Spec.law {P : Program} {g : FuncId} {args : List Value} {w : World} {v : Value} (s : Spec P g args (heapOf w) [] (fun u _ _ => u = v)) :
    Calls P g args.toArray w fun e w' => e = .returned v /\ Below w.heap.size w w' := by
  refine (s.run w ⟨fun b o hb => hb, fun x hx => absurd hx (by simp), by simp [keys], fun g hg => by simp [keys] at hg⟩).mono ?_
  rintro e w' ⟨u, h', H', rfl, rfl, st⟩
  exact ⟨rfl, st.os, st.tape, st.output, st.size, fun b hb => st.fr b hb (by simp [keys])⟩
end Go.Proofs.YtibkffoeioidlaaDoor
namespace Go.Proofs.YtibkffoeioidlaaDoor
set_option linter.all false
set_option maxRecDepth 4000
open Go.RowKit

theorem string_eq (s : ByteArray) : Value.string s = str s.data.toList := by cases s; simp [str]
theorem inR_of_wf {k : IntKind} {n : Int} (h : (Lit.int k n).wf = true) : inR k n := by
  simp only [Lit.wf, Bool.and_eq_true, decide_eq_true_eq] at h
  cases k <;> exact h
end Go.Proofs.YtibkffoeioidlaaDoor
namespace Go.Proofs.YtibkffoeioidlaaDoor
set_option linter.all false
set_option maxRecDepth 4000
open Go.ChangeShapes Go.WideShapes Go.ChangeAt Go.RowKit

abbrev laidL : List (String × DataW Unit) := [("castellan/wire.forms", Rows.laid_castellan_wire_forms)]
theorem gForms : Tryd.prog.globalNamed "castellan/wire.forms" = some 0 := by kernel_rfl
theorem tForms : (Tryd.prog.globals[0]?).map (·.type) = some 119 := by kernel_rfl
theorem cForm : Tryd.prog.cellsOf 118 = 2 := by kernel_rfl
theorem cIntW : Tryd.prog.cellsOf 3 = 1 := by kernel_rfl
theorem formsData : (Rows.laid_castellan_wire_forms : DataW Unit) = .agg (formsL.map fun p => .agg [.lit (.int .i64 p.1), .lit (.int .i64 p.2)]) := by kernel_rfl
theorem form_cells {W : World} {fuel : Nat} {cs : List Value} {a b : Int} {p : List MemPlace} (hd : DataW.trod (fun _ => ()) Tryd.prog W 0 (fun _ => true) false fuel 118 cs = some (.agg [.lit (.int .i64 a), .lit (.int .i64 b)], p)) : cs = [.int .i64 a, .int .i64 b] := by
  obtain ⟨xs, n, hn, hx, hl, hlen, hfl⟩ := DataW.trod_struct Tryd.underlying118 hd
  rw [cForm] at hl
  match cs, hl, xs, hlen with
  | [c0, c1], _, [y0, y1], _ =>
    have e0 : DataW.trod (fun _ => ()) Tryd.prog W 0 (fun _ => true) false n 3 ((List.drop 0 [c0, c1]).take (Tryd.prog.cellsOf 3)) = some y0 := hfl 0 _ rfl
    have e1 : DataW.trod (fun _ => ()) Tryd.prog W 0 (fun _ => true) false n 3 ((List.drop 1 [c0, c1]).take (Tryd.prog.cellsOf 3)) = some y1 := hfl 1 _ rfl
    rw [cIntW] at e0 e1
    simp only [List.drop_zero, List.take_succ_cons, List.take_zero, List.drop_succ_cons] at e0 e1
    obtain ⟨z0, h0, g0, _⟩ := DataW.trod_int Tryd.underlying3 e0
    obtain ⟨z1, h1, g1, _⟩ := DataW.trod_int Tryd.underlying3 e1
    injection h0 with h0
    injection h1 with h1
    subst h0; subst h1
    have ex : [y0.1, y1.1] = [DataW.lit (.int .i64 a), .lit (.int .i64 b)] := (DataW.agg.inj (Prod.mk.inj hx).1).symm
    rw [g0, g1] at ex
    injection ex with ex1 ex
    injection ex with ex2 _
    injection ex1 with ex1
    injection ex2 with ex2
    injection ex1 with _ ex1
    injection ex2 with _ ex2
    rw [ex1, ex2]
theorem tabs_of {W : World} (h : laidMetH Tryd.prog laidL W) : TabW (heapOf W) := by
  rw [MakeChecks.laidMetH_plain _ _ _ (by kernel_rfl)] at h
  obtain ⟨ps, ⟨g1, t1, cs1, f1, p1, q1, hg1, ht1, hv1, hd1, _, _⟩, _⟩ := h
  obtain rfl := Option.some.inj (gForms.symm.trans hg1)
  obtain rfl := Option.some.inj (tForms.symm.trans ht1)
  rw [formsData] at hd1
  obtain ⟨xs, m, _, ex, _, hl, hel⟩ := DataW.trod_array Tryd.underlying119 hd1
  have exs : (xs.map (·.1)) = formsL.map fun p => .agg [.lit (.int .i64 p.1), .lit (.int .i64 p.2)] := (DataW.agg.inj (Prod.mk.inj ex).1).symm
  have key : ∀ (i : Nat) (a b : Int), i < 19 -> formsL[i]? = some (a, b) -> (cs1.toList.drop (i * 2)).take 2 = [.int .i64 a, .int .i64 b] := by
    intro i a b hi hf
    have hE := hel i hi
    rw [cForm, List.getElem?_eq_getElem (by omega)] at hE
    have e4 : (xs.map (·.1))[i]? = some (.agg [.lit (.int .i64 a), .lit (.int .i64 b)]) := by rw [exs, List.getElem?_map, hf]; rfl
    rw [List.getElem?_map, List.getElem?_eq_getElem (by omega : i < xs.length), Option.map_some] at e4
    have e5 : xs[i].1 = .agg [.lit (.int .i64 a), .lit (.int .i64 b)] := Option.some.inj e4
    have e6 : xs[i] = (DataW.agg [.lit (.int .i64 a), .lit (.int .i64 b)], xs[i].2) := Prod.ext e5 rfl
    rw [e6] at hE
    exact form_cells hE
  have w1 := World.var?_cell hg1 hv1
  intro j u hj
  have hj38 : j < 38 := (List.getElem?_eq_some_iff.1 hj).1
  rw [Addr.add_lit, Nat.zero_add]
  show W.cell? _ = _
  rw [w1 j]
  obtain ⟨a, b, hf, hp⟩ := forms_at (j / 2) (by omega)
  obtain ⟨_, h2⟩ := partL_eq _ _ _ _ hp
  have hk := key (j / 2) a b (by omega) hf
  have hm := h2 (j % 2) (by omega)
  rw [show j / 2 * 2 + j % 2 = j by omega, hj] at hm
  have hc : ((cs1.toList.drop (j / 2 * 2)).take 2)[j % 2]? = some u := by rw [hk]; exact hm.symm
  rw [List.getElem?_take_of_lt (by omega), List.getElem?_drop, show j / 2 * 2 + j % 2 = j by omega] at hc
  simpa using hc
end Go.Proofs.YtibkffoeioidlaaDoor
namespace Go.Proofs.YtibkffoeioidlaaDoor
set_option linter.all false
set_option maxRecDepth 4000
open Go.ChangeShapes Go.WideShapes Go.RowKit

theorem bulkAll_snoc {H : Type} (d : DataW H) : ∀ l : List (DataW H), Rows.uptoBulkAll (l ++ [d]) = Rows.uptoBulkAll l + Rows.uptoBulk d
  | [] => by simp [Rows.uptoBulkAll]
  | x :: l => by simp only [List.cons_append, Rows.uptoBulkAll, bulkAll_snoc d l]; omega
section
variable {H : Type} {enc : TypeId × Value -> H} {W : World} {P : Program}
theorem sl_go {α : Type} {R : α -> List Value -> Prop} {m : α -> Nat} {c e sz n' : Nat} (ih : ∀ cs (x : DataW H × List MemPlace), DataW.trod enc P W 0 (fun _ => true) true n' e cs = some x -> ∃ a : α, R a cs /\ m a <= c * Rows.uptoBulk x.1)
    {a : Addr} {len : Nat} {elems : List (DataW H × List MemPlace)} (hlen : elems.length = len)
    (hel : ∀ i, i < len -> (W.cells? 0 (a.add (i * sz)) sz).bind (DataW.trod enc P W 0 (fun _ => true) true n' e) = elems[i]?) :
    ∀ k, k <= len -> ∃ (l : List α) (rows : List (List Value)), rows.length = k /\ l.length = k /\ Rowed sz rows /\ (∀ (i : Nat) (b : α), l[i]? = some b -> ∃ r, rows[i]? = some r /\ R b r) /\ (∀ j u, rows.flatten[j]? = some u -> Heap.cell? (heapOf W) (a.add j) = some u) ∧
      (l.map m).sum <= c * Rows.uptoBulkAll ((elems.take k).map (·.1))
  | 0, _ => ⟨[], [], rfl, rfl, fun r hr => absurd hr (by simp), fun i b hb => by simp at hb, fun j u hj => by simp at hj, by simp⟩
  | k + 1, hk => by
    obtain ⟨l, rows, h1, h0, h2, h3, h4, h5⟩ := sl_go ih hlen hel k (by omega)
    have hkl : k < elems.length := by omega
    have he := hel k (by omega)
    rw [List.getElem?_eq_getElem hkl] at he
    obtain ⟨cs, hc, ht⟩ := Option.bind_eq_some_iff.1 he
    obtain ⟨b, g1, g2⟩ := ih cs _ ht
    obtain ⟨_, hcl, hat⟩ := World.cells?_some hc
    have htk : elems.take (k + 1) = elems.take k ++ [elems[k]] := List.take_succ_eq_append_getElem hkl
    refine ⟨l ++ [b], rows ++ [cs], by simp [h1], by simp [h0], h2.append (fun r hr => by simp at hr; subst hr; exact hcl), fun i b' hb => ?_, fun j u hj => ?_, ?_⟩
    . by_cases hi : i < k
      . rw [List.getElem?_append_left (by omega)] at hb
        obtain ⟨r, hr1, hr2⟩ := h3 i b' hb
        exact ⟨r, by rw [List.getElem?_append_left (by omega)]; exact hr1, hr2⟩
      . have hi2 := (List.getElem?_eq_some_iff.1 hb).1
        rw [List.length_append, h0] at hi2
        simp only [List.length_cons, List.length_nil] at hi2
        obtain rfl : i = k := by omega
        rw [List.getElem?_append_right (by omega), h0, Nat.sub_self] at hb
        simp only [List.getElem?_cons_zero, Option.some.injEq] at hb
        subst hb
        exact ⟨cs, by rw [List.getElem?_append_right (by omega), h1, Nat.sub_self]; rfl, g1⟩
    . simp only [List.flatten_append, List.flatten_cons, List.flatten_nil, List.append_nil] at hj
      have hfl : rows.flatten.length = k * sz := by rw [flatten_length h2, h1]
      by_cases hjl : j < rows.flatten.length
      . rw [List.getElem?_append_left hjl] at hj; exact h4 j u hj
      . rw [List.getElem?_append_right (by omega)] at hj
        have hlt : j - rows.flatten.length < sz := by rw [<- hcl]; exact (List.getElem?_eq_some_iff.1 hj).1
        have := hat _ hlt
        rw [hj, add_add_, show k * sz + (j - rows.flatten.length) = j by omega] at this
        exact this
    . simp only [htk, List.map_append, List.map_cons, List.map_nil, bulkAll_snoc, List.sum_append, List.sum_cons, List.sum_nil, Nat.mul_add, Nat.add_zero]
      omega
theorem sl_open {α : Type} {R : α -> List Value -> Prop} {m : α -> Nat} {c t e sz fuel : Nat} {v : Value} {x : DataW H × List MemPlace} (hs : P.underlying t = some (.slice e)) (hce : P.cellsOf e = sz) (hc1 : 1 <= c)
    (ih : ∀ n', n' < fuel -> ∀ cs (x : DataW H × List MemPlace), DataW.trod enc P W 0 (fun _ => true) true n' e cs = some x -> ∃ a : α, R a cs /\ m a <= c * Rows.uptoBulk x.1)
    (h : DataW.trod enc P W 0 (fun _ => true) true fuel t [v] = some x) :
    ∃ (l : List α) (rows : List (List Value)), HSl (heapOf W) v sz rows /\ l.length = rows.length /\ (∀ (i : Nat) (b : α), l[i]? = some b -> ∃ r, rows[i]? = some r /\ R b r) /\ (l.map m).sum + 1 <= c * Rows.uptoBulk x.1 := by
  rcases DataW.trod_slice hs h with ⟨hc, hy⟩ | ⟨a, len, cap, elems, rest, n', hn', hc, hy, _, hl1, hm1, hlen1, hel, _, _⟩
  . simp only [List.cons.injEq, and_true] at hc
    subst hc
    refine ⟨[], [], HSl.nil _ sz, rfl, fun i b hb => by simp at hb, ?_⟩
    rw [hy]; simp only [Rows.uptoBulk, List.map_nil, List.sum_nil]; omega
  . simp only [List.cons.injEq, and_true] at hc
    subst hc
    rw [hce] at hel
    obtain ⟨l, rows, h1, h0, h2, h3, h4, h5⟩ := sl_go (fun cs x hh => ih n' (by omega) cs x hh) hlen1 hel len (Nat.le_refl _)
    rw [List.take_of_length_le (by omega)] at h5
    refine ⟨l, rows, ⟨h2, some a, cap, by rw [h1], by rw [h1]; exact hl1, hm1, fun _ => ⟨a, rfl, h4⟩⟩, by omega, h3, ?_⟩
    rw [hy]; simp only [Rows.uptoBulk, Nat.mul_add]; omega
theorem str_open {n t : Nat} {cs : List Value} {x : DataW H × List MemPlace} (hu : P.underlying t = some .string) (h : DataW.trod enc P W 0 (fun _ => true) true n t cs = some x) : ∃ s : List UInt8, cs = [str s] /\ s.length + 1 <= Rows.uptoBulk x.1 := by
  obtain ⟨s, hs, hx, _⟩ := DataW.trod_string hu h
  subst hs
  rw [string_eq]
  exact ⟨_, rfl, by rw [hx]; simp only [Rows.uptoBulk]; omega⟩
end
end Go.Proofs.YtibkffoeioidlaaDoor
namespace Go.Proofs.YtibkffoeioidlaaDoor
set_option linter.all false
set_option maxRecDepth 4000
open Go.ChangeShapes Go.WideShapes Go.RowKit

theorem cellsPc : Tryd.prog.cellsOf 148 = 2 := by kernel_rfl
theorem cellsFl : Tryd.prog.cellsOf 45 = 5 := by kernel_rfl
theorem cellsI : Tryd.prog.cellsOf 3 = 1 := by kernel_rfl
theorem cellsS : Tryd.prog.cellsOf 9 = 1 := by kernel_rfl
theorem cellsPs : Tryd.prog.cellsOf 42 = 1 := by kernel_rfl
theorem cellsFs : Tryd.prog.cellsOf 43 = 1 := by kernel_rfl
theorem rows_pcsR : ∀ (l : Pcs) (rows : List (List Value)), l.length = rows.length -> (∀ (i : Nat) b, l[i]? = some b -> ∃ r, rows[i]? = some r /\ r = [.int .i64 b.1, str b.2]) -> rows = pcsR l
  | [], [], _, _ => rfl
  | [], _ :: _, h, _ => by simp at h
  | _ :: _, [], h, _ => by simp at h
  | b :: l, r :: rows, h, hr => by
    obtain ⟨r0, h0, h1⟩ := hr 0 b rfl
    simp only [List.getElem?_cons_zero, Option.some.injEq] at h0
    have ih := rows_pcsR l rows (by simpa using h) (fun i b' hb => by simpa using hr (i + 1) b' (by simpa using hb))
    rw [h0, h1, ih]; rfl
theorem rows_fls {h : Heap} : ∀ (l : List Fl) (rows : List (List Value)), l.length = rows.length -> (∀ (i : Nat) b, l[i]? = some b -> ∃ r, rows[i]? = some r /\ FlC h b r) -> FlsC h l rows
  | [], [], _, _ => FlsC.nil h
  | [], _ :: _, h, _ => by simp at h
  | _ :: _, [], h, _ => by simp at h
  | b :: l, r :: rows, h, hr => by
    obtain ⟨r0, h0, h1⟩ := hr 0 b rfl
    simp only [List.getElem?_cons_zero, Option.some.injEq] at h0
    have ih := rows_fls l rows (by simpa using h) (fun i b' hb => by simpa using hr (i + 1) b' (by simpa using hb))
    simp only [FlsC]
    exact ⟨r, rows, rfl, h0 ▸ h1, ih⟩
theorem pcW_sum : ∀ ps : Pcs, (ps.map fun p => 1 + p.2.length).sum = pcW ps
  | [] => rfl
  | (k, t) :: ps => by simp only [List.map_cons, List.sum_cons, pcW_sum ps, pcW]
theorem flwt_sum : ∀ ks : List Fl, (ks.map Fl.wt).sum = flwt ks
  | [] => by simp [flwt]
  | k :: ks => by simp only [List.map_cons, List.sum_cons, flwt_sum ks, flwt]
section
variable {H : Type} {enc : TypeId × Value -> H} {W : World}
theorem int_open {n t : Nat} {cs : List Value} {x : DataW H × List MemPlace} (hu : Tryd.prog.underlying t = some (.int .i64)) (h : DataW.trod enc Tryd.prog W 0 (fun _ => true) true n t cs = some x) : ∃ s : Int, cs = [.int .i64 s] /\ 1 <= Rows.uptoBulk x.1 := by
  obtain ⟨s, hs, hx, _⟩ := DataW.trod_int hu h
  subst hs
  exact ⟨_, rfl, by rw [hx]; simp only [Rows.uptoBulk]; omega⟩
set_option maxRecDepth 20000 in
theorem pc_open {fuel : Nat} {cs : List Value} {x : DataW H × List MemPlace} (h : DataW.trod enc Tryd.prog W 0 (fun _ => true) true fuel 148 cs = some x) : ∃ a : Int × List UInt8, cs = [.int .i64 a.1, str a.2] /\ 1 + a.2.length <= 1 * Rows.uptoBulk x.1 := by
  obtain ⟨xs, n, hn, hx, hl, hlen, hfl⟩ := DataW.trod_struct Tryd.underlying148 h
  rw [cellsPc] at hl
  match cs, hl, xs, hlen with
  | [c0, c1], _, [y0, y1], _ =>
    have e0 : DataW.trod enc Tryd.prog W 0 (fun _ => true) true n 3 ((List.drop 0 [c0, c1]).take (Tryd.prog.cellsOf 3)) = some y0 := hfl 0 _ rfl
    have e1 : DataW.trod enc Tryd.prog W 0 (fun _ => true) true n 9 ((List.drop 1 [c0, c1]).take (Tryd.prog.cellsOf 9)) = some y1 := hfl 1 _ rfl
    rw [cellsI] at e0
    rw [cellsS] at e1
    obtain ⟨s0, hs0, hb0⟩ := int_open Tryd.underlying3 e0
    obtain ⟨s1, hs1, hb1⟩ := str_open Tryd.underlying9 e1
    simp only [List.drop_zero, List.take_succ_cons, List.take_zero, List.drop_succ_cons, List.cons.injEq, and_true] at hs0 hs1
    subst hs0 hs1
    refine ⟨(s0, s1), rfl, ?_⟩
    rw [hx]; simp only [List.map_cons, List.map_nil, Rows.uptoBulk, Rows.uptoBulkAll]; omega
set_option maxRecDepth 20000 in
theorem pcs_open {fuel : Nat} {v : Value} {x : DataW H × List MemPlace} (h : DataW.trod enc Tryd.prog W 0 (fun _ => true) true fuel 42 [v] = some x) : ∃ ps : Pcs, HSl (heapOf W) v 2 (pcsR ps) /\ pcW ps + 1 <= Rows.uptoBulk x.1 := by
  obtain ⟨l, rows, h1, h2, h3, h4⟩ := sl_open (R := fun (a : Int × List UInt8) r => r = [.int .i64 a.1, str a.2]) (m := fun p => 1 + p.2.length) (c := 1) Tryd.underlying42 cellsPc (by decide) (fun n' _ cs x hh => pc_open hh) h
  rw [rows_pcsR l rows h2 h3] at h1
  rw [pcW_sum] at h4
  exact ⟨l, h1, by omega⟩
set_option maxRecDepth 20000 in
theorem flt_open : ∀ (m fuel : Nat), fuel <= m -> ∀ (cs : List Value) (x : DataW H × List MemPlace), DataW.trod enc Tryd.prog W 0 (fun _ => true) true fuel 45 cs = some x →
    ∃ a : Fl, FlC (heapOf W) a cs /\ a.wt <= Rows.uptoBulk x.1
  | m, 0, _, cs, x, h => by simp [DataW.trod] at h
  | 0, f + 1, hf, _, _, _ => by omega
  | m + 1, fuel + 1, hf, cs, x, h => by
    obtain ⟨xs, n, hn, hx, hl, hlen, hfl⟩ := DataW.trod_struct Tryd.underlying45 h
    rw [cellsFl] at hl
    match cs, hl, xs, hlen with
    | [c0, c1, c2, c3, c4], _, [y0, y1, y2, y3, y4], _ =>
      have e0 : DataW.trod enc Tryd.prog W 0 (fun _ => true) true n 3 ((List.drop 0 [c0, c1, c2, c3, c4]).take (Tryd.prog.cellsOf 3)) = some y0 := hfl 0 _ rfl
      have e1 : DataW.trod enc Tryd.prog W 0 (fun _ => true) true n 9 ((List.drop 1 [c0, c1, c2, c3, c4]).take (Tryd.prog.cellsOf 9)) = some y1 := hfl 1 _ rfl
      have e2 : DataW.trod enc Tryd.prog W 0 (fun _ => true) true n 9 ((List.drop 2 [c0, c1, c2, c3, c4]).take (Tryd.prog.cellsOf 9)) = some y2 := hfl 2 _ rfl
      have e3 : DataW.trod enc Tryd.prog W 0 (fun _ => true) true n 42 ((List.drop 3 [c0, c1, c2, c3, c4]).take (Tryd.prog.cellsOf 42)) = some y3 := hfl 3 _ rfl
      have e4 : DataW.trod enc Tryd.prog W 0 (fun _ => true) true n 43 ((List.drop 4 [c0, c1, c2, c3, c4]).take (Tryd.prog.cellsOf 43)) = some y4 := hfl 4 _ rfl
      rw [cellsI] at e0
      rw [cellsS] at e1 e2
      rw [cellsPs] at e3
      rw [cellsFs] at e4
      obtain ⟨k, hk0, hb0⟩ := int_open Tryd.underlying3 e0
      obtain ⟨s1, hs1, hb1⟩ := str_open Tryd.underlying9 e1
      obtain ⟨s2, hs2, hb2⟩ := str_open Tryd.underlying9 e2
      simp only [List.drop_zero, List.take_succ_cons, List.take_zero, List.drop_succ_cons, List.cons.injEq, and_true] at hk0 hs1 hs2 e3 e4
      subst hk0 hs1 hs2
      obtain ⟨ps, hp1, hp2⟩ := pcs_open e3
      obtain ⟨l, rows, h1, h2, h3, h4⟩ := sl_open (R := fun (a : Fl) r => FlC (heapOf W) a r) (m := Fl.wt) (c := 1) Tryd.underlying43 cellsFl (by decide) (fun n' hn' cs x hh => by
        obtain ⟨a, g1, g2⟩ := flt_open m n' (by omega) cs x hh
        exact ⟨a, g1, by omega⟩) e4
      rw [flwt_sum] at h4
      refine ⟨.mk k s1 s2 ps l, FlC.mk_ hp1 h1 (rows_fls l rows h2 h3), ?_⟩
      rw [hx]; simp only [List.map_cons, List.map_nil, Rows.uptoBulk, Rows.uptoBulkAll, Fl.wt]; omega
end
end Go.Proofs.YtibkffoeioidlaaDoor
