/- Schemas that came in. -/
import Derived.Test.YtfmekdmpghhegaaDoorSlOpen
import Derived.Test.YtfmekdmpghhegaaDoorScM
namespace Go.Proofs.YtfmekdmpghhegaaDoor
set_option linter.all false
set_option maxRecDepth 4000
open Go.ChangeShapes Go.WideShapes Go.RowKit

theorem sumS_len {α : Type} {m : α -> Nat} (hm : ∀ a, 1 <= m a) : ∀ l : List α, l.length <= (l.map m).sum
  | [] => by simp
  | a :: l => by have := sumS_len hm l; have := hm a; simp only [List.map_cons, List.sum_cons, List.length_cons]; omega
theorem memS_sum {α : Type} {m : α -> Nat} {a : α} : ∀ {l : List α}, a ∈ l -> m a <= (l.map m).sum
  | [], h => by simp at h
  | b :: l, h => by
    simp only [List.map_cons, List.sum_cons]
    rcases List.mem_cons.1 h with rfl | h
    . omega
    . have := memS_sum (m := m) h; omega
def txW (l : List (List UInt8)) : Nat := (l.map fun s => s.length + 1).sum
def tyW (t : Ty4) : Nat := 1 + t.1.length
def clW (c : Cls) : Nat := 1 + c.1.length + c.2.1.length + txW c.2.2.2.1 + txW c.2.2.2.2
theorem txW_len (l : List (List UInt8)) : l.length <= txW l := sumS_len (fun s => by omega) l
theorem txW_mem {l : List (List UInt8)} {s : List UInt8} (h : s ∈ l) : s.length + 1 <= txW l := memS_sum (m := fun s : List UInt8 => s.length + 1) h
theorem cellsSTy : Tryd.prog.cellsOf 41 = 4 := by kernel_rfl
theorem cellsSCl : Tryd.prog.cellsOf 28 = 5 := by kernel_rfl
theorem cellsSSc : Tryd.prog.cellsOf 25 = 2 := by kernel_rfl
theorem cellsSInt : Tryd.prog.cellsOf 3 = 1 := by kernel_rfl
theorem cellsSBool : Tryd.prog.cellsOf 4 = 1 := by kernel_rfl
theorem cellsSStr : Tryd.prog.cellsOf 9 = 1 := by kernel_rfl
theorem cellsSStrs : Tryd.prog.cellsOf 26 = 1 := by kernel_rfl
theorem cellsSTys : Tryd.prog.cellsOf 22 = 1 := by kernel_rfl
theorem cellsSCls : Tryd.prog.cellsOf 23 = 1 := by kernel_rfl
theorem rowsS_ty : ∀ (l : List Ty4) (rows : List (List Value)), l.length = rows.length -> (∀ (i : Nat) b, l[i]? = some b -> ∃ r, rows[i]? = some r /\ r = [str b.1, .int .i64 b.2.1, .bool b.2.2.1, .bool b.2.2.2]) -> rows = tyR l
  | [], [], _, _ => rfl
  | [], _ :: _, h, _ => by simp at h
  | _ :: _, [], h, _ => by simp at h
  | b :: l, r :: rows, h, hr => by
    obtain ⟨r0, h0, h1⟩ := hr 0 b rfl
    simp only [List.getElem?_cons_zero, Option.some.injEq] at h0
    have ih := rowsS_ty l rows (by simpa using h) (fun i b' hb => by simpa using hr (i + 1) b' (by simpa using hb))
    rw [h0, h1, ih]; rfl
theorem rowsS_tx : ∀ (l : List (List UInt8)) (rows : List (List Value)), l.length = rows.length -> (∀ (i : Nat) b, l[i]? = some b -> ∃ r, rows[i]? = some r /\ r = [str b]) -> rows = strsR l
  | [], [], _, _ => rfl
  | [], _ :: _, h, _ => by simp at h
  | _ :: _, [], h, _ => by simp at h
  | b :: l, r :: rows, h, hr => by
    obtain ⟨r0, h0, h1⟩ := hr 0 b rfl
    simp only [List.getElem?_cons_zero, Option.some.injEq] at h0
    have ih := rowsS_tx l rows (by simpa using h) (fun i b' hb => by simpa using hr (i + 1) b' (by simpa using hb))
    rw [h0, h1, ih]; rfl
theorem rowsS_cl {h : Heap} : ∀ (l : List Cls) (rows : List (List Value)), l.length = rows.length -> (∀ (i : Nat) x, l[i]? = some x -> ∃ r, rows[i]? = some r /\ ∃ vm vy, r = [str x.1, str x.2.1, .int .i64 x.2.2.1, vm, vy] /\ HSl h vm 1 (strsR x.2.2.2.1) /\ HSl h vy 1 (strsR x.2.2.2.2)) -> ClsC h l rows
  | [], [], _, _ => rfl
  | [], _ :: _, h, _ => by simp at h
  | _ :: _, [], h, _ => by simp at h
  | b :: l, r :: rows, h, hr => by
    obtain ⟨r0, h0, vm, vy, h1, h2, h3⟩ := hr 0 b rfl
    simp only [List.getElem?_cons_zero, Option.some.injEq] at h0
    have ih := rowsS_cl l rows (by simpa using h) (fun i b' hb => by simpa using hr (i + 1) b' (by simpa using hb))
    exact ⟨vm, vy, rows, by rw [h0, h1], h2, h3, ih⟩
section
variable {H : Type} {enc : TypeId × Value -> H} {W : World}
theorem intS_open {n t : Nat} {cs : List Value} {x : DataW H × List MemPlace} (hu : Tryd.prog.underlying t = some (.int .i64)) (h : DataW.trod enc Tryd.prog W 0 (fun _ => true) true n t cs = some x) : ∃ s : Int, cs = [.int .i64 s] /\ inR .i64 s /\ 1 <= Rows.uptoBulk x.1 := by
  obtain ⟨s, hs, hx, hw⟩ := DataW.trod_int hu h
  subst hs
  exact ⟨_, rfl, inR_of_wf hw, by rw [hx]; simp only [Rows.uptoBulk]; omega⟩
theorem boolS_open {n t : Nat} {cs : List Value} {x : DataW H × List MemPlace} (hu : Tryd.prog.underlying t = some .bool) (h : DataW.trod enc Tryd.prog W 0 (fun _ => true) true n t cs = some x) : ∃ s : Bool, cs = [.bool s] := by
  obtain ⟨s, hs, _⟩ := DataW.trod_bool hu h
  exact ⟨s, hs⟩
theorem txs_open {fuel : Nat} {v : Value} {x : DataW H × List MemPlace} (h : DataW.trod enc Tryd.prog W 0 (fun _ => true) true fuel 26 [v] = some x) : ∃ L : List (List UInt8), HSl (heapOf W) v 1 (strsR L) /\ txW L + 1 <= 1 * Rows.uptoBulk x.1 := by
  obtain ⟨l, rows, h1, h2, h3, h4⟩ := sl_open (R := fun (a : List UInt8) r => r = [str a]) (m := fun s => s.length + 1) (c := 1) Tryd.underlying26 cellsSStr (by decide) (fun n' _ cs x hh => by
    obtain ⟨s, hs, hb⟩ := str_open Tryd.underlying9 hh
    exact ⟨s, hs, by omega⟩) h
  rw [rowsS_tx l rows h2 h3] at h1
  exact ⟨l, h1, h4⟩
set_option maxRecDepth 20000 in
theorem ty_open {fuel : Nat} {cs : List Value} {x : DataW H × List MemPlace} (h : DataW.trod enc Tryd.prog W 0 (fun _ => true) true fuel 41 cs = some x) : ∃ t : Ty4, (cs = [str t.1, .int .i64 t.2.1, .bool t.2.2.1, .bool t.2.2.2] /\ inR .i64 t.2.1) /\ tyW t <= 1 * Rows.uptoBulk x.1 := by
  obtain ⟨xs, n, hn, hx, hl, hlen, hfl⟩ := DataW.trod_struct Tryd.underlying41 h
  rw [cellsSTy] at hl
  match cs, hl, xs, hlen with
  | [c0, c1, c2, c3], _, [y0, y1, y2, y3], _ =>
    have e0 : DataW.trod enc Tryd.prog W 0 (fun _ => true) true n 9 ((List.drop 0 [c0, c1, c2, c3]).take (Tryd.prog.cellsOf 9)) = some y0 := hfl 0 _ rfl
    have e1 : DataW.trod enc Tryd.prog W 0 (fun _ => true) true n 3 ((List.drop 1 [c0, c1, c2, c3]).take (Tryd.prog.cellsOf 3)) = some y1 := hfl 1 _ rfl
    have e2 : DataW.trod enc Tryd.prog W 0 (fun _ => true) true n 4 ((List.drop 2 [c0, c1, c2, c3]).take (Tryd.prog.cellsOf 4)) = some y2 := hfl 2 _ rfl
    have e3 : DataW.trod enc Tryd.prog W 0 (fun _ => true) true n 4 ((List.drop 3 [c0, c1, c2, c3]).take (Tryd.prog.cellsOf 4)) = some y3 := hfl 3 _ rfl
    rw [cellsSStr] at e0
    rw [cellsSInt] at e1
    rw [cellsSBool] at e2 e3
    obtain ⟨s0, hs0, hb0⟩ := str_open Tryd.underlying9 e0
    obtain ⟨k1, hs1, hr1, hb1⟩ := intS_open Tryd.underlying3 e1
    obtain ⟨b2, hs2⟩ := boolS_open Tryd.underlying4 e2
    obtain ⟨b3, hs3⟩ := boolS_open Tryd.underlying4 e3
    simp only [List.drop_zero, List.take_succ_cons, List.take_zero, List.drop_succ_cons, List.cons.injEq, and_true] at hs0 hs1 hs2 hs3
    subst hs0 hs1 hs2 hs3
    refine ⟨(s0, k1, b2, b3), ⟨rfl, hr1⟩, ?_⟩
    rw [hx]; simp only [List.map_cons, List.map_nil, Rows.uptoBulk, Rows.uptoBulkAll, tyW]; omega
set_option maxRecDepth 20000 in
theorem cl_open {fuel : Nat} {cs : List Value} {x : DataW H × List MemPlace} (h : DataW.trod enc Tryd.prog W 0 (fun _ => true) true fuel 28 cs = some x) : ∃ c : Cls, ((∃ vm vy, cs = [str c.1, str c.2.1, .int .i64 c.2.2.1, vm, vy] /\ HSl (heapOf W) vm 1 (strsR c.2.2.2.1) /\ HSl (heapOf W) vy 1 (strsR c.2.2.2.2)) /\ inR .i64 c.2.2.1) /\ clW c <= 1 * Rows.uptoBulk x.1 := by
  obtain ⟨xs, n, hn, hx, hl, hlen, hfl⟩ := DataW.trod_struct Tryd.underlying28 h
  rw [cellsSCl] at hl
  match cs, hl, xs, hlen with
  | [c0, c1, c2, c3, c4], _, [y0, y1, y2, y3, y4], _ =>
    have e0 : DataW.trod enc Tryd.prog W 0 (fun _ => true) true n 9 ((List.drop 0 [c0, c1, c2, c3, c4]).take (Tryd.prog.cellsOf 9)) = some y0 := hfl 0 _ rfl
    have e1 : DataW.trod enc Tryd.prog W 0 (fun _ => true) true n 9 ((List.drop 1 [c0, c1, c2, c3, c4]).take (Tryd.prog.cellsOf 9)) = some y1 := hfl 1 _ rfl
    have e2 : DataW.trod enc Tryd.prog W 0 (fun _ => true) true n 3 ((List.drop 2 [c0, c1, c2, c3, c4]).take (Tryd.prog.cellsOf 3)) = some y2 := hfl 2 _ rfl
    have e3 : DataW.trod enc Tryd.prog W 0 (fun _ => true) true n 26 ((List.drop 3 [c0, c1, c2, c3, c4]).take (Tryd.prog.cellsOf 26)) = some y3 := hfl 3 _ rfl
    have e4 : DataW.trod enc Tryd.prog W 0 (fun _ => true) true n 26 ((List.drop 4 [c0, c1, c2, c3, c4]).take (Tryd.prog.cellsOf 26)) = some y4 := hfl 4 _ rfl
    rw [cellsSStr] at e0 e1
    rw [cellsSInt] at e2
    rw [cellsSStrs] at e3 e4
    simp only [List.drop_zero, List.take_succ_cons, List.take_zero, List.drop_succ_cons] at e3 e4
    obtain ⟨s0, hs0, hb0⟩ := str_open Tryd.underlying9 e0
    obtain ⟨s1, hs1, hb1⟩ := str_open Tryd.underlying9 e1
    obtain ⟨k2, hs2, hr2, hb2⟩ := intS_open Tryd.underlying3 e2
    obtain ⟨L3, h3, hb3⟩ := txs_open e3
    obtain ⟨L4, h4, hb4⟩ := txs_open e4
    simp only [List.drop_zero, List.take_succ_cons, List.take_zero, List.drop_succ_cons, List.cons.injEq, and_true] at hs0 hs1 hs2
    subst hs0 hs1 hs2
    refine ⟨(s0, s1, k2, L3, L4), ⟨⟨c3, c4, rfl, h3, h4⟩, hr2⟩, ?_⟩
    rw [hx]; simp only [List.map_cons, List.map_nil, Rows.uptoBulk, Rows.uptoBulkAll, clW]; omega
set_option maxRecDepth 20000 in
theorem sch_open {fuel : Nat} {cs : List Value} {x : DataW H × List MemPlace} (h : DataW.trod enc Tryd.prog W 0 (fun _ => true) true fuel 25 cs = some x) : ∃ (T : List Ty4) (C : List Cls) (vT vC : Value) (rc : List (List Value)),
    cs = [vT, vC] /\ HSl (heapOf W) vT 4 (tyR T) /\ HSl (heapOf W) vC 5 rc /\ ClsC (heapOf W) C rc /\ (∀ t ∈ T, inR .i64 t.2.1) /\ (∀ c ∈ C, inR .i64 c.2.2.1) /\ (T.map tyW).sum + (C.map clW).sum + 1 <= 1 * Rows.uptoBulk x.1 := by
  obtain ⟨xs, n, hn, hx, hl, hlen, hfl⟩ := DataW.trod_struct Tryd.underlying25 h
  rw [cellsSSc] at hl
  match cs, hl, xs, hlen with
  | [c0, c1], _, [y0, y1], _ =>
    have e0 : DataW.trod enc Tryd.prog W 0 (fun _ => true) true n 22 ((List.drop 0 [c0, c1]).take (Tryd.prog.cellsOf 22)) = some y0 := hfl 0 _ rfl
    have e1 : DataW.trod enc Tryd.prog W 0 (fun _ => true) true n 23 ((List.drop 1 [c0, c1]).take (Tryd.prog.cellsOf 23)) = some y1 := hfl 1 _ rfl
    rw [cellsSTys] at e0
    rw [cellsSCls] at e1
    simp only [List.drop_zero, List.take_succ_cons, List.take_zero, List.drop_succ_cons] at e0 e1
    obtain ⟨T, rT, t1, t2, t3, t4⟩ := sl_open (R := fun (t : Ty4) r => r = [str t.1, .int .i64 t.2.1, .bool t.2.2.1, .bool t.2.2.2] /\ inR .i64 t.2.1) (m := tyW) (c := 1) Tryd.underlying22 cellsSTy (by decide) (fun n' _ cs x hh => ty_open hh) e0
    obtain ⟨C, rC, c1', c2, c3, c4⟩ := sl_open (R := fun (c : Cls) r => (∃ vm vy, r = [str c.1, str c.2.1, .int .i64 c.2.2.1, vm, vy] /\ HSl (heapOf W) vm 1 (strsR c.2.2.2.1) /\ HSl (heapOf W) vy 1 (strsR c.2.2.2.2)) /\ inR .i64 c.2.2.1) (m := clW) (c := 1) Tryd.underlying23 cellsSCl (by decide) (fun n' _ cs x hh => cl_open hh) e1
    rw [rowsS_ty T rT t2 (fun i b hb => by obtain ⟨r, h1, h2, _⟩ := t3 i b hb; exact ⟨r, h1, h2⟩)] at t1
    refine ⟨T, C, c0, c1, rC, rfl, t1, c1', rowsS_cl C rC c2 (fun i b hb => by obtain ⟨r, h1, h2, _⟩ := c3 i b hb; exact ⟨r, h1, h2⟩), fun t ht => ?_, fun c hc => ?_, ?_⟩
    . obtain ⟨i, hi⟩ := List.getElem?_of_mem ht
      obtain ⟨_, _, _, h2⟩ := t3 i t hi
      exact h2
    . obtain ⟨i, hi⟩ := List.getElem?_of_mem hc
      obtain ⟨_, _, _, h2⟩ := c3 i c hi
      exact h2
    . rw [hx]; simp only [List.map_cons, List.map_nil, Rows.uptoBulk, Rows.uptoBulkAll]; omega
end
structure ScB (T : List Ty4) (C : List Cls) : Prop where
  tn : T.length <= 10000000
  cn : C.length <= 10000000
  tl : ∀ t ∈ T, t.1.length <= 10000000
  cl : ∀ c ∈ C, c.1.length <= 10000000 /\ c.2.1.length <= 10000000 /\ c.2.2.2.1.length <= 10000000 /\ c.2.2.2.2.length <= 10000000 /\ (∀ n ∈ c.2.2.2.1, n.length <= 10000000) /\ ∀ n ∈ c.2.2.2.2, n.length <= 10000000
theorem scB_of {T : List Ty4} {C : List Cls} (h : (T.map tyW).sum + (C.map clW).sum <= 1048576) : ScB T C := by
  have h1 := sumS_len (m := tyW) (fun t => by unfold tyW; omega) T
  have h2 := sumS_len (m := clW) (fun t => by unfold clW; omega) C
  refine ⟨by omega, by omega, fun t ht => ?_, fun c hc => ?_⟩
  . have := memS_sum (m := tyW) ht
    unfold tyW at this h; omega
  . have h3 := memS_sum (m := clW) hc
    have h4 := txW_len c.2.2.2.1
    have h5 := txW_len c.2.2.2.2
    unfold clW at h3 h
    refine ⟨by omega, by omega, by omega, by omega, fun n hn => ?_, fun n hn => ?_⟩
    . have := txW_mem hn; omega
    . have := txW_mem hn; omega
theorem coreB : ScB coreT coreC := ⟨by decide, by decide, by decide +kernel, by decide +kernel⟩
end Go.Proofs.YtfmekdmpghhegaaDoor
