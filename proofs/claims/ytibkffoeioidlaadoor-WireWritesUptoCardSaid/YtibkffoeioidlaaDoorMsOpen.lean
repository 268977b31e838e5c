/- Messages that came in. -/
import Derived.Test.YtibkffoeioidlaaDoorFlOpen
import Derived.Test.YtibkffoeioidlaaDoorWrD
namespace Go.Proofs.YtibkffoeioidlaaDoor
set_option linter.all false
set_option maxRecDepth 4000
open Go.ChangeShapes Go.WideShapes Go.RowKit

theorem cellsMBool : Tryd.prog.cellsOf 4 = 1 := by kernel_rfl
theorem cellsMStrs : Tryd.prog.cellsOf 46 = 1 := by kernel_rfl
theorem cellsMAtrs : Tryd.prog.cellsOf 47 = 1 := by kernel_rfl
theorem cellsMMods : Tryd.prog.cellsOf 48 = 1 := by kernel_rfl
theorem cellsMCtls : Tryd.prog.cellsOf 49 = 1 := by kernel_rfl
theorem cellsMAtr : Tryd.prog.cellsOf 83 = 2 := by kernel_rfl
theorem cellsMMod : Tryd.prog.cellsOf 85 = 3 := by kernel_rfl
theorem cellsMCtl : Tryd.prog.cellsOf 95 = 4 := by kernel_rfl
theorem cellsMsg : Tryd.prog.cellsOf 51 = 32 := by kernel_rfl
theorem cons_of {α : Type} {l : List α} {n : Nat} (h : l.length = n + 1) : ∃ a t, l = a :: t /\ t.length = n := by
  cases l with
  | nil => simp at h
  | cons a t => exact ⟨a, t, rfl, by simpa using h⟩
theorem bulk_drop {H : Type} (xs : List (DataW H × List MemPlace)) {i : Nat} (h : i < xs.length) : Rows.uptoBulkAll ((xs.drop i).map (·.1)) = Rows.uptoBulk xs[i].1 + Rows.uptoBulkAll ((xs.drop (i + 1)).map (·.1)) := by
  rw [List.drop_eq_getElem_cons h, List.map_cons, Rows.uptoBulkAll]
theorem dr1 {cs : List Value} {i : Nat} {v : Value} (h : (cs.drop i).take 1 = [v]) : cs.drop i = v :: cs.drop (i + 1) := by
  have := List.take_append_drop 1 (cs.drop i)
  rw [h, List.drop_drop] at this
  exact this.symm
theorem rowsM_tx : ∀ (l : List (List UInt8)) (rows : List (List Value)), l.length = rows.length -> (∀ (i : Nat) b, l[i]? = some b -> ∃ r, rows[i]? = some r /\ r = [str b]) -> rows = strsR l
  | [], [], _, _ => rfl
  | [], _ :: _, h, _ => by simp at h
  | _ :: _, [], h, _ => by simp at h
  | b :: l, r :: rows, h, hr => by
    obtain ⟨r0, h0, h1⟩ := hr 0 b rfl
    simp only [List.getElem?_cons_zero, Option.some.injEq] at h0
    have ih := rowsM_tx l rows (by simpa using h) (fun i b' hb => by simpa using hr (i + 1) b' (by simpa using hb))
    rw [h0, h1, ih]; rfl
theorem rowsM_ct : ∀ (l : List Ctl) (rows : List (List Value)), l.length = rows.length -> (∀ (i : Nat) b, l[i]? = some b -> ∃ r, rows[i]? = some r /\ r = ctlR b) -> rows = ctlsR l
  | [], [], _, _ => rfl
  | [], _ :: _, h, _ => by simp at h
  | _ :: _, [], h, _ => by simp at h
  | b :: l, r :: rows, h, hr => by
    obtain ⟨r0, h0, h1⟩ := hr 0 b rfl
    simp only [List.getElem?_cons_zero, Option.some.injEq] at h0
    have ih := rowsM_ct l rows (by simpa using h) (fun i b' hb => by simpa using hr (i + 1) b' (by simpa using hb))
    rw [h0, h1, ih]; rfl
section
variable {H : Type} {enc : TypeId × Value -> H} {W : World}
theorem intM_open {n t : Nat} {cs : List Value} {x : DataW H × List MemPlace} (hu : Tryd.prog.underlying t = some (.int .i64)) (h : DataW.trod enc Tryd.prog W 0 (fun _ => true) true n t cs = some x) : ∃ s : Int, cs = [.int .i64 s] /\ inR .i64 s /\ 1 <= Rows.uptoBulk x.1 := by
  obtain ⟨s, hs, hx, hw⟩ := DataW.trod_int hu h
  subst hs
  exact ⟨_, rfl, inR_of_wf hw, by rw [hx]; simp only [Rows.uptoBulk]; omega⟩
theorem boolM_open {n t : Nat} {cs : List Value} {x : DataW H × List MemPlace} (hu : Tryd.prog.underlying t = some .bool) (h : DataW.trod enc Tryd.prog W 0 (fun _ => true) true n t cs = some x) : ∃ s : Bool, cs = [.bool s] := by
  obtain ⟨s, hs, _⟩ := DataW.trod_bool hu h
  exact ⟨s, hs⟩
theorem txsM_open {fuel : Nat} {v : Value} {x : DataW H × List MemPlace} (h : DataW.trod enc Tryd.prog W 0 (fun _ => true) true fuel 46 [v] = some x) : ∃ L : List (List UInt8), HSl (heapOf W) v 1 (strsR L) /\ bsW L + 1 <= 1 * Rows.uptoBulk x.1 := by
  obtain ⟨l, rows, h1, h2, h3, h4⟩ := sl_open (R := fun (a : List UInt8) r => r = [str a]) (m := fun s => s.length + 1) (c := 1) Tryd.underlying46 cellsS (by decide) (fun n' _ cs x hh => by
    obtain ⟨s, hs, hb⟩ := str_open Tryd.underlying9 hh
    exact ⟨s, hs, by omega⟩) h
  rw [rowsM_tx l rows h2 h3] at h1
  exact ⟨l, h1, h4⟩

set_option maxRecDepth 20000 in
theorem atrM_open {fuel : Nat} {cs : List Value} {x : DataW H × List MemPlace} (h : DataW.trod enc Tryd.prog W 0 (fun _ => true) true fuel 83 cs = some x) : ∃ a : Atr, AtrC (heapOf W) a cs /\ atrW a <= 1 * Rows.uptoBulk x.1 := by
  obtain ⟨xs, n, hn, hx, hl, hlen, hfl⟩ := DataW.trod_struct Tryd.underlying83 h
  rw [cellsMAtr] at hl
  match cs, hl, xs, hlen with
  | [c0, c1], _, [y0, y1], _ =>
    have e0 : DataW.trod enc Tryd.prog W 0 (fun _ => true) true n 9 ((List.drop 0 [c0, c1]).take (Tryd.prog.cellsOf 9)) = some y0 := hfl 0 _ rfl
    have e1 : DataW.trod enc Tryd.prog W 0 (fun _ => true) true n 46 ((List.drop 1 [c0, c1]).take (Tryd.prog.cellsOf 46)) = some y1 := hfl 1 _ rfl
    rw [cellsS] at e0
    rw [cellsMStrs] at e1
    simp only [List.drop_zero, List.take_succ_cons, List.take_zero, List.drop_succ_cons] at e0 e1
    obtain ⟨s0, hs0, hb0⟩ := str_open Tryd.underlying9 e0
    obtain ⟨L, hL, hb1⟩ := txsM_open e1
    injection hs0 with hs0
    subst hs0
    refine ⟨(s0, L), ⟨c1, rfl, hL⟩, ?_⟩
    rw [hx]; simp only [List.map_cons, List.map_nil, Rows.uptoBulk, Rows.uptoBulkAll, atrW]; omega
set_option maxRecDepth 20000 in
theorem mdM_open {fuel : Nat} {cs : List Value} {x : DataW H × List MemPlace} (h : DataW.trod enc Tryd.prog W 0 (fun _ => true) true fuel 85 cs = some x) : ∃ a : Mdf, (MdC (heapOf W) a cs /\ inR .i64 a.op) /\ mdW a <= 1 * Rows.uptoBulk x.1 := by
  obtain ⟨xs, n, hn, hx, hl, hlen, hfl⟩ := DataW.trod_struct Tryd.underlying85 h
  rw [cellsMMod] at hl
  match cs, hl, xs, hlen with
  | [c0, c1, c2], _, [y0, y1, y2], _ =>
    have e0 : DataW.trod enc Tryd.prog W 0 (fun _ => true) true n 3 ((List.drop 0 [c0, c1, c2]).take (Tryd.prog.cellsOf 3)) = some y0 := hfl 0 _ rfl
    have e1 : DataW.trod enc Tryd.prog W 0 (fun _ => true) true n 9 ((List.drop 1 [c0, c1, c2]).take (Tryd.prog.cellsOf 9)) = some y1 := hfl 1 _ rfl
    have e2 : DataW.trod enc Tryd.prog W 0 (fun _ => true) true n 46 ((List.drop 2 [c0, c1, c2]).take (Tryd.prog.cellsOf 46)) = some y2 := hfl 2 _ rfl
    rw [cellsI] at e0
    rw [cellsS] at e1
    rw [cellsMStrs] at e2
    simp only [List.drop_zero, List.take_succ_cons, List.take_zero, List.drop_succ_cons] at e0 e1 e2
    obtain ⟨k0, hs0, hr0, hb0⟩ := intM_open Tryd.underlying3 e0
    obtain ⟨s1, hs1, hb1⟩ := str_open Tryd.underlying9 e1
    obtain ⟨L, hL, hb2⟩ := txsM_open e2
    injection hs0 with hs0
    injection hs1 with hs1
    subst hs0; subst hs1
    refine ⟨⟨k0, s1, L⟩, ⟨⟨c2, rfl, hL⟩, hr0⟩, ?_⟩
    rw [hx]; simp only [List.map_cons, List.map_nil, Rows.uptoBulk, Rows.uptoBulkAll, mdW]; omega
set_option maxRecDepth 20000 in
theorem ctM_open {fuel : Nat} {cs : List Value} {x : DataW H × List MemPlace} (h : DataW.trod enc Tryd.prog W 0 (fun _ => true) true fuel 95 cs = some x) : ∃ a : Ctl, cs = ctlR a /\ ctlW a <= 1 * Rows.uptoBulk x.1 := by
  obtain ⟨xs, n, hn, hx, hl, hlen, hfl⟩ := DataW.trod_struct Tryd.underlying95 h
  rw [cellsMCtl] at hl
  match cs, hl, xs, hlen with
  | [c0, c1, c2, c3], _, [y0, y1, y2, y3], _ =>
    have e0 : DataW.trod enc Tryd.prog W 0 (fun _ => true) true n 9 ((List.drop 0 [c0, c1, c2, c3]).take (Tryd.prog.cellsOf 9)) = some y0 := hfl 0 _ rfl
    have e1 : DataW.trod enc Tryd.prog W 0 (fun _ => true) true n 4 ((List.drop 1 [c0, c1, c2, c3]).take (Tryd.prog.cellsOf 4)) = some y1 := hfl 1 _ rfl
    have e2 : DataW.trod enc Tryd.prog W 0 (fun _ => true) true n 4 ((List.drop 2 [c0, c1, c2, c3]).take (Tryd.prog.cellsOf 4)) = some y2 := hfl 2 _ rfl
    have e3 : DataW.trod enc Tryd.prog W 0 (fun _ => true) true n 9 ((List.drop 3 [c0, c1, c2, c3]).take (Tryd.prog.cellsOf 9)) = some y3 := hfl 3 _ rfl
    rw [cellsS] at e0 e3
    rw [cellsMBool] at e1 e2
    simp only [List.drop_zero, List.take_succ_cons, List.take_zero, List.drop_succ_cons] at e0 e1 e2 e3
    obtain ⟨s0, hs0, hb0⟩ := str_open Tryd.underlying9 e0
    obtain ⟨b1, hs1⟩ := boolM_open Tryd.underlying4 e1
    obtain ⟨b2, hs2⟩ := boolM_open Tryd.underlying4 e2
    obtain ⟨s3, hs3, hb3⟩ := str_open Tryd.underlying9 e3
    injection hs0 with hs0
    injection hs1 with hs1
    injection hs2 with hs2
    injection hs3 with hs3
    subst hs0; subst hs1; subst hs2; subst hs3
    refine ⟨⟨s0, b1, b2, s3⟩, rfl, ?_⟩
    rw [hx]; simp only [List.map_cons, List.map_nil, Rows.uptoBulk, Rows.uptoBulkAll, ctlW]; omega
theorem lc_of {α : Type} {R : Heap -> α -> List Value -> Prop} {h : Heap} {l : List α} {rows : List (List Value)} (hl : l.length = rows.length) (hr : ∀ (i : Nat) b, l[i]? = some b -> ∃ r, rows[i]? = some r /\ R h b r) : LC R h l rows := LC.of l rows hl hr
set_option maxRecDepth 20000 in
set_option maxHeartbeats 4000000 in
theorem ms_open {fuel : Nat} {cs : List Value} {x : DataW H × List MemPlace} (h : DataW.trod enc Tryd.prog W 0 (fun _ => true) true fuel 51 cs = some x) :
    ∃ (m : Ms) (pv kv nv av mv cv : Value), cs = msR m pv kv nv av mv cv /\ MsV (heapOf W) m pv kv nv av mv cv /\ MsI m /\ m.wt <= Rows.uptoBulk x.1 := by
  obtain ⟨xs, n, hn, hx, hl, hlen, hfl⟩ := DataW.trod_struct Tryd.underlying51 h
  rw [cellsMsg] at hl
  have e0 : ∀ (h : 0 < xs.length), DataW.trod enc Tryd.prog W 0 (fun _ => true) true n 3 ((cs.drop 0).take (Tryd.prog.cellsOf 3)) = some xs[0] := fun h => (hfl 0 _ rfl).trans (List.getElem?_eq_getElem h)
  have e1 : ∀ (h : 1 < xs.length), DataW.trod enc Tryd.prog W 0 (fun _ => true) true n 3 ((cs.drop 1).take (Tryd.prog.cellsOf 3)) = some xs[1] := fun h => (hfl 1 _ rfl).trans (List.getElem?_eq_getElem h)
  have e2 : ∀ (h : 2 < xs.length), DataW.trod enc Tryd.prog W 0 (fun _ => true) true n 9 ((cs.drop 2).take (Tryd.prog.cellsOf 9)) = some xs[2] := fun h => (hfl 2 _ rfl).trans (List.getElem?_eq_getElem h)
  have e3 : ∀ (h : 3 < xs.length), DataW.trod enc Tryd.prog W 0 (fun _ => true) true n 3 ((cs.drop 3).take (Tryd.prog.cellsOf 3)) = some xs[3] := fun h => (hfl 3 _ rfl).trans (List.getElem?_eq_getElem h)
  have e4 : ∀ (h : 4 < xs.length), DataW.trod enc Tryd.prog W 0 (fun _ => true) true n 4 ((cs.drop 4).take (Tryd.prog.cellsOf 4)) = some xs[4] := fun h => (hfl 4 _ rfl).trans (List.getElem?_eq_getElem h)
  have e5 : ∀ (h : 5 < xs.length), DataW.trod enc Tryd.prog W 0 (fun _ => true) true n 9 ((cs.drop 5).take (Tryd.prog.cellsOf 9)) = some xs[5] := fun h => (hfl 5 _ rfl).trans (List.getElem?_eq_getElem h)
  have e6 : ∀ (h : 6 < xs.length), DataW.trod enc Tryd.prog W 0 (fun _ => true) true n 9 ((cs.drop 6).take (Tryd.prog.cellsOf 9)) = some xs[6] := fun h => (hfl 6 _ rfl).trans (List.getElem?_eq_getElem h)
  have e7 : ∀ (h : 7 < xs.length), DataW.trod enc Tryd.prog W 0 (fun _ => true) true n 3 ((cs.drop 7).take (Tryd.prog.cellsOf 3)) = some xs[7] := fun h => (hfl 7 _ rfl).trans (List.getElem?_eq_getElem h)
  have e8 : ∀ (h : 8 < xs.length), DataW.trod enc Tryd.prog W 0 (fun _ => true) true n 3 ((cs.drop 8).take (Tryd.prog.cellsOf 3)) = some xs[8] := fun h => (hfl 8 _ rfl).trans (List.getElem?_eq_getElem h)
  have e9 : ∀ (h : 9 < xs.length), DataW.trod enc Tryd.prog W 0 (fun _ => true) true n 3 ((cs.drop 9).take (Tryd.prog.cellsOf 3)) = some xs[9] := fun h => (hfl 9 _ rfl).trans (List.getElem?_eq_getElem h)
  have e10 : ∀ (h : 10 < xs.length), DataW.trod enc Tryd.prog W 0 (fun _ => true) true n 3 ((cs.drop 10).take (Tryd.prog.cellsOf 3)) = some xs[10] := fun h => (hfl 10 _ rfl).trans (List.getElem?_eq_getElem h)
  have e11 : ∀ (h : 11 < xs.length), DataW.trod enc Tryd.prog W 0 (fun _ => true) true n 4 ((cs.drop 11).take (Tryd.prog.cellsOf 4)) = some xs[11] := fun h => (hfl 11 _ rfl).trans (List.getElem?_eq_getElem h)
  have e12 : ∀ (h : 12 < xs.length), DataW.trod enc Tryd.prog W 0 (fun _ => true) true n 45 ((cs.drop 12).take (Tryd.prog.cellsOf 45)) = some xs[12] := fun h => (hfl 12 _ rfl).trans (List.getElem?_eq_getElem h)
  have e13 : ∀ (h : 13 < xs.length), DataW.trod enc Tryd.prog W 0 (fun _ => true) true n 46 ((cs.drop 17).take (Tryd.prog.cellsOf 46)) = some xs[13] := fun h => (hfl 13 _ rfl).trans (List.getElem?_eq_getElem h)
  have e14 : ∀ (h : 14 < xs.length), DataW.trod enc Tryd.prog W 0 (fun _ => true) true n 47 ((cs.drop 18).take (Tryd.prog.cellsOf 47)) = some xs[14] := fun h => (hfl 14 _ rfl).trans (List.getElem?_eq_getElem h)
  have e15 : ∀ (h : 15 < xs.length), DataW.trod enc Tryd.prog W 0 (fun _ => true) true n 48 ((cs.drop 19).take (Tryd.prog.cellsOf 48)) = some xs[15] := fun h => (hfl 15 _ rfl).trans (List.getElem?_eq_getElem h)
  have e16 : ∀ (h : 16 < xs.length), DataW.trod enc Tryd.prog W 0 (fun _ => true) true n 9 ((cs.drop 20).take (Tryd.prog.cellsOf 9)) = some xs[16] := fun h => (hfl 16 _ rfl).trans (List.getElem?_eq_getElem h)
  have e17 : ∀ (h : 17 < xs.length), DataW.trod enc Tryd.prog W 0 (fun _ => true) true n 4 ((cs.drop 21).take (Tryd.prog.cellsOf 4)) = some xs[17] := fun h => (hfl 17 _ rfl).trans (List.getElem?_eq_getElem h)
  have e18 : ∀ (h : 18 < xs.length), DataW.trod enc Tryd.prog W 0 (fun _ => true) true n 4 ((cs.drop 22).take (Tryd.prog.cellsOf 4)) = some xs[18] := fun h => (hfl 18 _ rfl).trans (List.getElem?_eq_getElem h)
  have e19 : ∀ (h : 19 < xs.length), DataW.trod enc Tryd.prog W 0 (fun _ => true) true n 9 ((cs.drop 23).take (Tryd.prog.cellsOf 9)) = some xs[19] := fun h => (hfl 19 _ rfl).trans (List.getElem?_eq_getElem h)
  have e20 : ∀ (h : 20 < xs.length), DataW.trod enc Tryd.prog W 0 (fun _ => true) true n 9 ((cs.drop 24).take (Tryd.prog.cellsOf 9)) = some xs[20] := fun h => (hfl 20 _ rfl).trans (List.getElem?_eq_getElem h)
  have e21 : ∀ (h : 21 < xs.length), DataW.trod enc Tryd.prog W 0 (fun _ => true) true n 3 ((cs.drop 25).take (Tryd.prog.cellsOf 3)) = some xs[21] := fun h => (hfl 21 _ rfl).trans (List.getElem?_eq_getElem h)
  have e22 : ∀ (h : 22 < xs.length), DataW.trod enc Tryd.prog W 0 (fun _ => true) true n 9 ((cs.drop 26).take (Tryd.prog.cellsOf 9)) = some xs[22] := fun h => (hfl 22 _ rfl).trans (List.getElem?_eq_getElem h)
  have e23 : ∀ (h : 23 < xs.length), DataW.trod enc Tryd.prog W 0 (fun _ => true) true n 4 ((cs.drop 27).take (Tryd.prog.cellsOf 4)) = some xs[23] := fun h => (hfl 23 _ rfl).trans (List.getElem?_eq_getElem h)
  have e24 : ∀ (h : 24 < xs.length), DataW.trod enc Tryd.prog W 0 (fun _ => true) true n 9 ((cs.drop 28).take (Tryd.prog.cellsOf 9)) = some xs[24] := fun h => (hfl 24 _ rfl).trans (List.getElem?_eq_getElem h)
  have e25 : ∀ (h : 25 < xs.length), DataW.trod enc Tryd.prog W 0 (fun _ => true) true n 3 ((cs.drop 29).take (Tryd.prog.cellsOf 3)) = some xs[25] := fun h => (hfl 25 _ rfl).trans (List.getElem?_eq_getElem h)
  have e26 : ∀ (h : 26 < xs.length), DataW.trod enc Tryd.prog W 0 (fun _ => true) true n 9 ((cs.drop 30).take (Tryd.prog.cellsOf 9)) = some xs[26] := fun h => (hfl 26 _ rfl).trans (List.getElem?_eq_getElem h)
  have e27 : ∀ (h : 27 < xs.length), DataW.trod enc Tryd.prog W 0 (fun _ => true) true n 49 ((cs.drop 31).take (Tryd.prog.cellsOf 49)) = some xs[27] := fun h => (hfl 27 _ rfl).trans (List.getElem?_eq_getElem h)
  have hlen2 : xs.length = 28 := hlen.trans (by kernel_rfl)
  clear hfl hlen
  have l0 : 0 < xs.length := Nat.lt_of_lt_of_eq (by decide : 0 < 28) hlen2.symm
  have c0 := bulk_drop xs l0
  have e0 := e0 l0
  rw [cellsI] at e0
  have l1 : 1 < xs.length := Nat.lt_of_lt_of_eq (by decide : 1 < 28) hlen2.symm
  have c1 := bulk_drop xs l1
  have e1 := e1 l1
  rw [cellsI] at e1
  have l2 : 2 < xs.length := Nat.lt_of_lt_of_eq (by decide : 2 < 28) hlen2.symm
  have c2 := bulk_drop xs l2
  have e2 := e2 l2
  rw [cellsS] at e2
  have l3 : 3 < xs.length := Nat.lt_of_lt_of_eq (by decide : 3 < 28) hlen2.symm
  have c3 := bulk_drop xs l3
  have e3 := e3 l3
  rw [cellsI] at e3
  have l4 : 4 < xs.length := Nat.lt_of_lt_of_eq (by decide : 4 < 28) hlen2.symm
  have c4 := bulk_drop xs l4
  have e4 := e4 l4
  rw [cellsMBool] at e4
  have l5 : 5 < xs.length := Nat.lt_of_lt_of_eq (by decide : 5 < 28) hlen2.symm
  have c5 := bulk_drop xs l5
  have e5 := e5 l5
  rw [cellsS] at e5
  have l6 : 6 < xs.length := Nat.lt_of_lt_of_eq (by decide : 6 < 28) hlen2.symm
  have c6 := bulk_drop xs l6
  have e6 := e6 l6
  rw [cellsS] at e6
  have l7 : 7 < xs.length := Nat.lt_of_lt_of_eq (by decide : 7 < 28) hlen2.symm
  have c7 := bulk_drop xs l7
  have e7 := e7 l7
  rw [cellsI] at e7
  have l8 : 8 < xs.length := Nat.lt_of_lt_of_eq (by decide : 8 < 28) hlen2.symm
  have c8 := bulk_drop xs l8
  have e8 := e8 l8
  rw [cellsI] at e8
  have l9 : 9 < xs.length := Nat.lt_of_lt_of_eq (by decide : 9 < 28) hlen2.symm
  have c9 := bulk_drop xs l9
  have e9 := e9 l9
  rw [cellsI] at e9
  have l10 : 10 < xs.length := Nat.lt_of_lt_of_eq (by decide : 10 < 28) hlen2.symm
  have c10 := bulk_drop xs l10
  have e10 := e10 l10
  rw [cellsI] at e10
  have l11 : 11 < xs.length := Nat.lt_of_lt_of_eq (by decide : 11 < 28) hlen2.symm
  have c11 := bulk_drop xs l11
  have e11 := e11 l11
  rw [cellsMBool] at e11
  have l12 : 12 < xs.length := Nat.lt_of_lt_of_eq (by decide : 12 < 28) hlen2.symm
  have c12 := bulk_drop xs l12
  have e12 := e12 l12
  rw [cellsFl] at e12
  have l13 : 13 < xs.length := Nat.lt_of_lt_of_eq (by decide : 13 < 28) hlen2.symm
  have c13 := bulk_drop xs l13
  have e13 := e13 l13
  rw [cellsMStrs] at e13
  have l14 : 14 < xs.length := Nat.lt_of_lt_of_eq (by decide : 14 < 28) hlen2.symm
  have c14 := bulk_drop xs l14
  have e14 := e14 l14
  rw [cellsMAtrs] at e14
  have l15 : 15 < xs.length := Nat.lt_of_lt_of_eq (by decide : 15 < 28) hlen2.symm
  have c15 := bulk_drop xs l15
  have e15 := e15 l15
  rw [cellsMMods] at e15
  have l16 : 16 < xs.length := Nat.lt_of_lt_of_eq (by decide : 16 < 28) hlen2.symm
  have c16 := bulk_drop xs l16
  have e16 := e16 l16
  rw [cellsS] at e16
  have l17 : 17 < xs.length := Nat.lt_of_lt_of_eq (by decide : 17 < 28) hlen2.symm
  have c17 := bulk_drop xs l17
  have e17 := e17 l17
  rw [cellsMBool] at e17
  have l18 : 18 < xs.length := Nat.lt_of_lt_of_eq (by decide : 18 < 28) hlen2.symm
  have c18 := bulk_drop xs l18
  have e18 := e18 l18
  rw [cellsMBool] at e18
  have l19 : 19 < xs.length := Nat.lt_of_lt_of_eq (by decide : 19 < 28) hlen2.symm
  have c19 := bulk_drop xs l19
  have e19 := e19 l19
  rw [cellsS] at e19
  have l20 : 20 < xs.length := Nat.lt_of_lt_of_eq (by decide : 20 < 28) hlen2.symm
  have c20 := bulk_drop xs l20
  have e20 := e20 l20
  rw [cellsS] at e20
  have l21 : 21 < xs.length := Nat.lt_of_lt_of_eq (by decide : 21 < 28) hlen2.symm
  have c21 := bulk_drop xs l21
  have e21 := e21 l21
  rw [cellsI] at e21
  have l22 : 22 < xs.length := Nat.lt_of_lt_of_eq (by decide : 22 < 28) hlen2.symm
  have c22 := bulk_drop xs l22
  have e22 := e22 l22
  rw [cellsS] at e22
  have l23 : 23 < xs.length := Nat.lt_of_lt_of_eq (by decide : 23 < 28) hlen2.symm
  have c23 := bulk_drop xs l23
  have e23 := e23 l23
  rw [cellsMBool] at e23
  have l24 : 24 < xs.length := Nat.lt_of_lt_of_eq (by decide : 24 < 28) hlen2.symm
  have c24 := bulk_drop xs l24
  have e24 := e24 l24
  rw [cellsS] at e24
  have l25 : 25 < xs.length := Nat.lt_of_lt_of_eq (by decide : 25 < 28) hlen2.symm
  have c25 := bulk_drop xs l25
  have e25 := e25 l25
  rw [cellsI] at e25
  have l26 : 26 < xs.length := Nat.lt_of_lt_of_eq (by decide : 26 < 28) hlen2.symm
  have c26 := bulk_drop xs l26
  have e26 := e26 l26
  rw [cellsS] at e26
  have l27 : 27 < xs.length := Nat.lt_of_lt_of_eq (by decide : 27 < 28) hlen2.symm
  have c27 := bulk_drop xs l27
  have e27 := e27 l27
  rw [cellsMCtls] at e27
  rw [List.drop_zero] at c0
  obtain ⟨v0, q0, i0, b0⟩ := intM_open Tryd.underlying3 e0
  obtain ⟨v1, q1, i1, b1⟩ := intM_open Tryd.underlying3 e1
  obtain ⟨v2, q2, b2⟩ := str_open Tryd.underlying9 e2
  obtain ⟨v3, q3, i3, b3⟩ := intM_open Tryd.underlying3 e3
  obtain ⟨v4, q4⟩ := boolM_open Tryd.underlying4 e4
  obtain ⟨v5, q5, b5⟩ := str_open Tryd.underlying9 e5
  obtain ⟨v6, q6, b6⟩ := str_open Tryd.underlying9 e6
  obtain ⟨v7, q7, i7, b7⟩ := intM_open Tryd.underlying3 e7
  obtain ⟨v8, q8, i8, b8⟩ := intM_open Tryd.underlying3 e8
  obtain ⟨v9, q9, i9, b9⟩ := intM_open Tryd.underlying3 e9
  obtain ⟨v10, q10, i10, b10⟩ := intM_open Tryd.underlying3 e10
  obtain ⟨v11, q11⟩ := boolM_open Tryd.underlying4 e11
  obtain ⟨v12, f12, b12⟩ := flt_open n n (Nat.le_refl _) _ _ e12
  obtain ⟨pv, kv, prw, q12, f0, f1, f2⟩ := f12.shape
  obtain ⟨w13, tl13, g13, _⟩ := cons_of (l := cs.drop 17) (n := 31 - 17) (by rw [List.length_drop, hl])
  have q13 : (cs.drop 17).take 1 = [w13] := by rw [g13]; rfl
  rw [q13] at e13
  obtain ⟨v13, s13, b13⟩ := txsM_open e13
  obtain ⟨w14, tl14, g14, _⟩ := cons_of (l := cs.drop 18) (n := 31 - 18) (by rw [List.length_drop, hl])
  have q14 : (cs.drop 18).take 1 = [w14] := by rw [g14]; rfl
  rw [q14] at e14
  obtain ⟨v14, r14, s14, z14, t14, b14⟩ := sl_open (R := fun (a : Atr) r => AtrC (heapOf W) a r) (m := atrW) (c := 1) Tryd.underlying47 cellsMAtr (by decide) (fun n' _ cs x hh => atrM_open hh) e14
  obtain ⟨w15, tl15, g15, _⟩ := cons_of (l := cs.drop 19) (n := 31 - 19) (by rw [List.length_drop, hl])
  have q15 : (cs.drop 19).take 1 = [w15] := by rw [g15]; rfl
  rw [q15] at e15
  obtain ⟨v15, r15, s15, z15, t15, b15⟩ := sl_open (R := fun (a : Mdf) r => MdC (heapOf W) a r /\ inR .i64 a.op) (m := mdW) (c := 1) Tryd.underlying48 cellsMMod (by decide) (fun n' _ cs x hh => mdM_open hh) e15
  obtain ⟨v16, q16, b16⟩ := str_open Tryd.underlying9 e16
  obtain ⟨v17, q17⟩ := boolM_open Tryd.underlying4 e17
  obtain ⟨v18, q18⟩ := boolM_open Tryd.underlying4 e18
  obtain ⟨v19, q19, b19⟩ := str_open Tryd.underlying9 e19
  obtain ⟨v20, q20, b20⟩ := str_open Tryd.underlying9 e20
  obtain ⟨v21, q21, i21, b21⟩ := intM_open Tryd.underlying3 e21
  obtain ⟨v22, q22, b22⟩ := str_open Tryd.underlying9 e22
  obtain ⟨v23, q23⟩ := boolM_open Tryd.underlying4 e23
  obtain ⟨v24, q24, b24⟩ := str_open Tryd.underlying9 e24
  obtain ⟨v25, q25, i25, b25⟩ := intM_open Tryd.underlying3 e25
  obtain ⟨v26, q26, b26⟩ := str_open Tryd.underlying9 e26
  obtain ⟨w27, tl27, g27, _⟩ := cons_of (l := cs.drop 31) (n := 31 - 31) (by rw [List.length_drop, hl])
  have q27 : (cs.drop 31).take 1 = [w27] := by rw [g27]; rfl
  rw [q27] at e27
  obtain ⟨v27, r27, s27, z27, t27, b27⟩ := sl_open (R := fun (a : Ctl) r => r = ctlR a) (m := ctlW) (c := 1) Tryd.underlying49 cellsMCtl (by decide) (fun n' _ cs x hh => ctM_open hh) e27
  rw [rowsM_ct v27 r27 z27 t27] at s27
  refine ⟨⟨v0, v1, v2, v3, v4, v5, v6, v7, v8, v9, v10, v11, v12, v13, v14, v15, v16, v17, v18, v19, v20, v21, v22, v23, v24, v25, v26, v27⟩, pv, kv, w13, w14, w15, w27, ?_, ⟨?_, s13, ⟨_, s14, lc_of z14 t14⟩, ⟨_, s15, lc_of z15 fun i b hb => by obtain ⟨r, h1, h2, _⟩ := t15 i b hb; exact ⟨r, h1, h2⟩⟩, s27⟩, ⟨i0, i3, i7, i8, i9, i10, i21, i25, fun a ha => ?_⟩, ?_⟩
  . have d12 : cs.drop 12 = [.int .i64 v12.kind, str v12.attr, str v12.value, pv, kv] ++ cs.drop 17 := by
      have := List.take_append_drop 5 (cs.drop 12)
      rw [q12, List.drop_drop] at this
      exact this.symm
    have d32 : cs.drop 32 = [] := List.drop_eq_nil_of_le (by omega)
    rw [show cs = cs.drop 0 from rfl]
    rw [dr1 q0]
    rw [dr1 q1]
    rw [dr1 q2]
    rw [dr1 q3]
    rw [dr1 q4]
    rw [dr1 q5]
    rw [dr1 q6]
    rw [dr1 q7]
    rw [dr1 q8]
    rw [dr1 q9]
    rw [dr1 q10]
    rw [dr1 q11]
    rw [d12]
    rw [dr1 q13]
    rw [dr1 q14]
    rw [dr1 q15]
    rw [dr1 q16]
    rw [dr1 q17]
    rw [dr1 q18]
    rw [dr1 q19]
    rw [dr1 q20]
    rw [dr1 q21]
    rw [dr1 q22]
    rw [dr1 q23]
    rw [dr1 q24]
    rw [dr1 q25]
    rw [dr1 q26]
    rw [dr1 q27]
    rw [d32]
    rfl
  . unfold flR
    rw [<- q12]
    exact f12
  . obtain ⟨i, hi⟩ := List.getElem?_of_mem ha
    obtain ⟨_, _, _, h2⟩ := t15 i a hi
    exact h2
  . rw [hx]
    unfold Ms.wt
    simp only [Rows.uptoBulk]
    unfold atrsW mdsW ctlsW
    clear e0 hl hx
    simp only [Nat.reduceAdd] at *
    omega
end
end Go.Proofs.YtibkffoeioidlaaDoor
