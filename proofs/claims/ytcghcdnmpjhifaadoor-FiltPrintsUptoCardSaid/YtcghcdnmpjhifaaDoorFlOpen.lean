/- Filters that came in. -/
import Derived.Test.YtcghcdnmpjhifaaDoorSlOpen
import Derived.Test.YtcghcdnmpjhifaaDoorFlO
namespace Go.Proofs.YtcghcdnmpjhifaaDoor
set_option linter.all false
set_option maxRecDepth 4000
open Go.ChangeShapes Go.WideShapes Go.RowKit

theorem cellsPc : Tryd.prog.cellsOf 54 = 2 := by kernel_rfl
theorem cellsFl : Tryd.prog.cellsOf 25 = 5 := by kernel_rfl
theorem cellsI : Tryd.prog.cellsOf 3 = 1 := by kernel_rfl
theorem cellsS : Tryd.prog.cellsOf 9 = 1 := by kernel_rfl
theorem cellsPs : Tryd.prog.cellsOf 22 = 1 := by kernel_rfl
theorem cellsFs : Tryd.prog.cellsOf 23 = 1 := by kernel_rfl
theorem rows_pcsR : ∀ (l : Pcs) (rows : List (List Value)), l.length = rows.length -> (∀ (i : Nat) b, l[i]? = some b -> ∃ r, rows[i]? = some r /\ r = [.int .i64 b.1, str b.2]) -> rows = pcsR l
  | [], [], _, _ => rfl
  | [], _ :: _, h, _ => by simp at h
  | _ :: _, [], h, _ => by simp at h
  | b :: l, r :: rows, h, hr => by
    obtain ⟨r0, h0, h1⟩ := hr 0 b rfl
    simp only [List.getElem?_cons_zero, Option.some.injEq] at h0
    have ih := rows_pcsR l rows (by simpa using h) (fun i b' hb => by simpa using hr (i + 1) b' (by simpa using hb))
    rw [h0, h1, ih]; rfl
theorem rows_fls {h : Heap} : ∀ (l : List Fl) (rows : List (List Value)), l.length = rows.length -> (∀ (i : Nat) b, l[i]? = some b -> ∃ r, rows[i]? = some r /\ FlC h b r) -> FlsC h l rows
  | [], [], _, _ => FlsC.nil h
  | [], _ :: _, h, _ => by simp at h
  | _ :: _, [], h, _ => by simp at h
  | b :: l, r :: rows, h, hr => by
    obtain ⟨r0, h0, h1⟩ := hr 0 b rfl
    simp only [List.getElem?_cons_zero, Option.some.injEq] at h0
    have ih := rows_fls l rows (by simpa using h) (fun i b' hb => by simpa using hr (i + 1) b' (by simpa using hb))
    simp only [FlsC]
    exact ⟨r, rows, rfl, h0 ▸ h1, ih⟩
theorem pcW_sum : ∀ ps : Pcs, (ps.map fun p => 1 + p.2.length).sum = pcW ps
  | [] => rfl
  | (k, t) :: ps => by simp only [List.map_cons, List.sum_cons, pcW_sum ps, pcW]
theorem flwt_sum : ∀ ks : List Fl, (ks.map Fl.wt).sum = flwt ks
  | [] => by simp [flwt]
  | k :: ks => by simp only [List.map_cons, List.sum_cons, flwt_sum ks, flwt]
section
variable {H : Type} {enc : TypeId × Value -> H} {W : World}
theorem int_open {n t : Nat} {cs : List Value} {x : DataW H × List MemPlace} (hu : Tryd.prog.underlying t = some (.int .i64)) (h : DataW.trod enc Tryd.prog W 0 (fun _ => true) true n t cs = some x) : ∃ s : Int, cs = [.int .i64 s] /\ 1 <= Rows.uptoBulk x.1 := by
  obtain ⟨s, hs, hx, _⟩ := DataW.trod_int hu h
  subst hs
  exact ⟨_, rfl, by rw [hx]; simp only [Rows.uptoBulk]; omega⟩
set_option maxRecDepth 20000 in
theorem pc_open {fuel : Nat} {cs : List Value} {x : DataW H × List MemPlace} (h : DataW.trod enc Tryd.prog W 0 (fun _ => true) true fuel 54 cs = some x) : ∃ a : Int × List UInt8, cs = [.int .i64 a.1, str a.2] /\ 1 + a.2.length <= 1 * Rows.uptoBulk x.1 := by
  obtain ⟨xs, n, hn, hx, hl, hlen, hfl⟩ := DataW.trod_struct Tryd.underlying54 h
  rw [cellsPc] at hl
  match cs, hl, xs, hlen with
  | [c0, c1], _, [y0, y1], _ =>
    have e0 : DataW.trod enc Tryd.prog W 0 (fun _ => true) true n 3 ((List.drop 0 [c0, c1]).take (Tryd.prog.cellsOf 3)) = some y0 := hfl 0 _ rfl
    have e1 : DataW.trod enc Tryd.prog W 0 (fun _ => true) true n 9 ((List.drop 1 [c0, c1]).take (Tryd.prog.cellsOf 9)) = some y1 := hfl 1 _ rfl
    rw [cellsI] at e0
    rw [cellsS] at e1
    obtain ⟨s0, hs0, hb0⟩ := int_open Tryd.underlying3 e0
    obtain ⟨s1, hs1, hb1⟩ := str_open Tryd.underlying9 e1
    simp only [List.drop_zero, List.take_succ_cons, List.take_zero, List.drop_succ_cons, List.cons.injEq, and_true] at hs0 hs1
    subst hs0 hs1
    refine ⟨(s0, s1), rfl, ?_⟩
    rw [hx]; simp only [List.map_cons, List.map_nil, Rows.uptoBulk, Rows.uptoBulkAll]; omega
set_option maxRecDepth 20000 in
theorem pcs_open {fuel : Nat} {v : Value} {x : DataW H × List MemPlace} (h : DataW.trod enc Tryd.prog W 0 (fun _ => true) true fuel 22 [v] = some x) : ∃ ps : Pcs, HSl (heapOf W) v 2 (pcsR ps) /\ pcW ps + 1 <= Rows.uptoBulk x.1 := by
  obtain ⟨l, rows, h1, h2, h3, h4⟩ := sl_open (R := fun (a : Int × List UInt8) r => r = [.int .i64 a.1, str a.2]) (m := fun p => 1 + p.2.length) (c := 1) Tryd.underlying22 cellsPc (by decide) (fun n' _ cs x hh => pc_open hh) h
  rw [rows_pcsR l rows h2 h3] at h1
  rw [pcW_sum] at h4
  exact ⟨l, h1, by omega⟩
set_option maxRecDepth 20000 in
theorem flt_open : ∀ (m fuel : Nat), fuel <= m -> ∀ (cs : List Value) (x : DataW H × List MemPlace), DataW.trod enc Tryd.prog W 0 (fun _ => true) true fuel 25 cs = some x →
    ∃ a : Fl, FlC (heapOf W) a cs /\ a.wt <= Rows.uptoBulk x.1
  | m, 0, _, cs, x, h => by simp [DataW.trod] at h
  | 0, f + 1, hf, _, _, _ => by omega
  | m + 1, fuel + 1, hf, cs, x, h => by
    obtain ⟨xs, n, hn, hx, hl, hlen, hfl⟩ := DataW.trod_struct Tryd.underlying25 h
    rw [cellsFl] at hl
    match cs, hl, xs, hlen with
    | [c0, c1, c2, c3, c4], _, [y0, y1, y2, y3, y4], _ =>
      have e0 : DataW.trod enc Tryd.prog W 0 (fun _ => true) true n 3 ((List.drop 0 [c0, c1, c2, c3, c4]).take (Tryd.prog.cellsOf 3)) = some y0 := hfl 0 _ rfl
      have e1 : DataW.trod enc Tryd.prog W 0 (fun _ => true) true n 9 ((List.drop 1 [c0, c1, c2, c3, c4]).take (Tryd.prog.cellsOf 9)) = some y1 := hfl 1 _ rfl
      have e2 : DataW.trod enc Tryd.prog W 0 (fun _ => true) true n 9 ((List.drop 2 [c0, c1, c2, c3, c4]).take (Tryd.prog.cellsOf 9)) = some y2 := hfl 2 _ rfl
      have e3 : DataW.trod enc Tryd.prog W 0 (fun _ => true) true n 22 ((List.drop 3 [c0, c1, c2, c3, c4]).take (Tryd.prog.cellsOf 22)) = some y3 := hfl 3 _ rfl
      have e4 : DataW.trod enc Tryd.prog W 0 (fun _ => true) true n 23 ((List.drop 4 [c0, c1, c2, c3, c4]).take (Tryd.prog.cellsOf 23)) = some y4 := hfl 4 _ rfl
      rw [cellsI] at e0
      rw [cellsS] at e1 e2
      rw [cellsPs] at e3
      rw [cellsFs] at e4
      obtain ⟨k, hk0, hb0⟩ := int_open Tryd.underlying3 e0
      obtain ⟨s1, hs1, hb1⟩ := str_open Tryd.underlying9 e1
      obtain ⟨s2, hs2, hb2⟩ := str_open Tryd.underlying9 e2
      simp only [List.drop_zero, List.take_succ_cons, List.take_zero, List.drop_succ_cons, List.cons.injEq, and_true] at hk0 hs1 hs2 e3 e4
      subst hk0 hs1 hs2
      obtain ⟨ps, hp1, hp2⟩ := pcs_open e3
      obtain ⟨l, rows, h1, h2, h3, h4⟩ := sl_open (R := fun (a : Fl) r => FlC (heapOf W) a r) (m := Fl.wt) (c := 1) Tryd.underlying23 cellsFl (by decide) (fun n' hn' cs x hh => by
        obtain ⟨a, g1, g2⟩ := flt_open m n' (by omega) cs x hh
        exact ⟨a, g1, by omega⟩) e4
      rw [flwt_sum] at h4
      refine ⟨.mk k s1 s2 ps l, FlC.mk_ hp1 h1 (rows_fls l rows h2 h3), ?_⟩
      rw [hx]; simp only [List.map_cons, List.map_nil, Rows.uptoBulk, Rows.uptoBulkAll, Fl.wt]; omega
end
end Go.Proofs.YtcghcdnmpjhifaaDoor
