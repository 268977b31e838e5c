/- Rules, cases of rules and attributes that came in. -/
import Derived.Test.YtieibicgankemaaGreatDnOpen
import Derived.Test.YtieibicgankemaaGreatAcC
import Derived.Test.YtieibicgankemaaGreatAcJ
namespace Go.Proofs.YtieibicgankemaaGreat
set_option linter.all false
set_option maxRecDepth 4000
open Go.ChangeShapes Go.WideShapes Go.RowKit

theorem sum_len {α : Type} {m : α -> Nat} (hm : ∀ a, 1 <= m a) : ∀ l : List α, l.length <= (l.map m).sum
  | [] => by simp
  | a :: l => by have := sum_len hm l; have := hm a; simp only [List.map_cons, List.sum_cons, List.length_cons]; omega
theorem mem_sum {α : Type} {m : α -> Nat} {a : α} : ∀ {l : List α}, a ∈ l -> m a <= (l.map m).sum
  | [], h => by simp at h
  | b :: l, h => by
    simp only [List.map_cons, List.sum_cons]
    rcases List.mem_cons.1 h with rfl | h
    . omega
    . have := mem_sum (m := m) h; omega
theorem cellsRule : Tryz.prog.cellsOf 56 = 6 := by kernel_rfl
theorem cellsCase : Tryz.prog.cellsOf 26 = 6 := by kernel_rfl
theorem cellsAtr : Tryz.prog.cellsOf 45 = 2 := by kernel_rfl
theorem cellsInt : Tryz.prog.cellsOf 3 = 1 := by kernel_rfl
theorem cellsBool : Tryz.prog.cellsOf 4 = 1 := by kernel_rfl
theorem cellsDn : Tryz.prog.cellsOf 23 = 1 := by kernel_rfl
theorem cellsRules : Tryz.prog.cellsOf 24 = 1 := by kernel_rfl
theorem cellsStrs : Tryz.prog.cellsOf 43 = 1 := by kernel_rfl
def rlW (r : Rl) : Nat := 1 + r.dn.length + r.wh.length + r.attr.length
theorem rows_rls : ∀ (l : List Rl) (rows : List (List Value)), l.length = rows.length -> (∀ (i : Nat) b, l[i]? = some b -> ∃ r, rows[i]? = some r /\ r = Rl.vals b) -> rows = rlR l
  | [], [], _, _ => rfl
  | [], _ :: _, h, _ => by simp at h
  | _ :: _, [], h, _ => by simp at h
  | b :: l, r :: rows, h, hr => by
    obtain ⟨r0, h0, h1⟩ := hr 0 b rfl
    simp only [List.getElem?_cons_zero, Option.some.injEq] at h0
    have ih := rows_rls l rows (by simpa using h) (fun i b' hb => by simpa using hr (i + 1) b' (by simpa using hb))
    rw [h0, h1, ih]; rfl
theorem rows_strsB : ∀ (l : List (List UInt8)) (rows : List (List Value)), l.length = rows.length -> (∀ (i : Nat) b, l[i]? = some b -> ∃ r, rows[i]? = some r /\ r = [str b]) -> rows = strsR l
  | [], [], _, _ => rfl
  | [], _ :: _, h, _ => by simp at h
  | _ :: _, [], h, _ => by simp at h
  | b :: l, r :: rows, h, hr => by
    obtain ⟨r0, h0, h1⟩ := hr 0 b rfl
    simp only [List.getElem?_cons_zero, Option.some.injEq] at h0
    have ih := rows_strsB l rows (by simpa using h) (fun i b' hb => by simpa using hr (i + 1) b' (by simpa using hb))
    rw [h0, h1, ih]; rfl
section
variable {H : Type} {enc : TypeId × Value -> H} {W : World}
theorem intB_open {n t : Nat} {cs : List Value} {x : DataW H × List MemPlace} (hu : Tryz.prog.underlying t = some (.int .i64)) (h : DataW.trod enc Tryz.prog W 0 (fun _ => true) true n t cs = some x) : ∃ s : Int, cs = [.int .i64 s] /\ 1 <= Rows.uptoBulk x.1 := by
  obtain ⟨s, hs, hx, _⟩ := DataW.trod_int hu h
  subst hs
  exact ⟨_, rfl, by rw [hx]; simp only [Rows.uptoBulk]; omega⟩
theorem boolB_open {n t : Nat} {cs : List Value} {x : DataW H × List MemPlace} (hu : Tryz.prog.underlying t = some .bool) (h : DataW.trod enc Tryz.prog W 0 (fun _ => true) true n t cs = some x) : ∃ s : Bool, cs = [.bool s] := by
  obtain ⟨s, hs, _⟩ := DataW.trod_bool hu h
  exact ⟨s, hs⟩
theorem strsB_open {fuel : Nat} {v : Value} {x : DataW H × List MemPlace} (h : DataW.trod enc Tryz.prog W 0 (fun _ => true) true fuel 43 [v] = some x) : ∃ L : List (List UInt8), HSl (heapOf W) v 1 (strsR L) /\ (L.map fun s => s.length + 1).sum + 1 <= 1 * Rows.uptoBulk x.1 := by
  obtain ⟨l, rows, h1, h2, h3, h4⟩ := sl_open (R := fun (a : List UInt8) r => r = [str a]) (m := fun s => s.length + 1) (c := 1) Tryz.underlying43 cellsStr (by decide) (fun n' _ cs x hh => by
    obtain ⟨s, hs, hb⟩ := str_open Tryz.underlying9 hh
    exact ⟨s, hs, by omega⟩) h
  rw [rows_strsB l rows h2 h3] at h1
  exact ⟨l, h1, h4⟩
set_option maxRecDepth 20000 in
theorem rule_open {fuel : Nat} {cs : List Value} {x : DataW H × List MemPlace} (h : DataW.trod enc Tryz.prog W 0 (fun _ => true) true fuel 56 cs = some x) : ∃ r : Rl, cs = r.vals /\ rlW r <= 1 * Rows.uptoBulk x.1 := by
  obtain ⟨xs, n, hn, hx, hl, hlen, hfl⟩ := DataW.trod_struct Tryz.underlying56 h
  rw [cellsRule] at hl
  match cs, hl, xs, hlen with
  | [c0, c1, c2, c3, c4, c5], _, [y0, y1, y2, y3, y4, y5], _ =>
    have e0 : DataW.trod enc Tryz.prog W 0 (fun _ => true) true n 3 ((List.drop 0 [c0, c1, c2, c3, c4, c5]).take (Tryz.prog.cellsOf 3)) = some y0 := hfl 0 _ rfl
    have e1 : DataW.trod enc Tryz.prog W 0 (fun _ => true) true n 9 ((List.drop 1 [c0, c1, c2, c3, c4, c5]).take (Tryz.prog.cellsOf 9)) = some y1 := hfl 1 _ rfl
    have e2 : DataW.trod enc Tryz.prog W 0 (fun _ => true) true n 9 ((List.drop 2 [c0, c1, c2, c3, c4, c5]).take (Tryz.prog.cellsOf 9)) = some y2 := hfl 2 _ rfl
    have e3 : DataW.trod enc Tryz.prog W 0 (fun _ => true) true n 9 ((List.drop 3 [c0, c1, c2, c3, c4, c5]).take (Tryz.prog.cellsOf 9)) = some y3 := hfl 3 _ rfl
    have e4 : DataW.trod enc Tryz.prog W 0 (fun _ => true) true n 3 ((List.drop 4 [c0, c1, c2, c3, c4, c5]).take (Tryz.prog.cellsOf 3)) = some y4 := hfl 4 _ rfl
    have e5 : DataW.trod enc Tryz.prog W 0 (fun _ => true) true n 4 ((List.drop 5 [c0, c1, c2, c3, c4, c5]).take (Tryz.prog.cellsOf 4)) = some y5 := hfl 5 _ rfl
    rw [cellsInt] at e0 e4
    rw [cellsStr] at e1 e2 e3
    rw [cellsBool] at e5
    obtain ⟨k0, hs0, hb0⟩ := intB_open Tryz.underlying3 e0
    obtain ⟨s1, hs1, hb1⟩ := str_open Tryz.underlying9 e1
    obtain ⟨s2, hs2, hb2⟩ := str_open Tryz.underlying9 e2
    obtain ⟨s3, hs3, hb3⟩ := str_open Tryz.underlying9 e3
    obtain ⟨k4, hs4, hb4⟩ := intB_open Tryz.underlying3 e4
    obtain ⟨b5, hs5⟩ := boolB_open Tryz.underlying4 e5
    simp only [List.drop_zero, List.take_succ_cons, List.take_zero, List.drop_succ_cons, List.cons.injEq, and_true] at hs0 hs1 hs2 hs3 hs4 hs5
    subst hs0 hs1 hs2 hs3 hs4 hs5
    refine ⟨⟨k0, s1, s2, s3, k4, b5⟩, rfl, ?_⟩
    rw [hx]; simp only [List.map_cons, List.map_nil, Rows.uptoBulk, Rows.uptoBulkAll, rlW]; omega
set_option maxRecDepth 20000 in
theorem case_open {fuel : Nat} {cs : List Value} {x : DataW H × List MemPlace} (h : DataW.trod enc Tryz.prog W 0 (fun _ => true) true fuel 26 cs = some x) : ∃ (a b c : Dn) (rs : List Rl) (attr : List UInt8) (right : Int) (v1 v2 v3 vR : Value),
    cs = [v1, v2, v3, vR, str attr, .int .i64 right] /\ DnC (heapOf W) a v1 /\ DnC (heapOf W) b v2 /\ DnC (heapOf W) c v3 /\ HSl (heapOf W) vR 6 (rlR rs) /\ dnW a + dnW b + dnW c + attr.length + (rs.map rlW).sum <= 3 * Rows.uptoBulk x.1 := by
  obtain ⟨xs, n, hn, hx, hl, hlen, hfl⟩ := DataW.trod_struct Tryz.underlying26 h
  rw [cellsCase] at hl
  match cs, hl, xs, hlen with
  | [c0, c1, c2, c3, c4, c5], _, [y0, y1, y2, y3, y4, y5], _ =>
    have e0 : DataW.trod enc Tryz.prog W 0 (fun _ => true) true n 23 ((List.drop 0 [c0, c1, c2, c3, c4, c5]).take (Tryz.prog.cellsOf 23)) = some y0 := hfl 0 _ rfl
    have e1 : DataW.trod enc Tryz.prog W 0 (fun _ => true) true n 23 ((List.drop 1 [c0, c1, c2, c3, c4, c5]).take (Tryz.prog.cellsOf 23)) = some y1 := hfl 1 _ rfl
    have e2 : DataW.trod enc Tryz.prog W 0 (fun _ => true) true n 23 ((List.drop 2 [c0, c1, c2, c3, c4, c5]).take (Tryz.prog.cellsOf 23)) = some y2 := hfl 2 _ rfl
    have e3 : DataW.trod enc Tryz.prog W 0 (fun _ => true) true n 24 ((List.drop 3 [c0, c1, c2, c3, c4, c5]).take (Tryz.prog.cellsOf 24)) = some y3 := hfl 3 _ rfl
    have e4 : DataW.trod enc Tryz.prog W 0 (fun _ => true) true n 9 ((List.drop 4 [c0, c1, c2, c3, c4, c5]).take (Tryz.prog.cellsOf 9)) = some y4 := hfl 4 _ rfl
    have e5 : DataW.trod enc Tryz.prog W 0 (fun _ => true) true n 3 ((List.drop 5 [c0, c1, c2, c3, c4, c5]).take (Tryz.prog.cellsOf 3)) = some y5 := hfl 5 _ rfl
    rw [cellsDn] at e0 e1 e2
    rw [cellsRules] at e3
    rw [cellsStr] at e4
    rw [cellsInt] at e5
    simp only [List.drop_zero, List.take_succ_cons, List.take_zero, List.drop_succ_cons] at e0 e1 e2 e3
    obtain ⟨s4, hs4, hb4⟩ := str_open Tryz.underlying9 e4
    obtain ⟨k5, hs5, hb5⟩ := intB_open Tryz.underlying3 e5
    obtain ⟨da, ha, hba⟩ := dn_open e0
    obtain ⟨db, hb, hbb⟩ := dn_open e1
    obtain ⟨dc, hc, hbc⟩ := dn_open e2
    obtain ⟨l, rows, h1, h2, h3, h4⟩ := sl_open (R := fun (a : Rl) r => r = Rl.vals a) (m := rlW) (c := 1) Tryz.underlying24 cellsRule (by decide) (fun n' _ cs x hh => rule_open hh) e3
    rw [rows_rls l rows h2 h3] at h1
    simp only [List.drop_zero, List.take_succ_cons, List.take_zero, List.drop_succ_cons, List.cons.injEq, and_true] at hs4 hs5
    subst hs4 hs5
    refine ⟨da, db, dc, l, s4, k5, c0, c1, c2, c3, rfl, ha, hb, hc, h1, ?_⟩
    rw [hx]; simp only [List.map_cons, List.map_nil, Rows.uptoBulk, Rows.uptoBulkAll]; omega
theorem rlB_of {rs : List Rl} (h : (rs.map rlW).sum <= 3145728) : RlB rs := by
  have h1 := sum_len (m := rlW) (fun r => by unfold rlW; omega) rs
  refine ⟨by omega, fun r hr => ?_⟩
  have h2 := mem_sum (m := rlW) hr
  unfold rlW at h2 h
  omega
def atrW (a : Atr) : Nat := 1 + a.1.length + (a.2.map fun s => s.length + 1).sum
set_option maxRecDepth 20000 in
theorem atr_open {fuel : Nat} {cs : List Value} {x : DataW H × List MemPlace} (h : DataW.trod enc Tryz.prog W 0 (fun _ => true) true fuel 45 cs = some x) : ∃ a : Atr, AtrC (heapOf W) a cs /\ atrW a <= 1 * Rows.uptoBulk x.1 := by
  obtain ⟨xs, n, hn, hx, hl, hlen, hfl⟩ := DataW.trod_struct Tryz.underlying45 h
  rw [cellsAtr] at hl
  match cs, hl, xs, hlen with
  | [c0, c1], _, [y0, y1], _ =>
    have e0 : DataW.trod enc Tryz.prog W 0 (fun _ => true) true n 9 ((List.drop 0 [c0, c1]).take (Tryz.prog.cellsOf 9)) = some y0 := hfl 0 _ rfl
    have e1 : DataW.trod enc Tryz.prog W 0 (fun _ => true) true n 43 ((List.drop 1 [c0, c1]).take (Tryz.prog.cellsOf 43)) = some y1 := hfl 1 _ rfl
    rw [cellsStr] at e0
    rw [cellsStrs] at e1
    simp only [List.drop_zero, List.take_succ_cons, List.take_zero, List.drop_succ_cons] at e1
    obtain ⟨s0, hs0, hb0⟩ := str_open Tryz.underlying9 e0
    obtain ⟨L, h1, h2⟩ := strsB_open e1
    simp only [List.drop_zero, List.take_succ_cons, List.take_zero, List.drop_succ_cons, List.cons.injEq, and_true] at hs0
    subst hs0
    refine ⟨(s0, L), ⟨c1, rfl, h1⟩, ?_⟩
    rw [hx]; simp only [List.map_cons, List.map_nil, Rows.uptoBulk, Rows.uptoBulkAll, atrW]; omega
theorem atrs_open {fuel : Nat} {v : Value} {x : DataW H × List MemPlace} (h : DataW.trod enc Tryz.prog W 0 (fun _ => true) true fuel 27 [v] = some x) : ∃ l : List Atr, AtrsC (heapOf W) l v /\ (l.map atrW).sum + 1 <= 1 * Rows.uptoBulk x.1 := by
  obtain ⟨l, rows, h1, h2, h3, h4⟩ := sl_open (R := fun (a : Atr) r => AtrC (heapOf W) a r) (m := atrW) (c := 1) Tryz.underlying27 cellsAtr (by decide) (fun n' _ cs x hh => atr_open hh) h
  exact ⟨l, ⟨rows, h1, LC.of l rows h2 h3⟩, h4⟩
theorem atrB_of {l : List Atr} (h : (l.map atrW).sum <= 3145728) : AtrB l := by
  have h1 := sum_len (m := atrW) (fun r => by unfold atrW; omega) l
  refine ⟨by omega, fun a ha => ?_⟩
  have h2 := mem_sum (m := atrW) ha
  have h3 := sum_len (m := fun s : List UInt8 => s.length + 1) (fun s => by omega) a.2
  unfold atrW at h2 h
  omega
end
end Go.Proofs.YtieibicgankemaaGreat
