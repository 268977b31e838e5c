/- Names that came in. -/
import Derived.Test.YtahpemfnhepgoaaSlOpen
import Derived.Test.YtahpemfnhepgoaaDnH
namespace Go.Proofs.Ytahpemfnhepgoaa
set_option linter.all false
set_option maxRecDepth 4000
open Go.ChangeShapes Go.WideShapes Go.RowKit

theorem cellsAva : Try.prog.cellsOf 51 = 2 := by kernel_rfl
theorem cellsRdn : Try.prog.cellsOf 45 = 1 := by kernel_rfl
theorem cellsStr : Try.prog.cellsOf 9 = 1 := by kernel_rfl
theorem rows_avaR : ∀ (l : Rdn) (rows : List (List Value)), l.length = rows.length -> (∀ (i : Nat) b, l[i]? = some b -> ∃ r, rows[i]? = some r /\ r = [str b.1, str b.2]) -> rows = avaR l
  | [], [], _, _ => rfl
  | [], _ :: _, h, _ => by simp at h
  | _ :: _, [], h, _ => by simp at h
  | b :: l, r :: rows, h, hr => by
    obtain ⟨r0, h0, h1⟩ := hr 0 b rfl
    simp only [List.getElem?_cons_zero, Option.some.injEq] at h0
    have ih := rows_avaR l rows (by simpa using h) (fun i b' hb => by simpa using hr (i + 1) b' (by simpa using hb))
    rw [h0, h1, ih]; rfl
theorem rows_rdns {h : Heap} : ∀ (l : Dn) (rows : List (List Value)), l.length = rows.length -> (∀ (i : Nat) b, l[i]? = some b -> ∃ r, rows[i]? = some r /\ ∃ v, r = [v] /\ HSl h v 2 (avaR b)) -> RdnsC h l rows
  | [], [], _, _ => rfl
  | [], _ :: _, h, _ => by simp at h
  | _ :: _, [], h, _ => by simp at h
  | b :: l, r :: rows, h, hr => by
    obtain ⟨r0, h0, v, h1, h2⟩ := hr 0 b rfl
    simp only [List.getElem?_cons_zero, Option.some.injEq] at h0
    have ih := rows_rdns l rows (by simpa using h) (fun i b' hb => by simpa using hr (i + 1) b' (by simpa using hb))
    exact ⟨v, rows, by rw [h0, h1], h2, ih⟩
section
variable {H : Type} {enc : TypeId × Value -> H} {W : World}
set_option maxRecDepth 20000 in
theorem ava_open {fuel : Nat} {cs : List Value} {x : DataW H × List MemPlace} (h : DataW.trod enc Try.prog W 0 (fun _ => true) true fuel 51 cs = some x) : ∃ a : List UInt8 × List UInt8, cs = [str a.1, str a.2] /\ avaW a <= 3 * Rows.uptoBulk x.1 := by
  obtain ⟨xs, n, hn, hx, hl, hlen, hfl⟩ := DataW.trod_struct Try.underlying51 h
  rw [cellsAva] at hl
  match cs, hl, xs, hlen with
  | [c0, c1], _, [y0, y1], _ =>
    have e0 : DataW.trod enc Try.prog W 0 (fun _ => true) true n 9 ((List.drop 0 [c0, c1]).take (Try.prog.cellsOf 9)) = some y0 := hfl 0 _ rfl
    have e1 : DataW.trod enc Try.prog W 0 (fun _ => true) true n 9 ((List.drop 1 [c0, c1]).take (Try.prog.cellsOf 9)) = some y1 := hfl 1 _ rfl
    rw [cellsStr] at e0 e1
    obtain ⟨s0, hs0, hb0⟩ := str_open Try.underlying9 e0
    obtain ⟨s1, hs1, hb1⟩ := str_open Try.underlying9 e1
    simp only [List.drop_zero, List.take_succ_cons, List.take_zero, List.drop_succ_cons, List.cons.injEq, and_true] at hs0 hs1
    subst hs0 hs1
    refine ⟨(s0, s1), rfl, ?_⟩
    rw [hx]; simp only [List.map_cons, List.map_nil, Rows.uptoBulk, Rows.uptoBulkAll, avaW]; omega
set_option maxRecDepth 20000 in
theorem rdn_open {fuel : Nat} {v : Value} {x : DataW H × List MemPlace} (h : DataW.trod enc Try.prog W 0 (fun _ => true) true fuel 45 [v] = some x) : ∃ r : Rdn, HSl (heapOf W) v 2 (avaR r) /\ rdnW r + 1 <= 3 * Rows.uptoBulk x.1 := by
  obtain ⟨l, rows, h1, h2, h3, h4⟩ := sl_open (R := fun a r => r = [str a.1, str a.2]) (m := avaW) (c := 3) Try.underlying45 cellsAva (by decide) (fun n' _ cs x hh => ava_open hh) h
  rw [rows_avaR l rows h2 h3] at h1
  exact ⟨l, h1, h4⟩
set_option maxRecDepth 20000 in
theorem dn_open {fuel : Nat} {v : Value} {x : DataW H × List MemPlace} (h : DataW.trod enc Try.prog W 0 (fun _ => true) true fuel 23 [v] = some x) : ∃ d : Dn, DnC (heapOf W) d v /\ dnW d + 1 <= 3 * Rows.uptoBulk x.1 := by
  obtain ⟨l, rows, h1, h2, h3, h4⟩ := sl_open (R := fun (b : Rdn) r => ∃ v, r = [v] /\ HSl (heapOf W) v 2 (avaR b)) (m := fun r => rdnW r + 1) (c := 3) Try.underlying23 cellsRdn (by decide) (fun n' _ cs x hh => by
    have hcl : ∃ v, cs = [v] := by
      rcases DataW.trod_slice Try.underlying45 hh with ⟨hc, _⟩ | ⟨a, len, cap, elems, rest, n', _, hc, _⟩
      . exact ⟨_, hc⟩
      . exact ⟨_, hc⟩
    obtain ⟨v, rfl⟩ := hcl
    obtain ⟨r, g1, g2⟩ := rdn_open hh
    exact ⟨r, ⟨v, rfl, g1⟩, g2⟩) h
  exact ⟨l, ⟨rows, h1, rows_rdns l rows h2 h3⟩, h4⟩
end
end Go.Proofs.Ytahpemfnhepgoaa
