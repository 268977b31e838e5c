/- castellanlaw05.DiskPlays, of rows that came in. -/
import Derived.Test.YtpcfnhjeacahdaaDkN
import Derived.Test.YtpcfnhjeacahdaaFlatN
namespace Go.Proofs.Ytpcfnhjeacahdaa
set_option linter.all false
open Go.RowKit

theorem law_DiskPlays' (n : Int) (sv : Value) (rows : List (List Value)) (hr : ∀ r ∈ rows, FlatC [.int .i64, .int .i64, .int .i64, .str, .int .u64, .int .i64, .int .i64] r) (h : Heap) (sl : HSl h sv 7 rows) :
    Spec Try.prog 8 [.int .i64 n, sv] h [] (fun u _ _ => u = .bool true) := by
  obtain ⟨L, rfl, hL⟩ := act_rows (rows := rows) fun r hm => by
    obtain ⟨d, r1, rfl, _, h1⟩ := (hr r hm).int_inv
    obtain ⟨i, r2, rfl, _, h2⟩ := h1.int_inv
    obtain ⟨n, r3, rfl, hn, h3⟩ := h2.int_inv
    obtain ⟨s, r4, rfl, hs, h4⟩ := h3.str_inv
    obtain ⟨k, r5, rfl, hk, h5⟩ := h4.int_inv
    obtain ⟨t, r6, rfl, _, h6⟩ := h5.int_inv
    obtain ⟨p, r7, rfl, hp, h7⟩ := h6.int_inv
    obtain rfl := h7.nil_inv
    exact ⟨d, i, n, s, k, t, p, rfl, hn, hs, hk, hp⟩
  exact law_DiskPlays n sv L hL h sl
end Go.Proofs.Ytpcfnhjeacahdaa
