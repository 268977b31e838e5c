/- Filters: castellanref10.Same, of two that are the same. -/
import Derived.Test.YtcghcdnmpjhifaaDoorFlR
import Derived.Test.YtcghcdnmpjhifaaDoorLtP
import Derived.KernelRfl
namespace Go.Proofs.YtcghcdnmpjhifaaDoor
set_option linter.all false
open Go.RowKit

theorem pcsR_get {ps : Pcs} {i : Nat} {k : Int} {t : List UInt8} (h : ps[i]? = some (k, t)) : (pcsR ps)[i]? = some [.int .i64 k, str t] := by
  unfold pcsR
  rw [List.getElem?_map, h]; rfl
mutual
def Fl.sz : Fl → Nat
  | .mk _ _ _ _ ks => 1 + flsz ks
def flsz : List Fl → Nat
  | [] => 0
  | k :: ks => Fl.sz k + flsz ks
end
/-- A filter lies there. -/
theorem FlC.box {h : Heap} {f : Fl} {r : List Value} (hn : FlC h f r) : ∃ k a v ps ks A c B d rows, f = .mk k a v ps ks ∧ r = [.int .i64 k, str a, str v, .slice A ps.length c, .slice B ks.length d] ∧ HSl h (.slice A ps.length c) 2 (pcsR ps) ∧ HSl h (.slice B ks.length d) 5 rows ∧ FlsC h ks rows ∧ rows.length = ks.length := by
  cases f with
  | mk k a v ps ks =>
    obtain ⟨pv, kv, rows, rfl, h1, h2, h3⟩ := hn.open_
    obtain ⟨A, c, rfl, _⟩ := h1.form
    obtain ⟨B, d, rfl, _⟩ := h2.form
    rw [pcsR_length] at h1
    rw [h3.len] at h2
    refine ⟨k, a, v, ps, ks, A, c, B, d, rows, rfl, ?_, h1, h2, h3, h3.len⟩
    rw [pcsR_length, h3.len]
end Go.Proofs.YtcghcdnmpjhifaaDoor
