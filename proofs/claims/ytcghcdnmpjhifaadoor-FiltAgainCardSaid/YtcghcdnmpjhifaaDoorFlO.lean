/- Filters: castellanref10.check, Check; how much a filter holds. -/
import Derived.Test.YtcghcdnmpjhifaaDoorFlK
namespace Go.Proofs.YtcghcdnmpjhifaaDoor
set_option linter.all false
open Go.RowKit

def pcW : Pcs → Nat
  | [] => 0
  | (_, t) :: ps => 1 + t.length + pcW ps
mutual
/-- How much a filter holds. -/
def Fl.wt : Fl → Nat
  | .mk _ a v ps ks => 1 + a.length + v.length + pcW ps + flwt ks
def flwt : List Fl → Nat
  | [] => 0
  | k :: ks => Fl.wt k + flwt ks
end
theorem flwt_mem : ∀ {ks : List Fl} {k : Fl}, k ∈ ks → k.wt ≤ flwt ks
  | [], _, h => by cases h
  | q :: ks, k, h => by
    simp only [flwt]
    rcases List.mem_cons.1 h with rfl | h
    · omega
    · have := flwt_mem h; omega
theorem flwt_len : ∀ ks : List Fl, ks.length ≤ flwt ks
  | [] => Nat.zero_le _
  | .mk _ _ _ _ _ :: ks => by
    have := flwt_len ks
    simp only [flwt, Fl.wt, List.length_cons]; omega
theorem flwt_kid {k : Int} {a v : List UInt8} {ps : Pcs} {ks : List Fl} {i : Nat} {f : Fl} (h : ks[i]? = some f) : f.wt < (Fl.mk k a v ps ks).wt := by
  have := flwt_mem (List.mem_of_getElem? h)
  simp only [Fl.wt]; omega
theorem pcW_len : ∀ ps : Pcs, ps.length ≤ pcW ps
  | [] => Nat.zero_le _
  | (k, t) :: ps => by have := pcW_len ps; simp only [pcW, List.length_cons]; omega
theorem pcW_get {ps : Pcs} {i : Nat} {k : Int} {t : List UInt8} (h : ps[i]? = some (k, t)) : t.length + 1 ≤ pcW ps := by
  induction ps generalizing i with
  | nil => simp at h
  | cons p ps ih =>
    obtain ⟨pk, pt⟩ := p
    cases i with
    | zero => simp at h; obtain ⟨rfl, rfl⟩ := h; simp only [pcW]; omega
    | succ i => have := ih (i := i) (by simpa using h); simp only [pcW]; omega
end Go.Proofs.YtcghcdnmpjhifaaDoor
