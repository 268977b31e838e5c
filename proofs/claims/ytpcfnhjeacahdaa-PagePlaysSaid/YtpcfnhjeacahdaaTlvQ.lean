/- tlv.Parse, tlv.Whole; the reference's Same, Twin. -/
import Derived.Test.YtpcfnhjeacahdaaTlvP
namespace Go.Proofs.Ytpcfnhjeacahdaa
set_option linter.all false
open Go.RowKit

def par (s : List UInt8) : Nd × List UInt8 × Int := parM 64 s
attribute [irreducible] par

/-- A node lies there. -/
theorem NodeC.box {h : Heap} {n : Nd} {r : List Value} (hn : NodeC h n r) : ∃ t d ks A m c rows, n = .mk t d ks ∧ r = [.int .i64 t, str d, .slice A m c] ∧ HSl h (.slice A m c) 3 rows ∧ KidsC h ks rows := by
  cases n with
  | mk t d ks =>
    obtain ⟨v, rows, rfl, hs, hk⟩ := NodeC.open_ hn
    obtain ⟨A, c, rfl, _⟩ := hs.form
    exact ⟨t, d, ks, A, _, c, rows, rfl, rfl, hs, hk⟩

mutual
def Nd.sz : Nd → Nat
  | .mk _ _ ks => 1 + szs ks
def szs : List Nd → Nat
  | [] => 0
  | k :: ks => Nd.sz k + szs ks
end
theorem sz_mem : ∀ {ks : List Nd} {k : Nd}, k ∈ ks → k.sz ≤ szs ks
  | [], _, h => by cases h
  | q :: ks, k, h => by
    simp only [szs]
    rcases List.mem_cons.1 h with rfl | h
    · omega
    · have := sz_mem h; omega
theorem szs_len : ∀ ks : List Nd, ks.length ≤ szs ks
  | [] => Nat.zero_le _
  | .mk _ _ _ :: ks => by
    have := szs_len ks
    simp only [szs, Nd.sz, List.length_cons]; omega
theorem sz_kid {t : Int} {d : List UInt8} {ks : List Nd} {i : Nat} {k : Nd} (h : ks[i]? = some k) : k.sz < (Nd.mk t d ks).sz := by
  have := sz_mem (List.mem_of_getElem? h)
  simp only [Nd.sz]; omega

end Go.Proofs.Ytpcfnhjeacahdaa
