/- tlv.parse: the walk. -/
import Derived.Test.YtpcfnhjeacahdaaNd
import Derived.Test.YtpcfnhjeacahdaaTlvA
namespace Go.Proofs.Ytpcfnhjeacahdaa
set_option linter.all false
open Go.RowKit

def kidsM (p : List UInt8 → Nd × List UInt8 × Int) : Nat → List UInt8 → List Nd × Int
  | 0, _ => ([], 0)
  | n + 1, s => if s.length = 0 then ([], 0) else
    if (p s).2.2 ≠ 0 then ([], (p s).2.2) else
    if (kidsM p n (p s).2.1).2 ≠ 0 then ([], (kidsM p n (p s).2.1).2) else ((p s).1 :: (kidsM p n (p s).2.1).1, 0)
/-- What is wrong with the length, or that it goes too far. -/
def lenE (s : List UInt8) : Int := if (bndM s).2.2 = 0 ∧ (s.length : Int) - (bndM s).2.1 < (bndM s).1 then 3 else (bndM s).2.2
def innM (s : List UInt8) : List UInt8 := (s.drop (bndM s).2.1.toNat).take (((bndM s).2.1 + (bndM s).1).toNat - (bndM s).2.1.toNat)
def restM (s : List UInt8) : List UInt8 := s.drop ((bndM s).2.1 + (bndM s).1).toNat
/-- The element at the front, as deep as may be. -/
def parM : Nat → List UInt8 → Nd × List UInt8 × Int
  | 0, _ => (zN, [], 6)
  | f + 1, s =>
    if s.length = 0 then (zN, [], 3) else if ((byteAt s 0 &&& 31 : Nat) : Int) = 31 then (zN, [], 7) else
    if lenE s ≠ 0 then (zN, [], lenE s) else
    if ((byteAt s 0 &&& 32 : Nat) : Int) = 0 then (.mk (byteAt s 0) (innM s) [], restM s, 0) else
    if (kidsM (parM f) (innM s).length (innM s)).2 ≠ 0 then (zN, [], (kidsM (parM f) (innM s).length (innM s)).2) else (.mk (byteAt s 0) [] (kidsM (parM f) (innM s).length (innM s)).1, restM s, 0)
theorem KidsC.mono' {h h' : Heap} {l : List Nd} {rows : List (List Value)} (hk : KidsC h l rows) (hl : Heap.le h h') : KidsC h' l rows := KidsC.mono hl l rows hk
theorem NodeC.shape {h : Heap} : ∀ {n : Nd} {r : List Value}, NodeC h n r → ∃ t d A m c, r = [.int .i64 t, str d, .slice A m c]
  | .mk t d ks, r, hn => by
    obtain ⟨v, rows, rfl, hs, _⟩ := NodeC.open_ hn
    obtain ⟨A, c, rfl, _⟩ := hs.form
    exact ⟨t, d, A, _, c, rfl⟩

structure PSt where
  ks : List Nd
  rows : List (List Value)
  A : Option Addr
  c : Nat
  r : List UInt8
  n : Nat

end Go.Proofs.Ytpcfnhjeacahdaa
