/- Walks of package octet: Get and Put, and of the reference's. -/
import Derived.Test.YtmbpjgjajedonaaDoorLtM import Derived.Test.YtmbpjgjajedonaaDoorTy
namespace Go.Proofs.YtmbpjgjajedonaaDoor
set_option linter.all false
set_option maxRecDepth 4000
open Go.RowKit

def beN (l : List UInt8) : Nat := l.foldl (fun n c => n * 256 + c.toNat) 0
def getOk (l : List UInt8) (a n : Int) : Bool := decide (1 <= n /\ n <= 8 /\ 0 <= a /\ a + n <= l.length)
def getV (l : List UInt8) (a n : Int) : Nat := if getOk l a n then beN ((l.drop a.toNat).take n.toNat) else 0
theorem beN_snoc (l : List UInt8) (c : UInt8) : beN (l ++ [c]) = beN l * 256 + c.toNat := by simp [beN]
theorem beN_lt (l : List UInt8) : beN l < 256 ^ l.length := by
  have : ∀ (l : List UInt8) (n : Nat), l.foldl (fun n c => n * 256 + c.toNat) n < (n + 1) * 256 ^ l.length := by
    intro l
    induction l with
    | nil => intro n; simp
    | cons c l ih =>
      intro n
      have h1 := ih (n * 256 + c.toNat)
      have h2 := c.toNat_lt
      simp only [List.foldl_cons, List.length_cons, Nat.pow_succ]
      refine Nat.lt_of_lt_of_le h1 ?_
      rw [Nat.mul_comm (256 ^ l.length) 256, ← Nat.mul_assoc]
      exact Nat.mul_le_mul_right _ (by omega)
  simpa [beN] using this l 0

theorem or_byte (a c : Nat) (hc : c < 256) : (a * 256) ||| c = a * 256 + c := by
  rw [show a * 256 = a <<< 8 by rw [Nat.shiftLeft_eq], ← Nat.shiftLeft_add_eq_or_of_lt (by omega)]
theorem take_succ_byte (x : List UInt8) (i : Nat) (hi : i < x.length) : beN (x.take (i + 1)) = beN (x.take i) * 256 + byteAt x i := by
  rw [List.take_succ_eq_append_getElem hi, beN_snoc]; simp [byteAt, hi]

set_option maxHeartbeats 1000000 in
theorem octet_Get (l : List UInt8) (a n : Int) (hl : l.length <= 9223372036854775807) (ha : -4611686018427387904 <= a /\ a <= 4611686018427387904) (hn : -9223372036854775808 <= n /\ n <= 9223372036854775807) (h : Heap) :
    Spec Tryd.prog 35 [str l, .int .i64 a, .int .i64 n] h [] (fun v _ H' => H' = [] /\ v = .tuple #[.int .u64 (getV l a n), .bool (getOk l a n)]) := by
  refine Spec.enter Tryd.func35 rfl rfl ?_; intro w0
  repeat' (first | (refine G.atCode ?_; first | refine G.seq ?_ | refine G.region ?_ | refine G.block ?_ | refine G.skip ?_ | refine G.ret ?_ | (refine G.cond rfl ?_ ?_ <;> intro hc <;> (try simp only [tests, reduceCtorEq] at hc) <;> (try exact Zf))) | refine G.endOps ?_ | (refine G.atGd ?_; first | refine G.guardYes rfl rfl ?_ | refine G.guardNoS rfl rfl rfl ?_ | (refine G.guardS rfl rfl rfl ?_ ?_ <;> intro hc <;> (try simp only [tests, reduceCtorEq] at hc) <;> (try exact Zf))) | (refine G.atBin ?_; first | (refine G.atAdd ?_; first | refine G.arith rfl rfl rfl rfl rfl Zi ?_) | (refine G.atSub ?_; first | refine G.arith rfl rfl rfl rfl rfl Zi ?_) | refine G.op rfl rfl ?_) | refine G.op rfl rfl ?_ | (refine G.atLen ?_; first | refine G.lenStr rfl (tyy rfl) rfl ?_ | refine G.lenRowB rfl (tyy rfl) Za rfl ?_) | (refine G.atConv ?_; first | (refine G.convBytes rfl (tyy rfl) (tyy rfl) (tyy rfl) rfl Zo ?_; intro _)) | (refine G.atSlc ?_; first | refine G.sliceStr rfl rfl rfl (tyy rfl) rfl Zj Zj Zo rfl ?_))
  case refine_1.refine_1.refine_1.refine_2 =>
    rename_i v
    have hv : getV l a n = beN ((l.drop a.toNat).take n.toNat) := by unfold getV getOk; rw [if_pos]; simp; omega
    have hok : getOk l a n = true := by unfold getOk; simp; omega
    rw [show (a + n).toNat - a.toNat = n.toNat by omega]
    generalize hx : (l.drop a.toNat).take n.toNat = x
    have hxl : x.length <= 8 := by rw [<- hx]; simp; omega
    rw [hx] at hv
    have Hv := Lib.hid (And.intro hv hok)
    clear hv hok hx
    refine G.loop (σ := Nat) (fun i => [(37, .int .i64 i), (8, .int .u64 (beN (x.take i))), (36, .int .i64 x.length), (35, v)]) (fun _ => [.row v 5 1 (bytesR x)]) (fun i _ => i <= x.length) (fun i => x.length - i) 0
      ⟨rfl, rfl, rfl, rfl, trivial⟩ Zu (Nat.zero_le _) ?_
    intro i h1 hle hi
    have hb := beN_lt (x.take i)
    have hbi : i < x.length -> beN (x.take i) < 72057594037927936 := fun hlt => by
      refine Nat.lt_of_lt_of_le hb (Nat.le_trans (Nat.pow_le_pow_right (by decide) (show (x.take i).length <= 7 by simp; omega)) (by decide))
    repeat' (first | (refine G.atCode ?_; first | refine G.seq ?_ | refine G.region ?_ | refine G.block ?_ | refine G.skip ?_ | refine G.exit rfl ?_ | refine G.ret ?_ | (refine G.cond rfl ?_ ?_ <;> intro hc <;> (try simp only [tests, reduceCtorEq] at hc) <;> (try exact Zf))) | refine G.endOps ?_ | refine G.endBlk ?_ | (refine G.atBin ?_; first | (refine G.atAdd ?_; first | refine G.arith rfl rfl rfl rfl rfl Zi ?_) | (refine G.atShl ?_; refine G.shl rfl rfl Zj rfl (by simp only [IntKind.bits]; omega) rfl Zi ?_) | refine G.op rfl rfl ?_ | refine G.bit rfl rfl rfl Zj Zj rfl rfl (by simp only [lim]; omega) (by simp only [lim]; omega) ?_) | refine G.op rfl rfl ?_ | (refine G.atLoad ?_; first | (refine G.loadRowB rfl (tyy rfl) Zp Za Zo rfl ?_; intro _)) | (refine G.atIdx ?_; first | (refine G.idxRow' rfl rfl (tyy rfl) (tyy rfl) Za Zj rfl Zo ?_; intro _ _)) | (refine G.atConv ?_; first | refine G.conv rfl (tyy rfl) (tyy rfl) rfl Zi ?_))
    . have hc : i < x.length := by omega
      refine G.again (i + 1) ⟨sint (by omega), sint ?_, rfl, rfl, trivial⟩ Zu hc (Heap.le_refl _) (by omega)
      have e1 : (((beN (x.take i) : Nat) : Int) * 2 ^ 8).toNat = beN (x.take i) * 256 := by omega
      rw [take_succ_byte x i hc, e1, or_byte _ _ (byteAt_lt _ _)]
    . have hi' : x.take i = x := List.take_of_length_le (by omega)
      refine G.done2 rfl rfl rfl [] (SubH.nil _) ⟨rfl, ?_⟩
      rw [Hv.out.1, Hv.out.2, hi']
  all_goals
    have hok : getOk l a n = false := by unfold getOk; simp; omega
    refine G.done2 rfl rfl rfl [] (SubH.nil _) ⟨rfl, ?_⟩
    rw [hok, show getV l a n = 0 by unfold getV; rw [hok]; rfl]
    rfl
end Go.Proofs.YtmbpjgjajedonaaDoor
