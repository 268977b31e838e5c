/- Walks of package tlv that need no nodes. -/
import Derived.Test.YtmbpjgjajedonaaDoorOctet
namespace Go.Proofs.YtmbpjgjajedonaaDoor
set_option linter.all false
set_option maxRecDepth 4000
open Go.RowKit

theorem callGet7 : Callable Tryd.prog 35 := ⟨_, Tryd.func35, by kernel_rfl, rfl⟩
theorem callPut7 : Callable Tryd.prog 30 := ⟨_, Tryd.func30, by kernel_rfl, rfl⟩
def putB (n : Nat) : Nat -> List UInt8
  | 0 => []
  | k + 1 => UInt8.ofNat (n / 256 ^ k) :: putB n k
theorem putB_length (n k : Nat) : (putB n k).length = k := by
  induction k with
  | zero => rfl
  | succ k ih => simp [putB, ih]
theorem bytesR_set (l : List UInt8) (i : Nat) (b : UInt8) : (bytesR l).set i [.int .u8 b.toNat] = bytesR (l.set i b) := by
  simp [bytesR, List.map_set]
theorem putB_set (n s i : Nat) (h : i < s) : (List.replicate (s - i) (0 : UInt8) ++ putB n i).set (s - 1 - i) (UInt8.ofNat (n / 256 ^ i)) = List.replicate (s - (i + 1)) 0 ++ putB n (i + 1) := by
  have e : s - i = (s - 1 - i) + 1 := by omega
  rw [e, List.replicate_succ', List.append_assoc, List.set_append_right _ _ (by simp)]
  simp only [List.length_replicate, Nat.sub_self, List.singleton_append, List.set_cons_zero, putB]
  rw [show s - 1 - i = s - (i + 1) by omega]

set_option maxRecDepth 8000 in
set_option maxHeartbeats 1000000 in
theorem octet_Put (n : Nat) (hn : n < 18446744073709551616) (s : Int) (hs : 1 <= s /\ s <= 8) (h : Heap) :
    Spec Tryd.prog 30 [.int .u64 n, .int .i64 s] h [] (fun v _ H' => H' = [] /\ v = str (putB n s.toNat)) := by
  obtain ⟨m, rfl⟩ := Int.eq_ofNat_of_zero_le (show 0 <= s by omega)
  refine Spec.enter Tryd.func30 rfl rfl ?_; intro w0
  repeat' (first | (refine G.makeSlice rfl rfl (tyy rfl) (tyy rfl) Zj rfl rfl Zo rfl ?_; intro _) | (refine G.atCode ?_; first | refine G.seq ?_ | refine G.region ?_ | refine G.block ?_ | refine G.skip ?_ | (refine G.cond rfl ?_ ?_ <;> intro hc <;> (try simp only [tests, reduceCtorEq] at hc) <;> (try exact Zf))) | refine G.endOps ?_ | (refine G.atGd ?_; first | refine G.guardYes rfl rfl ?_ | (refine G.guardS rfl rfl rfl ?_ ?_ <;> intro hc <;> (try simp only [tests, reduceCtorEq] at hc) <;> (try exact Zf))) | (refine G.atBin ?_; first | refine G.op rfl rfl ?_) | refine G.op rfl rfl ?_ | (refine G.atLen ?_; first | refine G.lenRow rfl (tyy rfl) Za rfl ?_))
  rename_i v
  refine G.loop (σ := Nat) (fun i => [(17, .int .i64 i), (16, .int .i64 m), (15, v), (5, v), (1, .int .i64 m), (0, .int .u64 (n / 256 ^ i : Nat))]) (fun i => [.row v 5 1 (bytesR (List.replicate (m - i) 0 ++ putB n i))]) (fun i _ => i <= m) (fun i => m - i) 0
    ⟨rfl, sint (by simp), rfl, rfl, rfl, sint (by simp), trivial⟩ (by simp only [putB, List.append_nil, Nat.sub_zero]; simp only [bytesR, List.map_replicate]; exact SubH.rfl_ _) (Nat.zero_le _) ?_
  intro i h1 hle hi
  have hlen : (bytesR (List.replicate (m - i) 0 ++ putB n i)).length = m := by simp [putB_length]; omega
  have hq : n / 256 ^ i < 18446744073709551616 := Nat.lt_of_le_of_lt (Nat.div_le_self _ _) hn
  generalize hnn : n / 256 ^ i = q at *
  repeat' (first | refine G.storeRow rfl rfl (tyy rfl) Zp Za rfl rfl rfl Zo ?_ | (refine G.atCode ?_; first | refine G.seq ?_ | refine G.region ?_ | refine G.block ?_ | refine G.skip ?_ | refine G.exit rfl ?_ | refine G.ret ?_ | (refine G.cond rfl ?_ ?_ <;> intro hc <;> (try simp only [tests, reduceCtorEq] at hc) <;> (try exact Zf))) | refine G.endOps ?_ | refine G.endBlk ?_ | (refine G.atBin ?_; first | (refine G.atAdd ?_; first | refine G.arith rfl rfl rfl rfl rfl Zi ?_) | (refine G.atSub ?_; first | refine G.arith rfl rfl rfl rfl rfl Zi ?_) | (refine G.atShr ?_; refine G.shr rfl rfl Zj rfl (by simp only [IntKind.bits]; omega) rfl ?_) | refine G.op rfl rfl ?_) | refine G.op rfl rfl ?_ | (refine G.atIdx ?_; first | (refine G.idxRow' rfl rfl (tyy rfl) (tyy rfl) Za Zj rfl Zo ?_; intro _ _)) | (refine G.atConv ?_; first | refine G.convStr rfl (tyy rfl) (tyy rfl) (tyy rfl) Za rfl ?_ | (refine G.convW rfl (tyy rfl) (tyy rfl) rfl ?_; intro hcw; (try simp only [inR] at hcw))))
  . have hlt : i < m := by omega
    have hw : IntKind.u8.wrap (q : Int) = ((UInt8.ofNat q).toNat : Int) := by
      rw [UInt8.toNat_ofNat']
      simp only [IntKind.wrap, IntKind.bits, IntKind.signed]
      simp
    have hset : (bytesR (List.replicate (m - i) 0 ++ putB n i)).set ((m : Int) - 1 - i).toNat [.int .u8 (IntKind.u8.wrap (q : Int))] = bytesR (List.replicate (m - (i + 1)) 0 ++ putB n (i + 1)) := by
      rw [show ((m : Int) - 1 - i).toNat = m - 1 - i by omega, hw, bytesR_set, ← hnn, putB_set n m i hlt]
    refine G.again (i + 1) ⟨sint (by omega), rfl, rfl, rfl, rfl, sint ?_, trivial⟩ ?_ (by omega) (Heap.le_refl _) (by omega)
    . rw [Nat.pow_succ, ← Nat.div_div_eq_div_mul, hnn]; omega
    . rw [hset]; exact SubH.rfl_ _
  . have hm : i = m := by omega
    subst hm
    refine G.done1 rfl rfl [] (SubH.nil _) ⟨rfl, ?_⟩
    simp
end Go.Proofs.YtmbpjgjajedonaaDoor
