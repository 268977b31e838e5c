/- Small letters, hexadecimal digits, types of attributes: what octet, castellanref01, dn and castellanref09 do on bytes. -/
import Derived.Test.YtcghcdnmpjhifaaDoorLtS
import Derived.Test.YtcghcdnmpjhifaaDoorTy
namespace Go.Proofs.YtcghcdnmpjhifaaDoor
set_option linter.all false
open Go.RowKit

theorem byteAt_eq {s : List UInt8} {i : Nat} (h : i < s.length) : byteAt s i = (s[i]'h).toNat := by unfold byteAt; simp [h]
theorem ofNat_byteAt {s : List UInt8} {i : Nat} (h : i < s.length) : UInt8.ofNat (byteAt s i) = s[i]'h := by rw [byteAt_eq h]; simp
theorem callLetter : Callable Tryd.prog 45 := ⟨_, Tryd.func45, by kernel_rfl, rfl⟩
theorem callType9 : Callable Tryd.prog 33 := ⟨_, Tryd.func33, by kernel_rfl, rfl⟩
theorem callHalf : Callable Tryd.prog 68 := ⟨_, Tryd.func68, by kernel_rfl, rfl⟩
theorem callUnhex : Callable Tryd.prog 58 := ⟨_, Tryd.func58, by kernel_rfl, rfl⟩
end Go.Proofs.YtcghcdnmpjhifaaDoor
