/- strconv.Itoa, as the kit's shelf has it. -/
import Derived.Test.YtfmekdmpghhegaaDoorShT
import Derived.Test.YtfmekdmpghhegaaDoorLibS
import Derived.Test.YtfmekdmpghhegaaDoorOpen
import Derived.Shelf.Strconv.Itoa3
import Derived.Lib.LaidTab
import Derived.Lib.AppendIntMem
namespace Go.Proofs.YtfmekdmpghhegaaDoor
set_option linter.all false
set_option maxRecDepth 4000
open Go.RowKit

/-- Of a memory: the table of the powers of ten lies there, and stays. -/
def TabI (h : Heap) : Prop := ∀ w : World, (∀ b o, h b = some o → w.heap[b]? = some o) → Lib.TabIs Tryd.prog w "internal/strconv.uint64pow10" .u64 Lib.pow10Tab
theorem TabI.mono {h h' : Heap} (t : TabI h) (hl : Heap.le h h') : TabI h' := fun w hw => t w fun b o hb => hw b o (hl b o hb)
theorem tabI_of {W : World} (t : Lib.TabIs Tryd.prog W "internal/strconv.uint64pow10" .u64 Lib.pow10Tab) : TabI (heapOf W) := fun w hw => by
  unfold Lib.TabIs World.var? at *
  cases hg : Tryd.prog.globalNamed "internal/strconv.uint64pow10" with
  | none => rw [hg] at t; cases t
  | some g =>
    rw [hg] at t
    simp only [Option.bind_some] at t ⊢
    cases hb : W.heap[g]? with
    | none => rw [hb] at t; cases t
    | some o => rw [hb] at t; rw [hw g o hb]; exact t
theorem callItoa : Callable Tryd.prog 12 := ⟨_, Tryd.func12, by kernel_rfl, rfl⟩
theorem strconv_ItoaS (n : Int) (hr : inR .i64 n) (h : Heap) (hT : TabI h) : Spec Tryd.prog 12 [.int .i64 n] h [] (fun u _ H' => u = str (Lib.itoa n) ∧ H' = []) := by
  refine ⟨fun w hw => ?_⟩
  simp only [inR] at hr
  refine (Any.strconv_Itoa laysItoa n (by omega) (by omega) w (hT w hw.imm)).mono ?_
  rintro e w' ⟨rfl, k, os, rfl⟩
  exact ⟨_, h, _, rfl, ⟨rfl, rfl⟩, St.below hw (Lib.below_grow _ w (Nat.le_refl _) k os)⟩
end Go.Proofs.YtfmekdmpghhegaaDoor
