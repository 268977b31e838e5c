/- Package page: Answer; the document's Answer. -/
import Derived.Test.YtpcfnhjeacahdaaTlvX
import Derived.Test.YtpcfnhjeacahdaaTlvT
import Derived.Test.YtpcfnhjeacahdaaTlvO
namespace Go.Proofs.Ytpcfnhjeacahdaa
set_option linter.all false
open Go.RowKit

theorem callAnswer : Callable Try.prog 42 := ⟨_, Try.func42, by kernel_rfl, rfl⟩
def intB (n : Int) : List UInt8 := putB (IntKind.u64.wrap n).toNat (intF n 7 1)
def ansN (n : Int) (c : List UInt8) : Nd := .mk 48 [] [.mk 2 (intB n) [], .mk 4 c []]
/-- What is said of a size and a cookie. -/
def ansM (n : Int) (c : List UInt8) : List UInt8 := if n < 0 ∨ 2147483647 < n then [] else (putM 1 (ansN n c)).1
theorem intB_len (n : Int) : (intB n).length ≤ 8 := by
  unfold intB
  rw [putB_length]
  exact (intF_range n 7 1).2
theorem ansN_wt (n : Int) (c : List UInt8) : (ansN n c).wt ≤ 11 + c.length := by
  have := intB_len n
  simp only [ansN, Nd.wt, wts, List.length_nil]; omega
theorem ansKids (h : Heap) (n : Int) (c : List UInt8) : KidsC h [.mk 2 (intB n) [], .mk 4 c []] [[.int .i64 2, str (intB n), .slice none 0 0], [.int .i64 4, str c, .slice none 0 0]] := by
  have e : ∀ (t : Int) (d : List UInt8), NodeC h (.mk t d []) [.int .i64 t, str d, .slice none 0 0] := fun t d => NodeC.mk_ (HSl.nil _ 3) (by simp only [KidsC])
  exact KidsC.append (KidsC.one (e 2 (intB n))) (KidsC.one (e 4 c))
theorem ansRowed (n : Int) (c : List UInt8) : Rowed 3 [[.int .i64 2, str (intB n), .slice none 0 0], [.int .i64 4, str c, .slice none 0 0]] := by
  intro r hr
  simp only [List.mem_cons, List.mem_nil_iff, or_false] at hr
  rcases hr with rfl | rfl <;> rfl

set_option maxRecDepth 8000 in
theorem page_Answer (n : Int) (hn : inR .i64 n) (c : List UInt8) (hc : c.length ≤ 1000000000) (h : Heap) :
    Spec Try.prog 42 [.int .i64 n, str c] h [] (fun u _ H' => H' = [] ∧ u = str (ansM n c)) := by
  refine Spec.enter Try.func42 rfl rfl ?_; intro w0
  repeat' (first | (show G _ (.ops .seq _ (⟨some _, .call { callee := .value (.func 75), args := _, argTypes := _ }, _, _, _, none⟩ :: _) :: _) _ _ _; refine G.call callInt rfl rfl (tlv_Int n hn _) (by solve | (repeat (first | apply Takes.nil | apply Take.hd | apply Take.tl | apply Takes.cons))) ?_; rintro _ h2 H2 ⟨rfl, rfl⟩ hle2) | (show G _ (.ops .seq _ (⟨some _, .call { callee := .value (.func 74), args := _, argTypes := _ }, _, _, _, none⟩ :: _) :: _) _ _ _; refine G.call callLeaf rfl rfl (tlv_Leaf 2 (intB n) _) (by solve | (repeat (first | apply Takes.nil | apply Take.hd | apply Take.tl | apply Takes.cons))) ?_; rintro _ h3 H3 ⟨rfl, rfl⟩ hle3) | (show G _ (.ops .seq _ (⟨some _, .call { callee := .value (.func 74), args := _, argTypes := _ }, _, _, _, none⟩ :: _) :: _) _ _ _; refine G.call callLeaf rfl rfl (tlv_Leaf 4 c _) (by solve | (repeat (first | apply Takes.nil | apply Take.hd | apply Take.tl | apply Takes.cons))) ?_; rintro _ h4 H4 ⟨rfl, rfl⟩ hle4) | (refine G.atCode ?_; first | refine G.seq ?_ | refine G.region ?_ | refine G.block ?_ | refine G.skip ?_ | refine G.exit rfl ?_ | refine G.ret ?_ | (refine G.cond rfl ?_ ?_ <;> intro hc <;> (try simp only [tests, reduceCtorEq] at hc) <;> (try (exfalso; first | omega | exact absurd hc (by with_reducible assumption) | exact absurd (by with_reducible assumption) hc | exact Bool.noConfusion hc | exact hc | exact hc trivial | fail)))) | refine G.endOps ?_ | refine G.endStill ?_ | refine G.endHeld ?_ | refine G.back ?_ | refine G.endBlk ?_ | (refine G.atGd ?_; first | refine G.guardYes rfl rfl ?_ | refine G.guardNoS rfl rfl rfl ?_ | refine G.guardU rfl rfl rfl ?_ | (refine G.guardS rfl rfl rfl ?_ ?_ <;> intro hc <;> (try simp only [tests, reduceCtorEq] at hc) <;> (try (exfalso; first | omega | exact absurd hc (by with_reducible assumption) | exact absurd (by with_reducible assumption) hc | exact Bool.noConfusion hc | exact hc | exact hc trivial | fail))) | refine G.guardNo rfl rfl ?_ (by rintro i ⟨⟩; rfl) | (refine G.guard rfl rfl ?_ ?_ (by rintro i ⟨⟩; rfl) <;> intro hc <;> (try simp only [tests, reduceCtorEq] at hc) <;> (try (exfalso; first | omega | exact absurd hc (by with_reducible assumption) | exact absurd (by with_reducible assumption) hc | exact Bool.noConfusion hc | exact hc | exact hc trivial | fail)))) | (refine G.atBin ?_; first | refine G.op rfl rfl ?_ ) | refine G.op rfl rfl ?_ | (refine G.atBsl ?_; refine G.buildSlice (tyy rfl) (tyy rfl) rfl rfl rfl rfl ?_; intro _)      )
  · exact G.done1 rfl rfl [] (SubH.nil _) ⟨rfl, by unfold ansM; rw [if_pos (by omega)]; rfl⟩
  · refine G.freezeBlk Take.hd ?_
    intro hf1 hle5 hc1
    have hs1 := HSl.ofBlk1 (rows := [[.int .i64 2, str (intB n), .slice none 0 0], [.int .i64 4, str c, .slice none 0 0]]) (n := 2) hc1 (ansRowed n c) rfl (by decide)
    clear hc1
    (show G _ (.ops .seq _ (⟨some _, .call { callee := .value (.func 73), args := _, argTypes := _ }, _, _, _, none⟩ :: _) :: _) _ _ _; refine G.call callSeq rfl rfl (tlv_Seq 48 [.mk 2 (intB n) [], .mk 4 c []] (by simp [szs, Nd.sz]) _ _ _ hs1 (ansKids _ n c)) (by solve | (repeat (first | apply Takes.nil | apply Take.hd | apply Take.tl | apply Takes.cons))) ?_; rintro _ h6 H6 ⟨rfl, r6, hn6, rfl⟩ hle6)
    have hw := ansN_wt n c
    repeat' (first | (show G _ (.ops .seq _ (⟨some _, .call { callee := .value (.func 72), args := _, argTypes := _ }, _, _, _, none⟩ :: _) :: _) _ _ _; refine G.call callTPut1 rfl rfl (tlv_Put (ansN n c) (by omega) _ _ hn6) (by solve | (repeat (first | apply Takes.nil | apply Take.hd | apply Take.tl | apply Takes.cons))) ?_; rintro _ h7 H7 ⟨rfl, rfl⟩ hle7) | (refine G.atCode ?_; first | refine G.seq ?_ | refine G.region ?_ | refine G.block ?_ | refine G.skip ?_ | refine G.exit rfl ?_ | refine G.ret ?_ | (refine G.cond rfl ?_ ?_ <;> intro hc <;> (try simp only [tests, reduceCtorEq] at hc) <;> (try (exfalso; first | omega | exact absurd hc (by with_reducible assumption) | exact absurd (by with_reducible assumption) hc | exact Bool.noConfusion hc | exact hc | exact hc trivial | fail)))) | refine G.endOps ?_ | refine G.endStill ?_ | refine G.endHeld ?_ | refine G.back ?_ | refine G.endBlk ?_ | (refine G.atGd ?_; first | refine G.guardYes rfl rfl ?_ | refine G.guardNoS rfl rfl rfl ?_ | refine G.guardU rfl rfl rfl ?_ | (refine G.guardS rfl rfl rfl ?_ ?_ <;> intro hc <;> (try simp only [tests, reduceCtorEq] at hc) <;> (try (exfalso; first | omega | exact absurd hc (by with_reducible assumption) | exact absurd (by with_reducible assumption) hc | exact Bool.noConfusion hc | exact hc | exact hc trivial | fail))) | refine G.guardNo rfl rfl ?_ (by rintro i ⟨⟩; rfl) | (refine G.guard rfl rfl ?_ ?_ (by rintro i ⟨⟩; rfl) <;> intro hc <;> (try simp only [tests, reduceCtorEq] at hc) <;> (try (exfalso; first | omega | exact absurd hc (by with_reducible assumption) | exact absurd (by with_reducible assumption) hc | exact Bool.noConfusion hc | exact hc | exact hc trivial | fail)))) | (refine G.atBin ?_; first | refine G.op rfl rfl ?_ ) | refine G.op rfl rfl ?_ | (refine G.atBsl ?_; refine G.buildSlice (tyy rfl) (tyy rfl) rfl rfl rfl rfl ?_; intro _)      )
    exact G.done1 rfl rfl [] (SubH.nil _) ⟨rfl, by unfold ansM; rw [if_neg (by omega)]⟩
  · exact G.done1 rfl rfl [] (SubH.nil _) ⟨rfl, by unfold ansM; rw [if_pos (by omega)]; rfl⟩

theorem ans5 : ansM 5 [] = [48, 5, 2, 1, 5, 4, 0] := by decide +kernel
end Go.Proofs.Ytpcfnhjeacahdaa
