/- castellanref13.Has, put; schema.sorted. -/
import Derived.Test.YtfmekdmpghhegaaDoorScQ
import Derived.Test.YtfmekdmpghhegaaDoorScC
import Derived.Test.YtfmekdmpghhegaaDoorLtX
namespace Go.Proofs.YtfmekdmpghhegaaDoor
set_option linter.all false
set_option maxRecDepth 4000
open Go.RowKit

section
variable {E : Env} {k : List It} {f : Fr} {h : Heap} {H : List Chunk} {st : Md} [hmd : OkMd st h H] {all : Array Oper} {rest : List Oper} {d : Nat} {ty : TypeId} {pos : String} {aft : Array Edge}
end
theorem callSorted : Callable Tryd.prog 22 := ⟨_, Tryd.func22, by kernel_rfl, rfl⟩
set_option maxHeartbeats 2000000 in
/-- A map's keys, in order. -/
theorem schema_sorted (m c : Nat) (es : Ens) (L : List (List UInt8)) (hs : SetM es c L) (hn : es.length ≤ 1000) (h : Heap) : Spec Tryd.prog 22 [.map (some m)] h [.obj m (mapOS es c)] (fun u h' H' => (∃ K, K.Nodup ∧ (∀ x, x ∈ K ↔ x ∈ L) ∧ HSl h' u 1 (strsR (sortM K))) ∧ H' = [.obj m (mapOS es c)]) := by
  refine Spec.enter Tryd.func22 rfl rfl ?_; intro w0
  repeat' (first | (refine G.rangeMapS rfl (tyy rfl) (by solve | (repeat (first | apply Take.hd | apply Take.tl))) rfl ?_; intro r) | (refine G.atCode ?_; refine G.stopLoop ?_) | (refine G.atCode ?_; first | refine G.seq ?_ | refine G.region ?_ | refine G.block ?_) | refine G.endOps ?_ | refine G.op rfl rfl ?_)
  refine G.nilRow 9 1 ?_
  refine G.go ?_
  refine G.loop (σ := Array Nat × List (List UInt8) × Value) (fun x => [(6, .pointer (some ⟨r, 0, none⟩)), (3, x.2.2)])
    (fun x => [.row x.2.2 9 1 (strsR x.2.1), .obj r (.mapIter (some m) c x.1 c), .obj m (mapOS es c)]) (fun x _ => Seen es x.1 x.2.1) (fun x => es.length - x.2.1.length) ⟨#[], [], .slice none 0 0⟩ ⟨rfl, rfl, trivial⟩ (by solve | (apply Takes.sub; (repeat (first | apply Takes.nil | apply Take.hd | apply Take.tl | apply Takes.cons)))) (Seen.nil es) ?_
  rintro ⟨seen, P, ov⟩ h5 hle5 hse
  simp only at hse
  refine G.norm (by (try dsimp only) <;> exact rfl) (by (try dsimp only) <;> exact rfl) ?_
  have hpl := hse.len
  repeat' (first | (refine G.nextMapS rfl (by solve | (repeat (first | apply Take.hd | apply Take.tl))) (by solve | (repeat (first | apply Take.hd | apply Take.tl))) rfl hs.bc (Nat.le_refl _) ?_ ?_) | (refine G.atCode ?_; first | refine G.seq ?_ | refine G.region ?_))
  · intro hall
    have hov := Seen.over hs hse hall
    repeat' (first | (show G _ (.ops .seq _ (⟨some _, .call { callee := .value (.func 33), args := _, argTypes := _ }, _, _, _, none⟩ :: _) :: _) _ _ _; refine G.call callSort rfl rfl (strs_Sort ov 9 P (by omega) _) (by solve | (repeat (first | apply Takes.nil | apply Take.hd | apply Take.tl | apply Takes.cons))) ?_; rintro _ h8 H8 ⟨rfl, rfl⟩ hle8) | (refine G.atCode ?_; first | refine G.seq ?_ | refine G.region ?_ | refine G.exit rfl ?_ | refine G.ret ?_ | (refine G.cond rfl ?_ ?_ <;> intro hc <;> (try simp only [tests, reduceCtorEq] at hc) <;> (try (exfalso; first | omega | exact absurd hc (by with_reducible assumption) | exact absurd (by with_reducible assumption) hc | exact Bool.noConfusion hc | exact hc | exact hc trivial | fail)))) | refine G.endOps ?_ | refine G.op rfl rfl ?_)
    all_goals
      refine G.freezeRow Take.hd ?_
      intro h9 hle9 hs9
      exact G.done1 rfl rfl [.obj m (mapOS es c)] (by solve | (apply Takes.sub; (repeat (first | apply Takes.nil | apply Take.hd | apply Take.tl | apply Takes.cons)))) ⟨⟨P, hse.nd, hov, hs9⟩, rfl⟩
  · intro q v' b' hm hb
    have hlt := hse.lt hm hb
    have hst := hse.step hs hm hb
    repeat' (first | (refine G.entryMapS rfl (by solve | (repeat (first | apply Take.hd | apply Take.tl))) (by solve | (repeat (first | apply Take.hd | apply Take.tl))) rfl hm hs.b ?_) | (refine G.atCode ?_; first | refine G.seq ?_ | refine G.region ?_ | refine G.block ?_ | refine G.skip ?_ | (refine G.cond rfl ?_ ?_ <;> intro hc <;> (try simp only [tests, reduceCtorEq] at hc) <;> (try (exfalso; first | omega | exact absurd hc (by with_reducible assumption) | exact absurd (by with_reducible assumption) hc | exact Bool.noConfusion hc | exact hc | exact hc trivial | fail)))) | refine G.endOps ?_ | refine G.endBlk ?_ | refine G.op rfl rfl ?_ | (refine G.atBsl ?_; refine G.buildSlice (tyy rfl) (tyy rfl) rfl rfl rfl rfl ?_; intro _) | (refine G.atApp ?_; first | (refine G.append1S rfl rfl (tyy rfl) (tyy rfl) rfl rfl (by solve | (repeat (first | apply Take.hd | apply Take.tl))) (by solve | (repeat (first | apply Take.hd | apply Take.tl))) rfl (by first | omega | (simp only [lens] at *; omega)) ?_; intro _)))
    all_goals
      exact G.again ⟨seen.push b', P ++ [q], _⟩ ⟨rfl, rfl, trivial⟩ (by solve | (apply Takes.sub; (repeat (first | apply Takes.nil | apply Take.hd | apply Take.tl | apply Takes.cons)))) hst (by solve | (repeat (first | assumption | exact Heap.le_refl _ | (refine Heap.le_trans ?_ (by assumption))))) (by simp only [List.length_append, List.length_cons, List.length_nil]; omega)
end Go.Proofs.YtfmekdmpghhegaaDoor
