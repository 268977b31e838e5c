/- castellanref13.Has, put; schema.sorted. -/
import Derived.Test.YtfmekdmpghhegaaDoorScQ
import Derived.Test.YtfmekdmpghhegaaDoorScC
import Derived.Test.YtfmekdmpghhegaaDoorLtX
import Derived.Test.YtfmekdmpghhegaaDoorScF
import Derived.Test.YtfmekdmpghhegaaDoorScE
namespace Go.Proofs.YtfmekdmpghhegaaDoor
set_option linter.all false
set_option maxRecDepth 4000
open Go.RowKit

section
variable {E : Env} {k : List It} {f : Fr} {h : Heap} {H : List Chunk} {st : Md} [hmd : OkMd st h H] {all : Array Oper} {rest : List Oper} {d : Nat} {ty : TypeId} {pos : String} {aft : Array Edge}
end
theorem callSorted : Callable Tryd.prog 22 := ⟨_, Tryd.func22, by kernel_rfl, rfl⟩
set_option maxHeartbeats 2000000 in
theorem schema_sorted (m c : Nat) (es : Ens) (L : List (List UInt8)) (hs : SetM es c L) (hn : es.length <= 1000) (h : Heap) : Spec Tryd.prog 22 [.map (some m)] h [.obj m (mapOS es c)] (fun u h' H' => (∃ K, K.Nodup /\ (∀ x, x ∈ K ↔ x ∈ L) /\ HSl h' u 1 (strsR (sortM K))) /\ H' = [.obj m (mapOS es c)]) := by
  refine Spec.enter Tryd.func22 rfl rfl ?_; intro w0
  repeat' (first | (refine G.rangeMapS rfl (tyy rfl) Za rfl ?_; intro r) | (refine G.atCode ?_; refine G.stopLoop ?_) | (refine G.atCode ?_; first | refine G.seq ?_ | refine G.region ?_ | refine G.block ?_) | refine G.endOps ?_ | refine G.op rfl rfl ?_)
  refine G.nilRow 9 1 ?_
  refine G.go ?_
  refine G.loop (σ := Array Nat × List (List UInt8) × Value) (fun x => [(6, .pointer (some ⟨r, 0, none⟩)), (3, x.2.2)])
    (fun x => [.row x.2.2 9 1 (strsR x.2.1), .obj r (.mapIter (some m) c x.1 c), .obj m (mapOS es c)]) (fun x _ => Seen es x.1 x.2.1) (fun x => es.length - x.2.1.length) ⟨#[], [], .slice none 0 0⟩ ⟨rfl, rfl, trivial⟩ Zu (Seen.nil es) ?_
  rintro ⟨seen, P, ov⟩ h5 hle5 hse
  simp only at hse
  refine G.norm (by (try dsimp only) <;> exact rfl) (by (try dsimp only) <;> exact rfl) ?_
  have hpl := hse.len
  repeat' (first | (refine G.nextMapS rfl Za Za rfl hs.bc (Nat.le_refl _) ?_ ?_) | (refine G.atCode ?_; first | refine G.seq ?_ | refine G.region ?_))
  . intro hall
    have hov := Seen.over hs hse hall
    repeat' (first | (show G _ (.ops .seq _ (⟨some _, .call { callee := .value (.func 33), args := _, argTypes := _ }, _, _, _, none⟩ :: _) :: _) _ _ _; refine G.call callSort rfl rfl (strs_Sort ov 9 P (by omega) _) Ze ?_; rintro _ h8 H8 ⟨rfl, rfl⟩ hle8) | (refine G.atCode ?_; first | refine G.seq ?_ | refine G.region ?_ | refine G.exit rfl ?_ | refine G.ret ?_ | (refine G.cond rfl ?_ ?_ <;> intro hc <;> (try simp only [tests, reduceCtorEq] at hc) <;> (try exact Zf))) | refine G.endOps ?_ | refine G.op rfl rfl ?_)
    all_goals
      refine G.freezeRow Take.hd ?_
      intro h9 hle9 hs9
      exact G.done1 rfl rfl [.obj m (mapOS es c)] Zu ⟨⟨P, hse.nd, hov, hs9⟩, rfl⟩
  . intro q v' b' hm hb
    have hlt := hse.lt hm hb
    have hst := hse.step hs hm hb
    repeat' (first | (refine G.entryMapS rfl Za Za rfl hm hs.b ?_) | (refine G.atCode ?_; first | refine G.seq ?_ | refine G.region ?_ | refine G.block ?_ | refine G.skip ?_ | (refine G.cond rfl ?_ ?_ <;> intro hc <;> (try simp only [tests, reduceCtorEq] at hc) <;> (try exact Zf))) | refine G.endOps ?_ | refine G.endBlk ?_ | refine G.op rfl rfl ?_ | (refine G.atBsl ?_; refine G.buildSlice (tyy rfl) (tyy rfl) rfl rfl rfl rfl ?_; intro _) | (refine G.atApp ?_; first | (refine G.append1S rfl rfl (tyy rfl) (tyy rfl) rfl rfl Za Za rfl Zo ?_; intro _)))
    all_goals
      exact G.again ⟨seen.push b', P ++ [q], _⟩ ⟨rfl, rfl, trivial⟩ Zu hst (by solve | repeat first | assumption | exact Zr _ | refine Zq ?_ Zp) (by simp only [List.length_append, List.length_cons, List.length_nil]; omega)
end Go.Proofs.YtfmekdmpghhegaaDoor
namespace Go.Proofs.YtfmekdmpghhegaaDoor
set_option linter.all false
set_option maxRecDepth 4000
open Go.RowKit

theorem setM_len {es : Ens} {c : Nat} {P F : List (List UInt8)} (s : SetM es c P) (h : ∀ x ∈ P, x ∈ F) : es.length <= F.length := by
  have := nodup_len s.k (m := F) fun x hx => h x ((s.m x).1 hx)
  simpa using this
def mustU (C : List Cls) (u : List UInt8) : List (List UInt8) := (gtC C u).2.2.2.1.map foldM
def mayV (C : List Cls) (u : List UInt8) : List (List UInt8) := (gtC C u).2.2.2.2.map foldM
theorem flat_snoc {f : List UInt8 -> List (List UInt8)} {l : List (List UInt8)} {i : Nat} {w : List UInt8} (h : l[i]? = some w) : (l.take (i + 1)).flatMap f = (l.take i).flatMap f ++ f w := by
  rw [take_get h, List.flatMap_append]; simp
theorem map_snoc {f : List UInt8 -> List UInt8} {l : List (List UInt8)} {i : Nat} {w : List UInt8} (h : l[i]? = some w) : (l.take (i + 1)).map f = (l.take i).map f ++ [f w] := by
  rw [take_get h, List.map_append]; rfl
theorem tyF_len (T : List Ty4) : (tyF T).length = T.length := by simp [tyF]
theorem in_snoc {P F : List (List UInt8)} {x : List UInt8} (h : ∀ y ∈ P, y ∈ F) (hx : x ∈ F) : ∀ y ∈ P ++ [x], y ∈ F := fun y hy => by
  rcases List.mem_append.1 hy with hy | hy
  . exact h y hy
  . simp at hy; subst hy; exact hx
theorem chM_ix {C : List Cls} (g : GoodC C) {w u : List UInt8} (h : u ∈ chM C w) : ∃ j c, ixC C u = some j /\ C[j]? = some c /\ gtC C u = c := by
  cases hw : ixC C w with
  | none => rw [chM_none hw] at h; simp at h
  | some i =>
    obtain ⟨j, c, _, h2, h3⟩ := chM_mem g i w u hw h
    subst h3
    exact ⟨j, c, g.one j c h2, h2, gtC_of (g.one j c h2) h2⟩
end Go.Proofs.YtfmekdmpghhegaaDoor
