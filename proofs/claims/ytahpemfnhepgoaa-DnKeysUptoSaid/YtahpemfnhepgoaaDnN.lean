/- Names: castellanref09.Same; the chapter's examples; DnParses. -/
import Derived.Test.YtahpemfnhepgoaaDnJ
import Derived.Test.YtahpemfnhepgoaaDnF
import Derived.Test.YtahpemfnhepgoaaLtP
import Derived.KernelRfl
namespace Go.Proofs.Ytahpemfnhepgoaa
set_option linter.all false
open Go.RowKit

theorem callAwake9 : Callable Try.prog 11 := ⟨_, Try.func11, by kernel_rfl, rfl⟩
def exS : List UInt8 := [99, 110, 61, 65, 32, 32, 98, 43, 111, 117, 61, 88, 44, 100, 99, 61, 122]
def exD : Dn := [[([99, 110], [65, 32, 32, 98]), ([111, 117], [88])], [([100, 99], [122])]]
def exK : List UInt8 := [99, 110, 61, 97, 32, 98, 43, 111, 117, 61, 120, 44, 100, 99, 61, 122]
def exT : List UInt8 := [99, 110, 61, 92, 32, 97]
def exE : Dn := [[([99, 110], [32, 97])]]
theorem exS_parse : parseM exS = .ok exD := by kernel_rfl
theorem exT_parse : parseM exT = .ok exE := by kernel_rfl
theorem exU_parse : parseM [99, 110, 61, 32, 97] = .error 4 := by kernel_rfl
theorem sortM_rising {L : List (List UInt8)} (h : L.Pairwise fun x y => decide (x ≤ y) = true) : sortM L = L := List.mergeSort_of_pairwise h
theorem exD_norm : normM exD = (exK, 0) := by
  have h1 : printM exD = (txt false exD, 0) := by
    have hc : chkM exD = 0 := by kernel_rfl
    have hl : longB exD = false := by kernel_rfl
    rw [printM_text hc hl, if_neg (by decide +kernel)]
  have h2 : txt true exD = exK := by
    have e1 : sortM [[99, 110, 61, 97, 32, 98], [111, 117, 61, 120]] = [[99, 110, 61, 97, 32, 98], [111, 117, 61, 120]] := sortM_rising (by decide)
    have e2 : sortM [[100, 99, 61, 122]] = [[100, 99, 61, 122]] := sortM_rising (by decide)
    have e3 : (exD.map (fR true)) = [Lib.join (sortM [[99, 110, 61, 97, 32, 98], [111, 117, 61, 120]]) [43], Lib.join (sortM [[100, 99, 61, 122]]) [43]] := by kernel_rfl
    unfold txt
    rw [e3, e1, e2]
    decide +kernel
  unfold normM
  rw [h1, if_neg (by simp), h2]
theorem dn_ParseX (h : Heap) : Spec Try.prog 9 [str exS] h [] (fun u h' H' => (∃ v, u = .tuple #[v, .int .i64 0] ∧ DnC h' exD v ∧ ∃ a b, HSl h' v 1 [[a], [b]]) ∧ H' = []) := by
  refine (dn_Parse exS (by decide) h).mono ?_
  rintro u h' H' ⟨hp, rfl⟩ _
  rw [exS_parse] at hp
  obtain ⟨v, rfl, hv⟩ := hp
  refine ⟨⟨v, rfl, hv, ?_⟩, rfl⟩
  obtain ⟨rows, hs, a, r1, rfl, _, b, r2, rfl, _, rfl⟩ := hv
  exact ⟨a, b, hs⟩
theorem dn_ParseY (h : Heap) : Spec Try.prog 9 [str [99, 110, 61, 32, 97]] h [] (fun u _ H' => u = .tuple #[.slice none 0 0, .int .i64 4] ∧ H' = []) := by
  refine (dn_Parse _ (by decide) h).mono ?_
  rintro u h' H' ⟨hp, rfl⟩ _
  rw [exU_parse] at hp
  exact ⟨hp, rfl⟩
theorem dn_ParseZ (h : Heap) : Spec Try.prog 9 [str exT] h [] (fun u h' H' => (∃ v a, u = .tuple #[v, .int .i64 0] ∧ HSl h' v 1 [[a]] ∧ HSl h' a 2 [[str [99, 110], str [32, 97]]]) ∧ H' = []) := by
  refine (dn_Parse exT (by decide) h).mono ?_
  rintro u h' H' ⟨hp, rfl⟩ _
  rw [exT_parse] at hp
  obtain ⟨v, rfl, rows, hs, a, r1, rfl, h1, rfl⟩ := hp
  exact ⟨⟨v, a, rfl, hs, h1⟩, rfl⟩
theorem dn_NormX (v : Value) (h : Heap) (hv : DnC h exD v) : Spec Try.prog 18 [v] h [] (fun u _ H' => u = .tuple #[str exK, .int .i64 0] ∧ H' = []) := by
  have := dn_Norm exD v (by decide) h hv
  rw [exD_norm] at this
  exact this
set_option maxRecDepth 8000 in
theorem law09_awake (h : Heap) : Spec Try.prog 11 [] h [] (fun u _ H' => u = .bool true ∧ H' = []) := by
  refine Spec.enter Try.func11 rfl rfl ?_; intro w0
  repeat' (first | (refine G.atCode ?_; first | refine G.seq ?_ | refine G.region ?_) | refine G.endOps ?_ | refine G.op rfl rfl ?_)
  show G _ (.ops .seq _ (⟨some _, .call { callee := .value (.func 9), args := _, argTypes := _ }, _, _, _, none⟩ :: _) :: _) _ _ _
  refine G.call callParse rfl rfl (dn_ParseX _) (by solve | (repeat (first | apply Takes.nil | apply Take.hd | apply Take.tl | apply Takes.cons))) ?_
  rintro _ h2 H2 ⟨⟨v1, rfl, hv1, a1, b1, hs1⟩, rfl⟩ hle2
  repeat' (first | (refine G.atCode ?_; first | refine G.seq ?_ | refine G.region ?_) | refine G.endOps ?_ | refine G.op rfl rfl ?_)
  show G _ (.ops .seq _ (⟨some _, .call { callee := .value (.func 18), args := _, argTypes := _ }, _, _, _, none⟩ :: _) :: _) _ _ _
  refine G.call callNorm rfl rfl (dn_NormX v1 _ hv1) (by solve | (repeat (first | apply Takes.nil | apply Take.hd | apply Take.tl | apply Takes.cons))) ?_
  rintro _ h3 H3 ⟨rfl, rfl⟩ hle3
  repeat' (first | (refine G.atCode ?_; first | refine G.seq ?_ | refine G.region ?_) | refine G.endOps ?_ | refine G.op rfl rfl ?_)
  show G _ (.ops .seq _ (⟨some _, .call { callee := .value (.func 9), args := _, argTypes := _ }, _, _, _, none⟩ :: _) :: _) _ _ _
  refine G.call callParse rfl rfl (dn_ParseY _) (by solve | (repeat (first | apply Takes.nil | apply Take.hd | apply Take.tl | apply Takes.cons))) ?_
  rintro _ h4 H4 ⟨rfl, rfl⟩ hle4
  repeat' (first | (refine G.atCode ?_; first | refine G.seq ?_ | refine G.region ?_) | refine G.endOps ?_ | refine G.op rfl rfl ?_)
  show G _ (.ops .seq _ (⟨some _, .call { callee := .value (.func 9), args := _, argTypes := _ }, _, _, _, none⟩ :: _) :: _) _ _ _
  refine G.call callParse rfl rfl (dn_ParseZ _) (by solve | (repeat (first | apply Takes.nil | apply Take.hd | apply Take.tl | apply Takes.cons))) ?_
  rintro _ h5 H5 ⟨⟨v2, a2, rfl, hs2, hs3⟩, rfl⟩ hle5
  have hs1 := hs1.mono (Heap.le_trans hle3 (Heap.le_trans hle4 hle5))
  repeat' (first | (refine G.atIdx ?_; refine G.idxImm rfl rfl (tyy rfl) (tyy rfl) hs2 (by first | (simp only [Int.reduceToNat]; rfl) | with_reducible apply Int.toNat_natCast | exact Eq.refl _) rfl (by simp) ?_; intro p1 r1 hx1 hp1; (obtain rfl := Option.some.inj hx1)) | (refine G.atIdx ?_; refine G.idxImm rfl rfl (tyy rfl) (tyy rfl) hs3 (by first | (simp only [Int.reduceToNat]; rfl) | with_reducible apply Int.toNat_natCast | exact Eq.refl _) rfl (by simp) ?_; intro p2 r2 hx2 hp2; (obtain rfl := Option.some.inj hx2)) | (refine G.atLoad ?_; refine G.loadImmAt1 rfl (tyy rfl) rfl rfl (by assumption) rfl rfl ?_) | (refine G.atCode ?_; first | refine G.seq ?_ | refine G.region ?_ | refine G.ret ?_) | refine G.endOps ?_ | (refine G.atGd ?_; first | refine G.guardYes rfl rfl ?_) | (refine G.atBin ?_; first | (refine G.atEql ?_; first | refine G.op rfl rfl ?_ | refine G.eqStr rfl rfl rfl ?_)) | refine G.op rfl rfl ?_ | (refine G.atLen ?_; first | refine G.lenImm rfl (tyy rfl) (by solve | (repeat (first | assumption | (apply HSl.mono; rotate_left; assumption)))) rfl ?_) | (refine G.atLoad ?_; first | refine G.loadImm1 rfl (tyy rfl) rfl rfl (by assumption) rfl ?_) | (refine G.atFld ?_; first | refine G.fieldAddrP rfl (tyy rfl) rfl rfl ?_))
  all_goals first | exact G.done1 rfl rfl _ (SubH.nil _) ⟨rfl, rfl⟩
end Go.Proofs.Ytahpemfnhepgoaa
