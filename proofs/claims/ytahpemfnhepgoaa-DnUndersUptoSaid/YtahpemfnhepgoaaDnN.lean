/- Names: castellanref09.Same; the chapter's examples; DnParses. -/
import Derived.Test.YtahpemfnhepgoaaDnJ
import Derived.Test.YtahpemfnhepgoaaDnF
import Derived.Test.YtahpemfnhepgoaaLtP
import Derived.KernelRfl
namespace Go.Proofs.Ytahpemfnhepgoaa
set_option linter.all false
set_option maxRecDepth 4000
open Go.RowKit

theorem callSame9 : Callable Try.prog 12 := ⟨_, Try.func12, by kernel_rfl, rfl⟩
theorem callAwake9 : Callable Try.prog 11 := ⟨_, Try.func11, by kernel_rfl, rfl⟩
theorem avaOk : FlatOk Try.prog 51 [9, 9] := ⟨by kernel_rfl, by kernel_rfl, by kernel_rfl, by kernel_rfl⟩
set_option maxRecDepth 8000 in
set_option maxHeartbeats 2000000 in
theorem ref09_Same (d : Dn) (v1 v2 : Value) (h : Heap) (hv1 : DnC h d v1) (hv2 : DnC h d v2) : Spec Try.prog 12 [v1, v2] h [] (fun u _ H' => u = .bool true /\ H' = []) := by
  obtain ⟨rows1, hs1, hr1⟩ := hv1
  obtain ⟨rows2, hs2, hr2⟩ := hv2
  have hrl1 := hr1.len
  have hrl2 := hr2.len
  have hm1 := hs1.len
  refine Spec.enter Try.func12 rfl rfl ?_; intro w0
  repeat' (first | (refine G.atCode ?_; refine G.stopLoop ?_) | (refine G.atCode ?_; first | refine G.seq ?_ | refine G.region ?_ | refine G.block ?_ | refine G.skip ?_ | (refine G.cond rfl ?_ ?_ <;> intro hc <;> (try simp only [tests, reduceCtorEq] at hc) <;> (try exact Zf))) | refine G.endOps ?_ | (refine G.atBin ?_; first | (refine G.atNeq ?_; first | refine G.op rfl rfl ?_)) | refine G.op rfl rfl ?_ | (refine G.atLen ?_; first | refine G.lenImm rfl (tyy rfl) Zl rfl ?_))
  all_goals (try (exfalso; omega))
  refine G.go ?_
  rw [hrl1] at *
  refine G.loop (σ := Nat) (fun i => [(14, .int .i64 i), (13, .int .i64 d.length), (0, v1), (1, v2)])
    (fun _ => []) (fun i _ => i <= d.length) (fun i => d.length - i) 0 ⟨rfl, rfl, rfl, rfl, trivial⟩ (SubH.nil _) (Nat.zero_le _) ?_
  rintro i h1 hle1 hi
  have hrl1 := hr1.len
  by_cases hlt : i < d.length
  . obtain ⟨r, hr⟩ : ∃ r, d[i]? = some r := ⟨d[i], List.getElem?_eq_getElem hlt⟩
    obtain ⟨rv1, hget1, hrv1⟩ := hr1.get hr
    obtain ⟨rv2, hget2, hrv2⟩ := hr2.get hr
    have hal := avaR_length r
    have hrm := hrv1.len
    have s1 : HSl h1 v1 1 rows1 := hs1.mono hle1
    have s2 : HSl h1 v2 1 rows2 := hs2.mono hle1
    repeat' (first | (refine G.atIdx ?_; refine G.idxImm rfl rfl (tyy rfl) (tyy rfl) s1 Zj rfl (by omega) ?_; intro p1 r1 hx1 hp1; (rw [hget1] at hx1); (obtain rfl := Option.some.inj hx1)) | (refine G.atIdx ?_; refine G.idxImm rfl rfl (tyy rfl) (tyy rfl) s2 Zj rfl (by omega) ?_; intro p2 r2 hx2 hp2; (rw [hget2] at hx2); (obtain rfl := Option.some.inj hx2)) | (refine G.atCode ?_; refine G.stopLoop ?_) | (refine G.atCode ?_; first | refine G.seq ?_ | refine G.region ?_ | refine G.block ?_ | refine G.skip ?_ | refine G.drawAll slB Zw mixedOk Zw ?_ | (refine G.cond rfl ?_ ?_ <;> intro hc <;> (try simp only [tests, reduceCtorEq] at hc) <;> (try exact Zf))) | refine G.endOps ?_ | refine G.endStill ?_ | (refine G.atBin ?_; first | (refine G.atNeq ?_; first | refine G.op rfl rfl ?_) | refine G.op rfl rfl ?_) | refine G.op rfl rfl ?_ | (refine G.atLen ?_; first | refine G.lenImm rfl (tyy rfl) Zl rfl ?_) | (refine G.atLoad ?_; first | refine G.loadImm1 rfl (tyy rfl) rfl rfl Zp rfl ?_))
    all_goals (try (exfalso; omega))
    refine G.go ?_
    rw [hal] at *
    have hal := avaR_length r
    refine G.loop (σ := Nat) (fun k => [(33, .int .i64 k), (32, .int .i64 r.length), (5, .int .i64 i), (14, .int .i64 i), (13, .int .i64 d.length), (0, v1), (1, v2)])
      (fun _ => []) (fun k _ => k <= r.length) (fun k => r.length - k) 0 ⟨rfl, rfl, rfl, rfl, rfl, rfl, rfl, trivial⟩ (SubH.nil _) (Nat.zero_le _) ?_
    rintro k h3 hle3 hk
    by_cases hkl : k < r.length
    . obtain ⟨⟨ty, vl⟩, ha⟩ : ∃ a, r[k]? = some a := ⟨r[k], List.getElem?_eq_getElem hkl⟩
      have hget3 := avaR_get ha
      simp only at hget3
      have t1 : HSl h3 v1 1 rows1 := s1.mono hle3
      have t2 : HSl h3 v2 1 rows2 := s2.mono hle3
      have t3 : HSl h3 rv1 2 (avaR r) := hrv1.mono (Heap.le_trans hle1 hle3)
      have t4 : HSl h3 rv2 2 (avaR r) := hrv2.mono (Heap.le_trans hle1 hle3)
      repeat' (first | (refine G.atIdx ?_; refine G.idxImm rfl rfl (tyy rfl) (tyy rfl) t1 Zj rfl (by omega) ?_; intro p1 r1 hx1 hp1; (rw [hget1] at hx1); (obtain rfl := Option.some.inj hx1)) | (refine G.atIdx ?_; refine G.idxImm rfl rfl (tyy rfl) (tyy rfl) t2 Zj rfl (by omega) ?_; intro p2 r2 hx2 hp2; (rw [hget2] at hx2); (obtain rfl := Option.some.inj hx2)) | (refine G.atIdx ?_; refine G.idxImm rfl rfl (tyy rfl) (tyy rfl) t3 Zj rfl (by omega) ?_; intro p3 r3 hx3 hp3; (rw [hget3] at hx3); (obtain rfl := Option.some.inj hx3); have hl3 : ([str ty, str vl] : List Value).length = 2 := rfl) | (refine G.atIdx ?_; refine G.idxImm rfl rfl (tyy rfl) (tyy rfl) t4 Zj rfl (by omega) ?_; intro p4 r4 hx4 hp4; (rw [hget3] at hx4); (obtain rfl := Option.some.inj hx4); have hl4 : ([str ty, str vl] : List Value).length = 2 := rfl) | (refine G.neAgg rfl rfl avaOk (.cons (tyy rfl) .str (.cons (tyy rfl) .str .nil)) rfl ?_) | (refine G.atCode ?_; first | refine G.seq ?_ | refine G.region ?_ | refine G.block ?_ | refine G.skip ?_ | refine G.drawAll slB Zw mixedOk Zw ?_ | refine G.ret ?_ | (refine G.cond rfl ?_ ?_ <;> intro hc <;> (try simp only [tests, reduceCtorEq] at hc) <;> (try exact Zf))) | refine G.endOps ?_ | refine G.endStill ?_ | refine G.endBlk ?_ | (refine G.atBin ?_; first | (refine G.atAdd ?_; first | refine G.arith rfl rfl rfl rfl rfl Zi ?_) | refine G.op rfl rfl ?_) | refine G.op rfl rfl ?_ | (refine G.atLoad ?_; first | refine G.loadImm1 rfl (tyy rfl) rfl rfl Zp rfl ?_ | refine G.loadImmA rfl (tyy rfl) rfl rfl Zp Zp rfl ?_))
      all_goals first
        | exact G.again (k + 1) ⟨sint (by omega), rfl, rfl, rfl, rfl, rfl, rfl, trivial⟩ (SubH.nil _) (by omega) (by solve | repeat first | assumption | exact Zr _ | refine Zq ?_ Zp) (by omega)
        | (exfalso; simp_all)
    . obtain rfl : k = r.length := by omega
      repeat' (first | (refine G.atCode ?_; first | refine G.seq ?_ | refine G.region ?_ | refine G.exit rfl ?_ | (refine G.cond rfl ?_ ?_ <;> intro hc <;> (try simp only [tests, reduceCtorEq] at hc) <;> (try exact Zf))) | refine G.endOps ?_ | refine G.endBlk ?_ | (refine G.atBin ?_; first | (refine G.atAdd ?_; first | refine G.arith rfl rfl rfl rfl rfl Zi ?_) | refine G.op rfl rfl ?_) | refine G.op rfl rfl ?_)
      all_goals first | (exfalso; omega) | exact G.again (i + 1) ⟨sint (by omega), rfl, rfl, rfl, trivial⟩ (SubH.nil _) (by omega) (by solve | repeat first | assumption | exact Zr _ | refine Zq ?_ Zp) (by omega)
  . obtain rfl : i = d.length := by omega
    repeat' (first | (refine G.atCode ?_; first | refine G.seq ?_ | refine G.region ?_ | refine G.exit rfl ?_ | refine G.ret ?_ | (refine G.cond rfl ?_ ?_ <;> intro hc <;> (try simp only [tests, reduceCtorEq] at hc) <;> (try exact Zf))) | refine G.endOps ?_ | (refine G.atBin ?_; first | refine G.op rfl rfl ?_) | refine G.op rfl rfl ?_)
    all_goals first | (exfalso; omega) | exact G.done1 rfl rfl _ (SubH.nil _) ⟨rfl, rfl⟩
def exS : List UInt8 := [99, 110, 61, 65, 32, 32, 98, 43, 111, 117, 61, 88, 44, 100, 99, 61, 122]
def exD : Dn := [[([99, 110], [65, 32, 32, 98]), ([111, 117], [88])], [([100, 99], [122])]]
def exK : List UInt8 := [99, 110, 61, 97, 32, 98, 43, 111, 117, 61, 120, 44, 100, 99, 61, 122]
def exT : List UInt8 := [99, 110, 61, 92, 32, 97]
def exE : Dn := [[([99, 110], [32, 97])]]
theorem exS_parse : parseM exS = .ok exD := by kernel_rfl
theorem exT_parse : parseM exT = .ok exE := by kernel_rfl
theorem exU_parse : parseM [99, 110, 61, 32, 97] = .error 4 := by kernel_rfl
theorem sortM_rising {L : List (List UInt8)} (h : L.Pairwise fun x y => decide (x <= y) = true) : sortM L = L := List.mergeSort_of_pairwise h
theorem exD_norm : normM exD = (exK, 0) := by
  have h1 : printM exD = (txt false exD, 0) := by
    have hc : chkD exD = 0 := by kernel_rfl
    have hl : longB exD = false := by kernel_rfl
    rw [printM_text hc hl, if_neg Zw]
  have h2 : txt true exD = exK := by
    have e1 : sortM [[99, 110, 61, 97, 32, 98], [111, 117, 61, 120]] = [[99, 110, 61, 97, 32, 98], [111, 117, 61, 120]] := sortM_rising (by decide)
    have e2 : sortM [[100, 99, 61, 122]] = [[100, 99, 61, 122]] := sortM_rising (by decide)
    have e3 : (exD.map (fR true)) = [Lib.join (sortM [[99, 110, 61, 97, 32, 98], [111, 117, 61, 120]]) [43], Lib.join (sortM [[100, 99, 61, 122]]) [43]] := by kernel_rfl
    unfold txt
    rw [e3, e1, e2]
    decide +kernel
  unfold normM
  rw [h1, if_neg (by simp), h2]
theorem dn_ParseX (h : Heap) : Spec Try.prog 9 [str exS] h [] (fun u h' H' => (∃ v, u = .tuple #[v, .int .i64 0] /\ DnC h' exD v /\ ∃ a b, HSl h' v 1 [[a], [b]]) /\ H' = []) := by
  refine (dn_Parse exS (by decide) h).mono ?_
  rintro u h' H' ⟨hp, rfl⟩ _
  rw [exS_parse] at hp
  obtain ⟨v, rfl, hv⟩ := hp
  refine ⟨⟨v, rfl, hv, ?_⟩, rfl⟩
  obtain ⟨rows, hs, a, r1, rfl, _, b, r2, rfl, _, rfl⟩ := hv
  exact ⟨a, b, hs⟩
theorem dn_ParseY (h : Heap) : Spec Try.prog 9 [str [99, 110, 61, 32, 97]] h [] (fun u _ H' => u = .tuple #[.slice none 0 0, .int .i64 4] /\ H' = []) := by
  refine (dn_Parse _ (by decide) h).mono ?_
  rintro u h' H' ⟨hp, rfl⟩ _
  rw [exU_parse] at hp
  exact ⟨hp, rfl⟩
theorem dn_ParseZ (h : Heap) : Spec Try.prog 9 [str exT] h [] (fun u h' H' => (∃ v a, u = .tuple #[v, .int .i64 0] /\ HSl h' v 1 [[a]] /\ HSl h' a 2 [[str [99, 110], str [32, 97]]]) /\ H' = []) := by
  refine (dn_Parse exT (by decide) h).mono ?_
  rintro u h' H' ⟨hp, rfl⟩ _
  rw [exT_parse] at hp
  obtain ⟨v, rfl, rows, hs, a, r1, rfl, h1, rfl⟩ := hp
  exact ⟨⟨v, a, rfl, hs, h1⟩, rfl⟩
theorem dn_NormX (v : Value) (h : Heap) (hv : DnC h exD v) : Spec Try.prog 18 [v] h [] (fun u _ H' => u = .tuple #[str exK, .int .i64 0] /\ H' = []) := by
  have := dn_Norm exD v (by decide) h hv
  rw [exD_norm] at this
  exact this
set_option maxRecDepth 8000 in
theorem law09_awake (h : Heap) : Spec Try.prog 11 [] h [] (fun u _ H' => u = .bool true /\ H' = []) := by
  refine Spec.enter Try.func11 rfl rfl ?_; intro w0
  repeat' (first | (refine G.atCode ?_; first | refine G.seq ?_ | refine G.region ?_) | refine G.endOps ?_ | refine G.op rfl rfl ?_)
  show G _ (.ops .seq _ (⟨some _, .call { callee := .value (.func 9), args := _, argTypes := _ }, _, _, _, none⟩ :: _) :: _) _ _ _
  refine G.call callParse rfl rfl (dn_ParseX _) Ze ?_
  rintro _ h2 H2 ⟨⟨v1, rfl, hv1, a1, b1, hs1⟩, rfl⟩ hle2
  repeat' (first | (refine G.atCode ?_; first | refine G.seq ?_ | refine G.region ?_) | refine G.endOps ?_ | refine G.op rfl rfl ?_)
  show G _ (.ops .seq _ (⟨some _, .call { callee := .value (.func 18), args := _, argTypes := _ }, _, _, _, none⟩ :: _) :: _) _ _ _
  refine G.call callNorm rfl rfl (dn_NormX v1 _ hv1) Ze ?_
  rintro _ h3 H3 ⟨rfl, rfl⟩ hle3
  repeat' (first | (refine G.atCode ?_; first | refine G.seq ?_ | refine G.region ?_) | refine G.endOps ?_ | refine G.op rfl rfl ?_)
  show G _ (.ops .seq _ (⟨some _, .call { callee := .value (.func 9), args := _, argTypes := _ }, _, _, _, none⟩ :: _) :: _) _ _ _
  refine G.call callParse rfl rfl (dn_ParseY _) Ze ?_
  rintro _ h4 H4 ⟨rfl, rfl⟩ hle4
  repeat' (first | (refine G.atCode ?_; first | refine G.seq ?_ | refine G.region ?_) | refine G.endOps ?_ | refine G.op rfl rfl ?_)
  show G _ (.ops .seq _ (⟨some _, .call { callee := .value (.func 9), args := _, argTypes := _ }, _, _, _, none⟩ :: _) :: _) _ _ _
  refine G.call callParse rfl rfl (dn_ParseZ _) Ze ?_
  rintro _ h5 H5 ⟨⟨v2, a2, rfl, hs2, hs3⟩, rfl⟩ hle5
  have hs1 := hs1.mono (Heap.le_trans hle3 (Heap.le_trans hle4 hle5))
  repeat' (first | (refine G.atIdx ?_; refine G.idxImm rfl rfl (tyy rfl) (tyy rfl) hs2 Zj rfl (by simp) ?_; intro p1 r1 hx1 hp1; (obtain rfl := Option.some.inj hx1)) | (refine G.atIdx ?_; refine G.idxImm rfl rfl (tyy rfl) (tyy rfl) hs3 Zj rfl (by simp) ?_; intro p2 r2 hx2 hp2; (obtain rfl := Option.some.inj hx2)) | (refine G.atLoad ?_; refine G.loadImmAt1 rfl (tyy rfl) rfl rfl Zp rfl rfl ?_) | (refine G.atCode ?_; first | refine G.seq ?_ | refine G.region ?_ | refine G.ret ?_) | refine G.endOps ?_ | (refine G.atGd ?_; first | refine G.guardYes rfl rfl ?_) | (refine G.atBin ?_; first | (refine G.atEql ?_; first | refine G.op rfl rfl ?_ | refine G.eqStr rfl rfl rfl ?_)) | refine G.op rfl rfl ?_ | (refine G.atLen ?_; first | refine G.lenImm rfl (tyy rfl) Zl rfl ?_) | (refine G.atLoad ?_; first | refine G.loadImm1 rfl (tyy rfl) rfl rfl Zp rfl ?_) | (refine G.atFld ?_; first | refine G.fieldAddrP rfl (tyy rfl) rfl rfl ?_))
  all_goals first | exact G.done1 rfl rfl _ (SubH.nil _) ⟨rfl, rfl⟩
set_option maxRecDepth 8000 in
theorem law_DnParses (s : List UInt8) (hs : s.length <= 10000000) (h : Heap) : Spec Try.prog 3 [str s] h [] (fun u _ _ => u = .bool true) := by
  refine Spec.enter Try.func3 rfl rfl ?_; intro w0
  repeat' (first | (refine G.atCode ?_; first | refine G.seq ?_ | refine G.region ?_) | refine G.endOps ?_ | refine G.op rfl rfl ?_)
  show G _ (.ops .seq _ (⟨some _, .call { callee := .value (.func 9), args := _, argTypes := _ }, _, _, _, none⟩ :: _) :: _) _ _ _
  refine G.call callParse rfl rfl (dn_Parse s hs _) Ze ?_
  rintro _ h2 H2 ⟨hp1, rfl⟩ hle2
  cases hm : parseM s with
  | error e =>
    rw [hm] at hp1
    obtain rfl := hp1
    repeat' (first | (refine G.atCode ?_; first | refine G.seq ?_ | refine G.region ?_) | refine G.endOps ?_ | refine G.op rfl rfl ?_)
    show G _ (.ops .seq _ (⟨some _, .call { callee := .value (.func 10), args := _, argTypes := _ }, _, _, _, none⟩ :: _) :: _) _ _ _
    refine G.call callRParse rfl rfl (ref09_Parse s hs _) Ze ?_
    rintro _ h3 H3 ⟨hp2, rfl⟩ hle3
    rw [hm] at hp2
    obtain rfl := hp2
    repeat' (first | (show G _ (.ops .seq _ (⟨some _, .call { callee := .value (.func 11), args := _, argTypes := _ }, _, _, _, none⟩ :: _) :: _) _ _ _; refine G.call callAwake9 rfl rfl (law09_awake _) Ze ?_; rintro _ h4 H4 ⟨rfl, rfl⟩ hle4) | (show G _ (.ops .seq _ (⟨some _, .call { callee := .value (.func 12), args := _, argTypes := _ }, _, _, _, none⟩ :: _) :: _) _ _ _; refine G.call callSame9 rfl rfl (ref09_Same [] (.slice none 0 0) (.slice none 0 0) _ (DnC.nil _) (DnC.nil _)) Ze ?_; rintro _ h5 H5 ⟨rfl, rfl⟩ hle5) | (show G _ (.ops .seq _ (⟨some _, .call { callee := .value (.func 13), args := _, argTypes := _ }, _, _, _, none⟩ :: _) :: _) _ _ _; refine G.call callType9 rfl rfl (dn_Type s _) Ze ?_; rintro _ h6 H6 ⟨rfl, rfl⟩ hle6) | (show G _ (.ops .seq _ (⟨some _, .call { callee := .value (.func 14), args := _, argTypes := _ }, _, _, _, none⟩ :: _) :: _) _ _ _; refine G.call callRType9 rfl rfl (ref09_Type s (by omega) _) Ze ?_; rintro _ h7 H7 ⟨rfl, rfl⟩ hle7) | (refine G.atCode ?_; first | refine G.seq ?_ | refine G.region ?_ | refine G.ret ?_) | refine G.endOps ?_ | (refine G.atGd ?_; first | refine G.guardYes rfl rfl ?_ | (refine G.guardS rfl rfl rfl ?_ ?_ <;> intro hc <;> (try simp only [tests, reduceCtorEq] at hc) <;> (try exact Zf))) | (refine G.atBin ?_; first | (refine G.atEql ?_; first | refine G.op rfl rfl ?_ | refine G.eqBool rfl rfl (tyy rfl) rfl ?_)) | refine G.op rfl rfl ?_)
    all_goals first | (exfalso; omega) | exact G.done1 rfl rfl [] (SubH.nil _) (by solve | simp) | (exfalso; simp_all)
  | ok d =>
    rw [hm] at hp1
    obtain ⟨v1, rfl, hv1⟩ := hp1
    repeat' (first | (refine G.atCode ?_; first | refine G.seq ?_ | refine G.region ?_) | refine G.endOps ?_ | refine G.op rfl rfl ?_)
    show G _ (.ops .seq _ (⟨some _, .call { callee := .value (.func 10), args := _, argTypes := _ }, _, _, _, none⟩ :: _) :: _) _ _ _
    refine G.call callRParse rfl rfl (ref09_Parse s hs _) Ze ?_
    rintro _ h3 H3 ⟨hp2, rfl⟩ hle3
    rw [hm] at hp2
    obtain ⟨v2, rfl, hv2⟩ := hp2
    have hv1 := hv1.mono hle3
    repeat' (first | (show G _ (.ops .seq _ (⟨some _, .call { callee := .value (.func 11), args := _, argTypes := _ }, _, _, _, none⟩ :: _) :: _) _ _ _; refine G.call callAwake9 rfl rfl (law09_awake _) Ze ?_; rintro _ h4 H4 ⟨rfl, rfl⟩ hle4) | (show G _ (.ops .seq _ (⟨some _, .call { callee := .value (.func 12), args := _, argTypes := _ }, _, _, _, none⟩ :: _) :: _) _ _ _; refine G.call callSame9 rfl rfl (ref09_Same d v1 v2 _ (hv1.mono (by solve | repeat first | assumption | exact Zr _ | refine Zq ?_ Zp)) (hv2.mono (by solve | repeat first | assumption | exact Zr _ | refine Zq ?_ Zp))) Ze ?_; rintro _ h5 H5 ⟨rfl, rfl⟩ hle5) | (show G _ (.ops .seq _ (⟨some _, .call { callee := .value (.func 13), args := _, argTypes := _ }, _, _, _, none⟩ :: _) :: _) _ _ _; refine G.call callType9 rfl rfl (dn_Type s _) Ze ?_; rintro _ h6 H6 ⟨rfl, rfl⟩ hle6) | (show G _ (.ops .seq _ (⟨some _, .call { callee := .value (.func 14), args := _, argTypes := _ }, _, _, _, none⟩ :: _) :: _) _ _ _; refine G.call callRType9 rfl rfl (ref09_Type s (by omega) _) Ze ?_; rintro _ h7 H7 ⟨rfl, rfl⟩ hle7) | (refine G.atCode ?_; first | refine G.seq ?_ | refine G.region ?_ | refine G.ret ?_) | refine G.endOps ?_ | (refine G.atGd ?_; first | refine G.guardYes rfl rfl ?_) | (refine G.atBin ?_; first | (refine G.atEql ?_; first | refine G.op rfl rfl ?_ | refine G.eqBool rfl rfl (tyy rfl) rfl ?_)) | refine G.op rfl rfl ?_)
    all_goals first | (exfalso; omega) | exact G.done1 rfl rfl [] (SubH.nil _) (by solve | simp) | (exfalso; simp_all)
end Go.Proofs.Ytahpemfnhepgoaa
