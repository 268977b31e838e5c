/- The chapter's names, what is small, the book that is none. -/
import Derived.Test.YtieibicgankemaaGreatAcD
import Derived.Test.YtieibicgankemaaGreatAcE
import Derived.KernelRfl
namespace Go.Proofs.YtieibicgankemaaGreat
set_option linter.all false
set_option maxRecDepth 4000
open Go.RowKit

theorem callName22 : Callable Tryz.prog 21 := ⟨_, Tryz.func21, by kernel_rfl, rfl⟩
theorem callAwake22 : Callable Tryz.prog 8 := ⟨_, Tryz.func8, by kernel_rfl, rfl⟩
theorem callSmall22 : Callable Tryz.prog 6 := ⟨_, Tryz.func6, by kernel_rfl, rfl⟩
theorem callSmall16 : Callable Tryz.prog 20 := ⟨_, Tryz.func20, by kernel_rfl, rfl⟩
theorem callFew14 : Callable Tryz.prog 7 := ⟨_, Tryz.func7, by kernel_rfl, rfl⟩
theorem callAllA : Callable Tryz.prog 14 := ⟨_, Tryz.func14, by kernel_rfl, rfl⟩
theorem callSeenA : Callable Tryz.prog 10 := ⟨_, Tryz.func10, by kernel_rfl, rfl⟩
def nmD (s : List UInt8) : Dn := [[([99, 110], s)], [([100, 99], [122])]]
theorem nmD_len (s : List UInt8) : (nmD s).length = 2 := rfl
theorem law22_name (s : List UInt8) (h : Heap) : Spec Tryz.prog 21 [str s] h [] (fun u h' H' => (∃ v, u = v /\ DnC h' (nmD s) v) /\ H' = []) := by
  refine Spec.enter Tryz.func21 rfl rfl ?_; intro w0
  repeat' (first | (refine G.atCode ?_; first | refine G.seq ?_ | refine G.region ?_ | refine G.ret ?_) | refine G.endOps ?_ | refine G.op rfl rfl ?_ | (refine G.atBld ?_; refine G.build (tyy rfl) rfl rfl rfl ?_) | (refine G.atBsl ?_; refine G.buildSlice (tyy rfl) (tyy rfl) rfl rfl rfl rfl ?_; intro _))
  rename_i g1 g2 g3
  refine G.freezeBlk (g := g1) Za ?_
  intro h1 hle1 hc1
  refine G.freezeBlk (g := g2) Za ?_
  intro h2 hle2 hc2
  refine G.freezeBlk (g := g3) Za ?_
  intro h3 hle3 hc3
  have k1 : HSl h3 (.slice (some ⟨g1, 0, none⟩) 1 1) 2 (avaR [([99, 110], s)]) := HSl.ofBlk1 (rows := avaR [([99, 110], s)]) (n := 1) (hc1.mono (by solve | repeat first | assumption | exact Zr _ | refine Zq ?_ Zp)) (avaR_rowed _) rfl (by decide)
  have k2 : HSl h3 (.slice (some ⟨g2, 0, none⟩) 1 1) 2 (avaR [([100, 99], [122])]) := HSl.ofBlk1 (rows := avaR [([100, 99], [122])]) (n := 1) (hc2.mono (by solve | repeat first | assumption | exact Zr _ | refine Zq ?_ Zp)) (avaR_rowed _) rfl (by decide)
  have k3 : HSl h3 (.slice (some ⟨g3, 0, none⟩) 2 2) 1 [[.slice (some ⟨g1, 0, none⟩) 1 1], [.slice (some ⟨g2, 0, none⟩) 1 1]] := HSl.ofBlk1 (rows := [[.slice (some ⟨g1, 0, none⟩) 1 1], [.slice (some ⟨g2, 0, none⟩) 1 1]]) (n := 2) hc3 (by intro r hr; simp at hr; rcases hr with rfl | rfl <;> rfl) rfl (by decide)
  exact G.done1 rfl rfl [] (SubH.nil _) ⟨⟨_, rfl, _, k3, _, _, rfl, k1, _, _, rfl, k2, rfl⟩, rfl⟩
theorem law14_FewNil (h : Heap) : Spec Tryz.prog 7 [.slice none 0 0] h [] (fun u _ H' => (∃ b, u = .bool b) /\ H' = []) := by
  refine Spec.enter Tryz.func7 rfl rfl ?_; intro w0
  repeat' (first | (refine G.atCode ?_; refine G.stopLoop ?_) | (refine G.atCode ?_; first | refine G.seq ?_ | refine G.region ?_ | refine G.block ?_) | refine G.endOps ?_ | refine G.op rfl rfl ?_ | (refine G.atLen ?_; first | refine G.lenSlice rfl (tyy rfl) rfl ?_))
  refine G.go ?_
  refine G.loop (σ := Nat) (fun i => [(9, .int .i64 0), (8, .int .i64 0), (7, .slice none 0 0), (0, .slice none 0 0)])
    (fun _ => []) (fun i _ => True) (fun i => i) 0 ⟨rfl, rfl, rfl, rfl, trivial⟩ (SubH.nil _) trivial ?_
  rintro i h6 hle6 _
  repeat' (first | (refine G.atCode ?_; first | refine G.seq ?_ | refine G.region ?_ | refine G.exit rfl ?_ | refine G.ret ?_ | (refine G.cond rfl ?_ ?_ <;> intro hc <;> (try simp only [tests, reduceCtorEq] at hc) <;> (try exact Zf))) | refine G.endOps ?_ | (refine G.atBin ?_; first | refine G.op rfl rfl ?_) | refine G.op rfl rfl ?_)
  all_goals first | (exfalso; omega) | exact G.done1 rfl rfl [] (SubH.nil _) ⟨⟨_, rfl⟩, rfl⟩ | skip
set_option maxHeartbeats 2000000 in
theorem law16_SmallOf (a b : Dn) (v1 v2 : Value) (h : Heap) (hv1 : DnC h a v1) (hv2 : DnC h b v2) : Spec Tryz.prog 20 [.agg #[.int .i64 0, v1, v2, .slice none 0 0]] h [] (fun u _ H' => (∃ b, u = .bool b) /\ H' = []) := by
  obtain ⟨A1, c1, rfl, _, _⟩ := hv1.form
  obtain ⟨A2, c2, rfl, _, _⟩ := hv2.form
  refine Spec.enter Tryz.func20 rfl rfl ?_; intro w0
  repeat' (first | (refine G.atCode ?_; refine G.stopLoop ?_) | (refine G.atCode ?_; first | refine G.seq ?_ | refine G.region ?_ | refine G.block ?_) | refine G.endOps ?_ | refine G.op rfl rfl ?_ | (refine G.atLen ?_; first | refine G.lenSlice rfl (tyy rfl) rfl ?_) | (refine G.atLoad ?_; first | refine G.loadOwn1 rfl (tyy rfl) rfl rfl Za rfl rfl ?_) | (refine G.atFld ?_; first | refine G.fieldAddr rfl (tyy rfl) rfl rfl ?_) | (refine G.atBox ?_; refine G.box rfl rfl rfl ?_; intro _) | (refine G.atBsl ?_; refine G.buildSlice (tyy rfl) (tyy rfl) rfl rfl rfl rfl ?_; intro _))
  rename_i gU gN
  refine G.go ?_
  refine G.freezeBlk (g := gN) Za ?_
  intro hF hleF hcF
  have hN : HSl hF (.slice (some ⟨gN, 0, none⟩) 2 2) 1 [[.slice A1 a.length c1], [.slice A2 b.length c2]] := HSl.ofBlk1 (rows := [[.slice A1 a.length c1], [.slice A2 b.length c2]]) (n := 2) hcF (by intro r hr; simp at hr; rcases hr with rfl | rfl <;> rfl) rfl (by decide)
  refine G.loop (σ := Nat) (fun i => [(15, .int .i64 i), (14, .int .i64 2), (13, .slice (some ⟨gN, 0, none⟩) 2 2), (1, .pointer (some ⟨gU, 0, none⟩))])
    (fun _ => [.blk gU [.int .i64 0, .slice A1 a.length c1, .slice A2 b.length c2, .slice none 0 0] 70]) (fun i _ => i <= 2) (fun i => 2 - i) 0 ⟨rfl, rfl, rfl, rfl, trivial⟩ Zu (Nat.zero_le _) ?_
  rintro i h6 hle6 hi
  by_cases hlt : i < 2
  . obtain ⟨d, Ad, cd, hget, hd, hm⟩ : ∃ (d : Dn) (Ad : Option Addr) (cd : Nat), [[Value.slice A1 a.length c1], [Value.slice A2 b.length c2]][i]? = some [.slice Ad d.length cd] /\ DnC h d (.slice Ad d.length cd) /\ d.length <= 9223372036854775807 := by
      match i, hlt with
      | 0, _ => exact ⟨a, A1, c1, rfl, hv1, by omega⟩
      | 1, _ => exact ⟨b, A2, c2, rfl, hv2, by omega⟩
    repeat' (first | (refine G.atIdx ?_; refine G.idxImm rfl rfl (tyy rfl) (tyy rfl) (hN.mono (by solve | repeat first | assumption | exact Zr _ | refine Zq ?_ Zp)) Zj rfl (by simp only [List.length_cons, List.length_nil]; omega) ?_; intro pp rr hx9 hp9; (rw [hget] at hx9); (obtain rfl := Option.some.inj hx9)) | (refine G.atCode ?_; refine G.stopLoop ?_) | (refine G.atCode ?_; first | refine G.seq ?_ | refine G.region ?_ | refine G.block ?_ | refine G.skip ?_ | refine G.ret ?_ | (refine G.cond rfl ?_ ?_ <;> intro hc <;> (try simp only [tests, reduceCtorEq] at hc) <;> (try exact Zf))) | refine G.endOps ?_ | (refine G.atBin ?_; first | refine G.op rfl rfl ?_) | refine G.op rfl rfl ?_ | (refine G.atLen ?_; first | refine G.lenSlice rfl (tyy rfl) rfl ?_) | (refine G.atLoad ?_; first | refine G.loadImm1 rfl (tyy rfl) rfl rfl Zp rfl ?_))
    all_goals first | (exfalso; omega) | exact G.done1 rfl rfl [] (SubH.nil _) ⟨⟨_, rfl⟩, rfl⟩ | skip
    refine G.go ?_
    obtain ⟨rowsd, hds, hdr⟩ := hd
    have hdl := hdr.len
    refine G.loop (σ := Nat) (fun j => [(24, .int .i64 j), (23, .int .i64 d.length), (22, .slice Ad d.length cd), (15, .int .i64 i), (14, .int .i64 2), (13, .slice (some ⟨gN, 0, none⟩) 2 2), (1, .pointer (some ⟨gU, 0, none⟩))])
      (fun _ => [.blk gU [.int .i64 0, .slice A1 a.length c1, .slice A2 b.length c2, .slice none 0 0] 70]) (fun j _ => j <= d.length) (fun j => d.length - j) 0 ⟨rfl, rfl, rfl, rfl, rfl, rfl, rfl, trivial⟩ Zu (Nat.zero_le _) ?_
    rintro j h7 hle7 hj
    by_cases hjt : j < d.length
    . obtain ⟨r, hr⟩ : ∃ r, d[j]? = some r := ⟨d[j], List.getElem?_eq_getElem hjt⟩
      obtain ⟨rv, hget2, hrv⟩ := hdr.get hr
      have hral := avaR_length r
      have hrm := hrv.len
      rw [hral] at hrm
      obtain ⟨Ar, cr, rfl, _⟩ := hrv.form
      rw [hral] at *
      have hral := avaR_length r
      repeat' (first | (refine G.atIdx ?_; refine G.idxImm rfl rfl (tyy rfl) (tyy rfl) (hds.mono (by solve | repeat first | assumption | exact Zr _ | refine Zq ?_ Zp)) Zj rfl (by rw [hdl]; omega) ?_; intro pp rr hx9 hp9; (rw [hget2] at hx9); (obtain rfl := Option.some.inj hx9)) | (refine G.atCode ?_; refine G.stopLoop ?_) | (refine G.atCode ?_; first | refine G.seq ?_ | refine G.region ?_ | refine G.block ?_ | refine G.skip ?_ | (refine G.cond rfl ?_ ?_ <;> intro hc <;> (try simp only [tests, reduceCtorEq] at hc) <;> (try exact Zf))) | refine G.endOps ?_ | (refine G.atBin ?_; first | refine G.op rfl rfl ?_) | refine G.op rfl rfl ?_ | (refine G.atLen ?_; first | refine G.lenSlice rfl (tyy rfl) rfl ?_) | (refine G.atLoad ?_; first | refine G.loadImm1 rfl (tyy rfl) rfl rfl Zp rfl ?_))
      all_goals first | (exfalso; omega) | exact G.done1 rfl rfl [] (SubH.nil _) ⟨⟨_, rfl⟩, rfl⟩ | skip
      refine G.go ?_
      refine G.loop (σ := Nat) (fun k => [(30, .int .i64 k), (29, .int .i64 r.length), (28, .slice Ar r.length cr), (6, .slice Ar r.length cr), (24, .int .i64 j), (23, .int .i64 d.length), (22, .slice Ad d.length cd), (15, .int .i64 i), (14, .int .i64 2), (13, .slice (some ⟨gN, 0, none⟩) 2 2), (1, .pointer (some ⟨gU, 0, none⟩))])
        (fun _ => [.blk gU [.int .i64 0, .slice A1 a.length c1, .slice A2 b.length c2, .slice none 0 0] 70]) (fun k _ => k <= r.length) (fun k => r.length - k) 0 ⟨rfl, rfl, rfl, rfl, rfl, rfl, rfl, rfl, rfl, rfl, rfl, trivial⟩ Zu (Nat.zero_le _) ?_
      rintro k h8 hle8 hk
      by_cases hkt : k < r.length
      . obtain ⟨⟨ty, vl⟩, ha⟩ : ∃ a, r[k]? = some a := ⟨r[k], List.getElem?_eq_getElem hkt⟩
        have hget3 := avaR_get ha
        simp only at hget3
        have hl2 : ([str ty, str vl] : List Value).length = 2 := rfl
        repeat' (first | (refine G.atIdx ?_; refine G.idxImm rfl rfl (tyy rfl) (tyy rfl) (hrv.mono (by solve | repeat first | assumption | exact Zr _ | refine Zq ?_ Zp)) Zj rfl (by rw [hral]; omega) ?_; intro pp rr hx9 hp9; (rw [hget3] at hx9); (obtain rfl := Option.some.inj hx9)) | (refine G.atCode ?_; first | refine G.seq ?_ | refine G.region ?_ | refine G.block ?_ | refine G.skip ?_ | refine G.ret ?_ | (refine G.cond rfl ?_ ?_ <;> intro hc <;> (try simp only [tests, reduceCtorEq] at hc) <;> (try exact Zf))) | refine G.endOps ?_ | refine G.endBlk ?_ | (refine G.atGd ?_; first | refine G.guardYes rfl rfl ?_ | refine G.guardNoS rfl rfl rfl ?_ | (refine G.guardS rfl rfl rfl ?_ ?_ <;> intro hc <;> (try simp only [tests, reduceCtorEq] at hc) <;> (try exact Zf))) | (refine G.atBin ?_; first | (refine G.atAdd ?_; first | refine G.arith rfl rfl rfl rfl rfl Zi ?_) | refine G.op rfl rfl ?_) | refine G.op rfl rfl ?_ | (refine G.atLen ?_; first | refine G.lenStr rfl (tyy rfl) rfl ?_ | refine G.lenSlice rfl (tyy rfl) rfl ?_) | (refine G.atLoad ?_; first | refine G.loadOwn1 rfl (tyy rfl) rfl rfl Za rfl rfl ?_ | refine G.loadImmA rfl (tyy rfl) rfl rfl Zp Zp rfl ?_) | (refine G.atFld ?_; first | refine G.fieldAddr rfl (tyy rfl) rfl rfl ?_) | (refine G.atSto ?_; refine G.storeOwn rfl rfl (tyy rfl) Za rfl rfl rfl rfl ?_) | (refine G.atAlc ?_; refine G.alloc (tyy rfl) rfl rfl ?_; intro _))
        all_goals first | (exfalso; omega) | exact G.done1 rfl rfl [] (SubH.nil _) ⟨⟨_, rfl⟩, rfl⟩ | exact G.again (k + 1) ⟨sint (by omega), rfl, rfl, rfl, rfl, rfl, rfl, rfl, rfl, rfl, rfl, trivial⟩ Zu (by omega) (by solve | repeat first | assumption | exact Zr _ | refine Zq ?_ Zp) (by omega) | skip
      . obtain rfl : k = r.length := by omega
        repeat' (first | (refine G.atCode ?_; first | refine G.seq ?_ | refine G.region ?_ | refine G.exit rfl ?_ | (refine G.cond rfl ?_ ?_ <;> intro hc <;> (try simp only [tests, reduceCtorEq] at hc) <;> (try exact Zf))) | refine G.endOps ?_ | refine G.endBlk ?_ | (refine G.atBin ?_; first | (refine G.atAdd ?_; first | refine G.arith rfl rfl rfl rfl rfl Zi ?_) | refine G.op rfl rfl ?_) | refine G.op rfl rfl ?_)
        all_goals first | (exfalso; omega) | exact G.again (j + 1) ⟨sint (by omega), rfl, rfl, rfl, rfl, rfl, rfl, trivial⟩ Zu (by omega) (by solve | repeat first | assumption | exact Zr _ | refine Zq ?_ Zp) (by omega) | skip
    . obtain rfl : j = d.length := by omega
      repeat' (first | (refine G.atCode ?_; first | refine G.seq ?_ | refine G.region ?_ | refine G.exit rfl ?_ | (refine G.cond rfl ?_ ?_ <;> intro hc <;> (try simp only [tests, reduceCtorEq] at hc) <;> (try exact Zf))) | refine G.endOps ?_ | refine G.endBlk ?_ | (refine G.atBin ?_; first | (refine G.atAdd ?_; first | refine G.arith rfl rfl rfl rfl rfl Zi ?_) | refine G.op rfl rfl ?_) | refine G.op rfl rfl ?_)
      all_goals first | (exfalso; omega) | exact G.again (i + 1) ⟨sint (by omega), rfl, rfl, rfl, trivial⟩ Zu (by omega) (by solve | repeat first | assumption | exact Zr _ | refine Zq ?_ Zp) (by omega) | skip
  . obtain rfl : i = 2 := by omega
    repeat' (first | (show G _ (.ops .seq _ (⟨some _, .call { callee := .value (.func 7), args := _, argTypes := _ }, _, _, _, none⟩ :: _) :: _) _ _ _; refine G.call callFew14 rfl rfl (law14_FewNil _) Ze ?_; rintro _ h9 H9 ⟨⟨b9, rfl⟩, rfl⟩ hle9) | (refine G.atCode ?_; first | refine G.seq ?_ | refine G.region ?_ | refine G.exit rfl ?_ | refine G.ret ?_ | (refine G.cond rfl ?_ ?_ <;> intro hc <;> (try simp only [tests, reduceCtorEq] at hc) <;> (try exact Zf))) | refine G.endOps ?_ | (refine G.atBin ?_; first | refine G.op rfl rfl ?_) | refine G.op rfl rfl ?_ | (refine G.atLoad ?_; first | refine G.loadOwn1 rfl (tyy rfl) rfl rfl Za rfl rfl ?_) | (refine G.atFld ?_; first | refine G.fieldAddr rfl (tyy rfl) rfl rfl ?_))
    all_goals first | (exfalso; omega) | exact G.done1 rfl rfl [] (SubH.nil _) ⟨⟨_, rfl⟩, rfl⟩
set_option maxHeartbeats 2000000 in
theorem law22_small (a b c : Dn) (rs : List Rl) (attr : List UInt8) (right : Int) (v1 v2 v3 vR : Value) (h : Heap) (hv1 : DnC h a v1) (hv2 : DnC h b v2) (hv3 : DnC h c v3) (hR : HSl h vR 6 (rlR rs)) (hrb : RlB rs) : Spec Tryz.prog 6 [.agg #[v1, v2, v3, vR, str attr, .int .i64 right]] h [] (fun u _ H' => (∃ b, u = .bool b) /\ H' = []) := by
  obtain ⟨A1, c1, rfl, _, _⟩ := hv1.form
  obtain ⟨A2, c2, rfl, _, _⟩ := hv2.form
  obtain ⟨A3, c3, rfl, _, _⟩ := hv3.form
  have hrl := hR.len
  obtain ⟨AR, cR, rfl, _⟩ := hR.form
  rw [rlR_length] at *
  have s1 := law16_SmallOf a b (.slice A1 a.length c1) (.slice A2 b.length c2)
  have s2 := law16_SmallOf c [] (.slice A3 c.length c3) (.slice none 0 0)
  refine Spec.enter Tryz.func6 rfl rfl ?_; intro w0
  repeat' (first | (refine G.atCode ?_; refine G.stopLoop ?_) | (refine G.atCode ?_; first | refine G.seq ?_ | refine G.region ?_ | refine G.block ?_) | refine G.endOps ?_ | refine G.op rfl rfl ?_ | (refine G.atLen ?_; first | refine G.lenSlice rfl (tyy rfl) rfl ?_) | (refine G.atLoad ?_; first | refine G.loadOwn1 rfl (tyy rfl) rfl rfl Za rfl rfl ?_) | (refine G.atFld ?_; first | refine G.fieldAddr rfl (tyy rfl) rfl rfl ?_) | (refine G.atBox ?_; refine G.box rfl rfl rfl ?_; intro _))
  rename_i gU
  refine G.go ?_
  refine G.loop (σ := Nat) (fun i => [(8, .int .i64 i), (7, .int .i64 rs.length), (6, .slice AR rs.length cR), (1, .pointer (some ⟨gU, 0, none⟩))])
    (fun _ => [.blk gU [.slice A1 a.length c1, .slice A2 b.length c2, .slice A3 c.length c3, .slice AR rs.length cR, str attr, .int .i64 right] 26]) (fun i _ => i <= rs.length) (fun i => rs.length - i) 0 ⟨rfl, sint (by simp), rfl, rfl, trivial⟩ Zu (Nat.zero_le _) ?_
  rintro i h6 hle6 hi
  by_cases hlt : i < rs.length
  . obtain ⟨r, hr⟩ : ∃ r, rs[i]? = some r := ⟨rs[i], List.getElem?_eq_getElem hlt⟩
    have hget := rlR_get hr
    have hl6 : ([.int .i64 r.who, str r.dn, str r.wh, str r.attr, .int .i64 r.rights, .bool r.allow] : List Value).length = 6 := rfl
    obtain ⟨b1, b2, b3⟩ := hrb.2 r (List.mem_of_getElem? hr)
    repeat' (first | (refine G.atIdx ?_; refine G.idxImm rfl rfl (tyy rfl) (tyy rfl) (hR.mono (by solve | repeat first | assumption | exact Zr _ | refine Zq ?_ Zp)) Zj rfl (by rw [rlR_length]; omega) ?_; intro pp rr hx9 hp9; (rw [hget] at hx9); (obtain rfl := Option.some.inj hx9)) | (refine G.atCode ?_; first | refine G.seq ?_ | refine G.region ?_ | refine G.block ?_ | refine G.skip ?_ | refine G.ret ?_ | (refine G.cond rfl ?_ ?_ <;> intro hc <;> (try simp only [tests, reduceCtorEq] at hc) <;> (try exact Zf))) | refine G.endOps ?_ | refine G.endBlk ?_ | (refine G.atGd ?_; first | refine G.guardYes rfl rfl ?_ | refine G.guardNoS rfl rfl rfl ?_ | (refine G.guardS rfl rfl rfl ?_ ?_ <;> intro hc <;> (try simp only [tests, reduceCtorEq] at hc) <;> (try exact Zf))) | (refine G.atBin ?_; first | (refine G.atAdd ?_; first | refine G.arith rfl rfl rfl rfl rfl Zi ?_) | refine G.op rfl rfl ?_) | refine G.op rfl rfl ?_ | (refine G.atLen ?_; first | refine G.lenStr rfl (tyy rfl) rfl ?_ | refine G.lenSlice rfl (tyy rfl) rfl ?_) | (refine G.atLoad ?_; first | refine G.loadOwn1 rfl (tyy rfl) rfl rfl Za rfl rfl ?_ | refine G.loadImmA rfl (tyy rfl) rfl rfl Zp Zp rfl ?_) | (refine G.atFld ?_; first | refine G.fieldAddr rfl (tyy rfl) rfl rfl ?_) | (refine G.atSto ?_; refine G.storeOwn rfl rfl (tyy rfl) Za rfl rfl rfl rfl ?_) | (refine G.atAlc ?_; refine G.alloc (tyy rfl) rfl rfl ?_; intro _))
    all_goals first | (exfalso; omega) | exact G.done1 rfl rfl [] (SubH.nil _) ⟨⟨_, rfl⟩, rfl⟩ | exact G.again (i + 1) ⟨sint (by omega), rfl, rfl, rfl, trivial⟩ Zu (by omega) (by solve | repeat first | assumption | exact Zr _ | refine Zq ?_ Zp) (by omega) | skip
  . obtain rfl : i = rs.length := by omega
    repeat' (first | (show G _ (.ops .seq _ (⟨some _, .call { callee := .value (.func 20), args := _, argTypes := _ }, _, _, _, none⟩ :: _) :: _) _ _ _; refine G.call callSmall16 rfl rfl (s1 _ (hv1.mono (by solve | repeat first | assumption | exact Zr _ | refine Zq ?_ Zp)) (hv2.mono (by solve | repeat first | assumption | exact Zr _ | refine Zq ?_ Zp))) Ze ?_; rintro _ h9 H9 ⟨⟨b9, rfl⟩, rfl⟩ hle9) | (show G _ (.ops .seq _ (⟨some _, .call { callee := .value (.func 20), args := _, argTypes := _ }, _, _, _, none⟩ :: _) :: _) _ _ _; refine G.call callSmall16 rfl rfl (s2 _ (hv3.mono (by solve | repeat first | assumption | exact Zr _ | refine Zq ?_ Zp)) (DnC.nil _)) Ze ?_; rintro _ h8 H8 ⟨⟨b8, rfl⟩, rfl⟩ hle8) | (refine G.atCode ?_; first | refine G.seq ?_ | refine G.region ?_ | refine G.exit rfl ?_ | refine G.ret ?_ | (refine G.cond rfl ?_ ?_ <;> intro hc <;> (try simp only [tests, reduceCtorEq] at hc) <;> (try exact Zf))) | refine G.endOps ?_ | (refine G.atGd ?_; first | refine G.guardYes rfl rfl ?_ | refine G.guardNoS rfl rfl rfl ?_ | (refine G.guardS rfl rfl rfl ?_ ?_ <;> intro hc <;> (try simp only [tests, reduceCtorEq] at hc) <;> (try exact Zf))) | (refine G.atBin ?_; first | refine G.op rfl rfl ?_) | refine G.op rfl rfl ?_ | (refine G.atLoad ?_; first | refine G.loadOwn1 rfl (tyy rfl) rfl rfl Za rfl rfl ?_) | (refine G.atFld ?_; first | refine G.fieldAddr rfl (tyy rfl) rfl rfl ?_) | (refine G.atBld ?_; refine G.build (tyy rfl) rfl rfl rfl ?_))
    all_goals first | (exfalso; omega) | exact G.done1 rfl rfl [] (SubH.nil _) ⟨⟨_, rfl⟩, rfl⟩
theorem G.blkRowS {E : Env} {k : List It} {f : Fr} {h : Heap} {H Hr : List Chunk} {g : Nat} {e : TypeId} {s : List UInt8} (t : Take (.blk g [str s] e) H Hr) (n : G E k f h (.row (.slice (some ⟨g, 0, none⟩) 1 1) e 1 (strsR [s]) :: Hr)) : G E k f h H :=
  ⟨fun ac w hac hw => n.run ac w hac (hw.swapRow t rfl (rowed_strs _) rfl (by decide))⟩
end Go.Proofs.YtieibicgankemaaGreat
