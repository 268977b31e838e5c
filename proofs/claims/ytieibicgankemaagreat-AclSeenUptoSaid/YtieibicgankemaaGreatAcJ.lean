/- Attributes: a name and its values; law14.Few, castellanref14's Twin and Same. -/
import Derived.Test.YtieibicgankemaaGreatLtV
import Derived.Test.YtieibicgankemaaGreatLib
import Derived.Test.YtieibicgankemaaGreatTy
namespace Go.Proofs.YtieibicgankemaaGreat
set_option linter.all false
set_option maxRecDepth 4000
open Go.RowKit

abbrev Atr := List UInt8 × List (List UInt8)
def AtrC (h : Heap) (a : Atr) (r : List Value) : Prop := ∃ v, r = [str a.1, v] /\ HSl h v 1 (strsR a.2)
theorem AtrC.mono {h h' : Heap} (hl : Heap.le h h') {a : Atr} {r : List Value} : AtrC h a r -> AtrC h' a r
  | ⟨v, e, h1⟩ => ⟨v, e, h1.mono hl⟩
abbrev AtrsC (h : Heap) (l : List Atr) (v : Value) : Prop := SC AtrC 2 h l v
theorem AtrsC.mono {h h' : Heap} (hl : Heap.le h h') {l : List Atr} {v : Value} (s : AtrsC h l v) : AtrsC h' l v := SC.mono (fun x => x.mono hl) hl s
def AtrB (l : List Atr) : Prop := l.length <= 10000000 /\ ∀ a ∈ l, a.1.length <= 10000000 /\ a.2.length <= 10000000
theorem callFew14' : Callable Tryz.prog 7 := ⟨_, Tryz.func7, by kernel_rfl, rfl⟩
theorem callTwin14 : Callable Tryz.prog 9 := ⟨_, Tryz.func9, by kernel_rfl, rfl⟩
theorem callSame14 : Callable Tryz.prog 12 := ⟨_, Tryz.func12, by kernel_rfl, rfl⟩
set_option maxHeartbeats 2000000 in
theorem law14_Few (l : List Atr) (v : Value) (hb : AtrB l) (h : Heap) (hv : AtrsC h l v) : Spec Tryz.prog 7 [v] h [] (fun u _ H' => (∃ b, u = .bool b) /\ H' = []) := by
  obtain ⟨Av, cv, rfl, _, hm⟩ := hv.form
  obtain ⟨rows, hs, hrows⟩ := hv
  have hrl := hrows.len
  refine Spec.enter Tryz.func7 rfl rfl ?_; intro w0
  repeat' (first | (refine G.atCode ?_; refine G.stopLoop ?_) | (refine G.atCode ?_; first | refine G.seq ?_ | refine G.region ?_ | refine G.block ?_) | refine G.endOps ?_ | refine G.op rfl rfl ?_ | (refine G.atLen ?_; first | refine G.lenSlice rfl (tyy rfl) rfl ?_))
  refine G.go ?_
  refine G.loop (σ := Nat) (fun i => [(9, .int .i64 i), (8, .int .i64 l.length), (7, .slice Av l.length cv), (0, .slice Av l.length cv)])
    (fun _ => []) (fun i _ => i <= l.length) (fun i => l.length - i) 0 ⟨rfl, rfl, rfl, rfl, trivial⟩ (SubH.nil _) (Nat.zero_le _) ?_
  rintro i h6 hle6 hi
  by_cases hlt : i < l.length
  . obtain ⟨⟨an, avs⟩, ha⟩ : ∃ a, l[i]? = some a := ⟨l[i], List.getElem?_eq_getElem hlt⟩
    obtain ⟨_, hget, va, rfl, hva⟩ := hrows.get ha
    obtain ⟨hb1, hb2⟩ := hb.2 _ (List.mem_of_getElem? ha)
    simp only at hget hva hb1 hb2
    have hval := hva.len
    obtain ⟨Aa, ca, rfl, _⟩ := hva.form
    rw [strsR_length] at *
    have hl2 : ([str an, .slice Aa avs.length ca] : List Value).length = 2 := rfl
    repeat' (first | (refine G.atIdx ?_; refine G.idxImm rfl rfl (tyy rfl) (tyy rfl) (hs.mono (by solve | repeat first | assumption | exact Zr _ | refine Zq ?_ Zp)) Zj rfl (by rw [hrl]; omega) ?_; intro pp rr hx9 hp9; (rw [hget] at hx9); (obtain rfl := Option.some.inj hx9)) | (refine G.atCode ?_; refine G.stopLoop ?_) | (refine G.atCode ?_; first | refine G.seq ?_ | refine G.region ?_ | refine G.block ?_ | refine G.skip ?_ | refine G.ret ?_ | (refine G.cond rfl ?_ ?_ <;> intro hc <;> (try simp only [tests, reduceCtorEq] at hc) <;> (try exact Zf))) | refine G.endOps ?_ | (refine G.atGd ?_; first | refine G.guardYes rfl rfl ?_ | refine G.guardNoS rfl rfl rfl ?_ | (refine G.guardS rfl rfl rfl ?_ ?_ <;> intro hc <;> (try simp only [tests, reduceCtorEq] at hc) <;> (try exact Zf))) | (refine G.atBin ?_; first | refine G.op rfl rfl ?_) | refine G.op rfl rfl ?_ | (refine G.atLen ?_; first | refine G.lenSlice rfl (tyy rfl) rfl ?_) | (refine G.atLoad ?_; first | refine G.loadOwn1 rfl (tyy rfl) rfl rfl Za rfl rfl ?_ | refine G.loadImmA rfl (tyy rfl) rfl rfl Zp Zp rfl ?_) | (refine G.atFld ?_; first | refine G.fieldAddr rfl (tyy rfl) rfl rfl ?_) | (refine G.atSto ?_; refine G.storeOwn rfl rfl (tyy rfl) Za rfl rfl rfl rfl ?_) | (refine G.atAlc ?_; refine G.alloc (tyy rfl) rfl rfl ?_; intro _))
    all_goals first | (exfalso; omega) | exact G.done1 rfl rfl [] (SubH.nil _) ⟨⟨_, rfl⟩, rfl⟩ | skip
    refine G.go ?_
    refine G.loop (σ := Nat) (fun j => [(25, .int .i64 j), (24, .int .i64 avs.length), (23, .slice Aa avs.length ca), (9, .int .i64 i), (8, .int .i64 l.length), (7, .slice Av l.length cv), (0, .slice Av l.length cv)])
      (fun _ => []) (fun j _ => j <= avs.length) (fun j => avs.length - j) 0 ⟨rfl, rfl, rfl, rfl, rfl, rfl, rfl, trivial⟩ (SubH.nil _) (Nat.zero_le _) ?_
    rintro j h7 hle7 hj
    by_cases hjt : j < avs.length
    . repeat' (first | (refine G.atIdx ?_; refine G.idxImmS rfl rfl (tyy rfl) (tyy rfl) (hva.mono (by solve | repeat first | assumption | exact Zr _ | refine Zq ?_ Zp)) Zj rfl (by omega) ?_; intro _ _) | (refine G.atCode ?_; first | refine G.seq ?_ | refine G.region ?_ | refine G.block ?_ | refine G.skip ?_ | refine G.ret ?_ | (refine G.cond rfl ?_ ?_ <;> intro hc <;> (try simp only [tests, reduceCtorEq] at hc) <;> (try exact Zf))) | refine G.endOps ?_ | refine G.endBlk ?_ | (refine G.atBin ?_; first | (refine G.atAdd ?_; first | refine G.arith rfl rfl rfl rfl rfl Zi ?_) | refine G.op rfl rfl ?_) | refine G.op rfl rfl ?_ | (refine G.atLen ?_; first | refine G.lenStr rfl (tyy rfl) rfl ?_) | (refine G.atLoad ?_; first | refine G.loadImm1 rfl (tyy rfl) rfl rfl Zp rfl ?_))
      all_goals first | (exfalso; omega) | exact G.done1 rfl rfl [] (SubH.nil _) ⟨⟨_, rfl⟩, rfl⟩ | exact G.again (j + 1) ⟨sint (by omega), rfl, rfl, rfl, rfl, rfl, rfl, trivial⟩ (SubH.nil _) (by omega) (by solve | repeat first | assumption | exact Zr _ | refine Zq ?_ Zp) (by omega) | skip
    . obtain rfl : j = avs.length := by omega
      repeat' (first | (refine G.atCode ?_; first | refine G.seq ?_ | refine G.region ?_ | refine G.exit rfl ?_ | (refine G.cond rfl ?_ ?_ <;> intro hc <;> (try simp only [tests, reduceCtorEq] at hc) <;> (try exact Zf))) | refine G.endOps ?_ | refine G.endBlk ?_ | (refine G.atBin ?_; first | (refine G.atAdd ?_; first | refine G.arith rfl rfl rfl rfl rfl Zi ?_) | refine G.op rfl rfl ?_) | refine G.op rfl rfl ?_)
      all_goals first | (exfalso; omega) | exact G.again (i + 1) ⟨sint (by omega), rfl, rfl, rfl, trivial⟩ (SubH.nil _) (by omega) (by solve | repeat first | assumption | exact Zr _ | refine Zq ?_ Zp) (by omega) | skip
  . obtain rfl : i = l.length := by omega
    repeat' (first | (refine G.atCode ?_; first | refine G.seq ?_ | refine G.region ?_ | refine G.exit rfl ?_ | refine G.ret ?_ | (refine G.cond rfl ?_ ?_ <;> intro hc <;> (try simp only [tests, reduceCtorEq] at hc) <;> (try exact Zf))) | refine G.endOps ?_ | (refine G.atBin ?_; first | refine G.op rfl rfl ?_) | refine G.op rfl rfl ?_)
    all_goals first | (exfalso; omega) | exact G.done1 rfl rfl [] (SubH.nil _) ⟨⟨_, rfl⟩, rfl⟩ | skip
set_option maxHeartbeats 2000000 in
theorem ref14_Twin (l : List Atr) (v : Value) (hb : AtrB l) (h : Heap) (hv : AtrsC h l v) : Spec Tryz.prog 9 [v] h [] (fun u h' H' => AtrsC h' l u /\ H' = []) := by
  obtain ⟨Av, cv, rfl, _, hm⟩ := hv.form
  obtain ⟨rows, hs, hrows⟩ := hv
  have hrl := hrows.len
  have hbl := hb.1
  refine Spec.enter Tryz.func9 rfl rfl ?_; intro w0
  repeat' (first | (refine G.atCode ?_; refine G.stopLoop ?_) | (refine G.atCode ?_; first | refine G.seq ?_ | refine G.region ?_ | refine G.block ?_) | refine G.endOps ?_ | refine G.op rfl rfl ?_ | (refine G.atLen ?_; first | refine G.lenSlice rfl (tyy rfl) rfl ?_))
  refine G.nilRow 45 2 ?_
  refine G.go ?_
  refine G.loop (σ := Nat × Value × List (List Value)) (fun x => [(8, .int .i64 x.1), (7, .int .i64 l.length), (6, .slice Av l.length cv), (3, x.2.1)])
    (fun x => [.row x.2.1 45 2 x.2.2]) (fun x h1 => x.1 <= l.length /\ LC AtrC h1 (l.take x.1) x.2.2) (fun x => l.length - x.1) ⟨0, .slice none 0 0, []⟩ ⟨rfl, rfl, rfl, rfl, trivial⟩ Zu ⟨Nat.zero_le _, rfl⟩ ?_
  rintro ⟨i, ov, orows⟩ h1 hle1 ⟨hi, horows⟩
  simp only at hi horows
  refine G.norm (by (try dsimp only) <;> exact rfl) (by (try dsimp only) <;> exact rfl) ?_
  have horl := horows.len
  rw [List.length_take] at horl
  by_cases hlt : i < l.length
  . obtain ⟨⟨an, avs⟩, ha⟩ : ∃ a, l[i]? = some a := ⟨l[i], List.getElem?_eq_getElem hlt⟩
    obtain ⟨_, hget, va, rfl, hva⟩ := hrows.get ha
    obtain ⟨hb1, hb2⟩ := hb.2 _ (List.mem_of_getElem? ha)
    simp only at hget hva hb1 hb2
    obtain ⟨Aa, ca, rfl, _⟩ := hva.form
    rw [strsR_length] at *
    have hl2 : ([str an, .slice Aa avs.length ca] : List Value).length = 2 := rfl
    repeat' (first | (refine G.atIdx ?_; refine G.idxImm rfl rfl (tyy rfl) (tyy rfl) (hs.mono (by solve | repeat first | assumption | exact Zr _ | refine Zq ?_ Zp)) Zj rfl (by rw [hrl]; omega) ?_; intro pp rr hx9 hp9; (rw [hget] at hx9); (obtain rfl := Option.some.inj hx9)) | (refine G.atApp ?_; refine G.blkNil 1 Za ?_; refine G.appendImmS (l := []) (l' := avs) rfl rfl (tyy rfl) (tyy rfl) rfl rfl Take.hd (hva.mono (by solve | repeat first | assumption | exact Zr _ | refine Zq ?_ Zp)) rfl (by simp only [List.length_nil]; omega) ?_; intro v9; refine G.rowForm Take.hd ?_; rintro A9 c9 rfl) | (refine G.atApp ?_; refine G.append1 rfl rfl (tyy rfl) (tyy rfl) rfl rfl Za Za rfl rfl rfl Zo ?_; intro _; refine G.rowForm Take.hd ?_; rintro _ _ rfl) | (refine G.atCode ?_; first | refine G.seq ?_ | refine G.region ?_ | refine G.block ?_ | refine G.skip ?_ | refine G.anyIn mixedOk ?_ | (refine G.cond rfl ?_ ?_ <;> intro hc <;> (try simp only [tests, reduceCtorEq] at hc) <;> (try exact Zf))) | refine G.endOps ?_ | refine G.endHeld ?_ | refine G.back ?_ | refine G.endBlk ?_ | (refine G.atAny ?_; first | refine G.anyAutoX slB rfl rfl Zw Zg Zd ?_ | refine G.anyOne rfl Zw Zg Zu ?_ | refine G.anyEndX Zw ?_) | (refine G.atBin ?_; first | (refine G.atAdd ?_; first | refine G.arith rfl rfl rfl rfl rfl Zi ?_) | refine G.op rfl rfl ?_) | refine G.op rfl rfl ?_ | (refine G.atLoad ?_; first | refine G.loadOwn1 rfl (tyy rfl) rfl rfl Za rfl rfl ?_ | refine G.loadImmA rfl (tyy rfl) rfl rfl Zp Zp rfl ?_) | (refine G.atFld ?_; first | refine G.fieldAddr rfl (tyy rfl) rfl rfl ?_) | (refine G.atSto ?_; refine G.storeOwn rfl rfl (tyy rfl) Za rfl rfl rfl rfl ?_) | (refine G.atAlc ?_; refine G.alloc (tyy rfl) rfl rfl ?_; intro _) | (refine G.atBld ?_; refine G.build (tyy rfl) rfl rfl rfl ?_) | (refine G.atBsl ?_; refine G.buildSlice (tyy rfl) (tyy rfl) rfl rfl rfl rfl ?_; intro _))
    all_goals (
      refine G.freezeRow (Take.tl Take.hd) ?_
      intro h7 hle7 hs7
      exact G.again ⟨i + 1, _, _⟩ ⟨sint (by omega), rfl, rfl, rfl, trivial⟩ Zu ⟨by simp only; omega, by rw [take_get ha]; exact LC.append (horows.mono (fun x => x.mono (by solve | repeat first | assumption | exact Zr _ | refine Zq ?_ Zp))) (LC.one ⟨_, rfl, hs7⟩)⟩ (by solve | repeat first | assumption | exact Zr _ | refine Zq ?_ Zp) (by simp only; omega))
  . obtain rfl : i = l.length := by omega
    rw [List.take_length] at horows
    repeat' (first | (refine G.atCode ?_; first | refine G.seq ?_ | refine G.region ?_ | refine G.exit rfl ?_ | refine G.ret ?_ | (refine G.cond rfl ?_ ?_ <;> intro hc <;> (try simp only [tests, reduceCtorEq] at hc) <;> (try exact Zf))) | refine G.endOps ?_ | (refine G.atBin ?_; first | refine G.op rfl rfl ?_) | refine G.op rfl rfl ?_)
    refine G.freezeRow Take.hd ?_
    intro h8 hle8 hs8
    exact G.done1 rfl rfl _ (SubH.nil _) ⟨⟨_, hs8, horows.mono (fun x => x.mono hle8)⟩, rfl⟩
set_option maxRecDepth 8000 in
set_option maxHeartbeats 2000000 in
theorem ref14_Same (l : List Atr) (v1 v2 : Value) (h : Heap) (hv1 : AtrsC h l v1) (hv2 : AtrsC h l v2) : Spec Tryz.prog 12 [v1, v2] h [] (fun u _ H' => u = .bool true /\ H' = []) := by
  obtain ⟨A1, c1, rfl, _, hm⟩ := hv1.form
  obtain ⟨A2, c2, rfl, _, _⟩ := hv2.form
  obtain ⟨rows1, hs1, hr1⟩ := hv1
  obtain ⟨rows2, hs2, hr2⟩ := hv2
  have hrl1 := hr1.len
  have hrl2 := hr2.len
  refine Spec.enter Tryz.func12 rfl rfl ?_; intro w0
  repeat' (first | (refine G.atCode ?_; refine G.stopLoop ?_) | (refine G.atCode ?_; first | refine G.seq ?_ | refine G.region ?_ | refine G.block ?_ | refine G.skip ?_ | (refine G.cond rfl ?_ ?_ <;> intro hc <;> (try simp only [tests, reduceCtorEq] at hc) <;> (try exact Zf))) | refine G.endOps ?_ | (refine G.atBin ?_; first | (refine G.atNeq ?_; first | refine G.op rfl rfl ?_)) | refine G.op rfl rfl ?_ | (refine G.atLen ?_; first | refine G.lenSlice rfl (tyy rfl) rfl ?_))
  all_goals (try (exfalso; omega))
  refine G.go ?_
  refine G.loop (σ := Nat) (fun i => [(14, .int .i64 i), (13, .int .i64 l.length), (0, .slice A1 l.length c1), (1, .slice A2 l.length c2)])
    (fun _ => []) (fun i _ => i <= l.length) (fun i => l.length - i) 0 ⟨rfl, rfl, rfl, rfl, trivial⟩ (SubH.nil _) (Nat.zero_le _) ?_
  rintro i h1 hle1 hi
  by_cases hlt : i < l.length
  . obtain ⟨⟨an, avs⟩, ha⟩ : ∃ a, l[i]? = some a := ⟨l[i], List.getElem?_eq_getElem hlt⟩
    obtain ⟨_, hget1, va1, rfl, hva1⟩ := hr1.get ha
    obtain ⟨_, hget2, va2, rfl, hva2⟩ := hr2.get ha
    simp only at hget1 hget2 hva1 hva2
    have hvm := hva1.len
    obtain ⟨B1, d1, rfl, _⟩ := hva1.form
    obtain ⟨B2, d2, rfl, _⟩ := hva2.form
    rw [strsR_length] at *
    have hl1 : ([str an, .slice B1 avs.length d1] : List Value).length = 2 := rfl
    have hl2 : ([str an, .slice B2 avs.length d2] : List Value).length = 2 := rfl
    repeat' (first | (refine G.atLoad ?_; refine G.loadImmAt1 rfl (tyy rfl) rfl rfl Zp rfl rfl ?_) | (refine G.atIdx ?_; refine G.idxImm rfl rfl (tyy rfl) (tyy rfl) (hs1.mono hle1) Zj rfl (by omega) ?_; intro p1 r1 hx1 hp1; (rw [hget1] at hx1); (obtain rfl := Option.some.inj hx1)) | (refine G.atIdx ?_; refine G.idxImm rfl rfl (tyy rfl) (tyy rfl) (hs2.mono hle1) Zj rfl (by omega) ?_; intro p2 r2 hx2 hp2; (rw [hget2] at hx2); (obtain rfl := Option.some.inj hx2)) | (refine G.atCode ?_; refine G.stopLoop ?_) | (refine G.atCode ?_; first | refine G.seq ?_ | refine G.region ?_ | refine G.block ?_ | refine G.skip ?_ | refine G.drawAll slB Zw mixedOk Zw ?_ | (refine G.cond rfl ?_ ?_ <;> intro hc <;> (try simp only [tests, reduceCtorEq] at hc) <;> (try exact Zf))) | refine G.endOps ?_ | refine G.endStill ?_ | (refine G.atGd ?_; first | refine G.guardYes rfl rfl ?_ | (refine G.guardS rfl rfl rfl ?_ ?_ <;> intro hc <;> (try simp only [tests, reduceCtorEq] at hc) <;> (try exact Zf))) | (refine G.atBin ?_; first | (refine G.atNeq ?_; first | refine G.op rfl rfl ?_ | refine G.neStr rfl rfl rfl ?_) | refine G.op rfl rfl ?_) | refine G.op rfl rfl ?_ | (refine G.atLen ?_; first | refine G.lenSlice rfl (tyy rfl) rfl ?_) | (refine G.atFld ?_; first | refine G.fieldAddrP rfl (tyy rfl) rfl rfl ?_))
    all_goals (try (exfalso; first | omega | (simp_all; done)))
    refine G.go ?_
    refine G.loop (σ := Nat) (fun k => [(49, .int .i64 k), (48, .int .i64 avs.length), (5, .int .i64 i), (14, .int .i64 i), (13, .int .i64 l.length), (0, .slice A1 l.length c1), (1, .slice A2 l.length c2)])
      (fun _ => []) (fun k _ => k <= avs.length) (fun k => avs.length - k) 0 ⟨rfl, rfl, rfl, rfl, rfl, rfl, rfl, trivial⟩ (SubH.nil _) (Nat.zero_le _) ?_
    rintro k h3 hle3 hk
    by_cases hkl : k < avs.length
    . repeat' (first | (refine G.atLoad ?_; refine G.loadImmAt1 rfl (tyy rfl) rfl rfl Zp rfl rfl ?_) | (refine G.atIdx ?_; refine G.idxImm rfl rfl (tyy rfl) (tyy rfl) (hs1.mono (by solve | repeat first | assumption | exact Zr _ | refine Zq ?_ Zp)) Zj rfl (by omega) ?_; intro p1 r1 hx1 hp1; (rw [hget1] at hx1); (obtain rfl := Option.some.inj hx1)) | (refine G.atIdx ?_; refine G.idxImm rfl rfl (tyy rfl) (tyy rfl) (hs2.mono (by solve | repeat first | assumption | exact Zr _ | refine Zq ?_ Zp)) Zj rfl (by omega) ?_; intro p2 r2 hx2 hp2; (rw [hget2] at hx2); (obtain rfl := Option.some.inj hx2)) | (refine G.atIdx ?_; refine G.idxImmS rfl rfl (tyy rfl) (tyy rfl) (hva1.mono (by solve | repeat first | assumption | exact Zr _ | refine Zq ?_ Zp)) Zj rfl (by omega) ?_; intro _ _) | (refine G.atIdx ?_; refine G.idxImmS rfl rfl (tyy rfl) (tyy rfl) (hva2.mono (by solve | repeat first | assumption | exact Zr _ | refine Zq ?_ Zp)) Zj rfl (by omega) ?_; intro _ _) | (refine G.atCode ?_; first | refine G.seq ?_ | refine G.region ?_ | refine G.block ?_ | refine G.skip ?_ | refine G.drawAll slB Zw mixedOk Zw ?_ | (refine G.cond rfl ?_ ?_ <;> intro hc <;> (try simp only [tests, reduceCtorEq] at hc) <;> (try exact Zf))) | refine G.endOps ?_ | refine G.endStill ?_ | refine G.endBlk ?_ | (refine G.atBin ?_; first | (refine G.atAdd ?_; first | refine G.arith rfl rfl rfl rfl rfl Zi ?_) | (refine G.atNeq ?_; first | refine G.neStr rfl rfl rfl ?_) | refine G.op rfl rfl ?_) | refine G.op rfl rfl ?_ | (refine G.atLoad ?_; first | refine G.loadImm1 rfl (tyy rfl) rfl rfl Zp rfl ?_) | (refine G.atFld ?_; first | refine G.fieldAddrP rfl (tyy rfl) rfl rfl ?_))
      all_goals first
        | exact G.again (k + 1) ⟨sint (by omega), rfl, rfl, rfl, rfl, rfl, rfl, trivial⟩ (SubH.nil _) (by omega) (by solve | repeat first | assumption | exact Zr _ | refine Zq ?_ Zp) (by omega)
        | (exfalso; simp_all)
    . obtain rfl : k = avs.length := by omega
      repeat' (first | (refine G.atCode ?_; first | refine G.seq ?_ | refine G.region ?_ | refine G.exit rfl ?_ | (refine G.cond rfl ?_ ?_ <;> intro hc <;> (try simp only [tests, reduceCtorEq] at hc) <;> (try exact Zf))) | refine G.endOps ?_ | refine G.endBlk ?_ | (refine G.atBin ?_; first | (refine G.atAdd ?_; first | refine G.arith rfl rfl rfl rfl rfl Zi ?_) | refine G.op rfl rfl ?_) | refine G.op rfl rfl ?_)
      all_goals first | (exfalso; omega) | exact G.again (i + 1) ⟨sint (by omega), rfl, rfl, rfl, trivial⟩ (SubH.nil _) (by omega) (by solve | repeat first | assumption | exact Zr _ | refine Zq ?_ Zp) (by omega)
  . obtain rfl : i = l.length := by omega
    repeat' (first | (refine G.atCode ?_; first | refine G.seq ?_ | refine G.region ?_ | refine G.exit rfl ?_ | refine G.ret ?_ | (refine G.cond rfl ?_ ?_ <;> intro hc <;> (try simp only [tests, reduceCtorEq] at hc) <;> (try exact Zf))) | refine G.endOps ?_ | (refine G.atBin ?_; first | refine G.op rfl rfl ?_) | refine G.op rfl rfl ?_)
    all_goals first | (exfalso; omega) | exact G.done1 rfl rfl _ (SubH.nil _) ⟨rfl, rfl⟩
end Go.Proofs.YtieibicgankemaaGreat
