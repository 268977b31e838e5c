/- Filters: the reference's Filter, Parse. -/
import Derived.Test.YtcghcdnmpjhifaaDoorFlR
namespace Go.Proofs.YtcghcdnmpjhifaaDoor
set_option linter.all false
set_option maxRecDepth 4000
open Go.RowKit

theorem callRFilter : Callable Tryd.prog 21 := ⟨_, Tryd.func21, by kernel_rfl, rfl⟩
theorem callRFParse : Callable Tryd.prog 10 := ⟨_, Tryd.func10, by kernel_rfl, rfl⟩
def RFlR (g : Nat) (S : List UInt8) (u : Value) (h' : Heap) (H' : List Chunk) : FlRes -> Prop
  | .error e => (∃ f c, FlC h' f c /\ u = .agg c.toArray) /\ e ≠ 0 /\ ∃ a' n', H' = [rdf g S a' n' e]
  | .ok (f, r, n') => (∃ a', a' <= S.length /\ S.drop a' = r /\ H' = [rdf g S a' n' 0]) /\ ∃ c, FlC h' f c /\ u = .agg c.toArray
theorem opS_byte {i : Nat} (h : i < 3) : [UInt8.ofNat (byteAt [38, 124, 33] i)] = opS i /\ byteAt [38, 124, 33] i < 256 := by rcases three h with rfl | rfl | rfl <;> decide
theorem preM_lt {c : UInt8} {S : List UInt8} {a : Nat} (h : preM [c] (S.drop a) = true) : a < S.length := by
  rcases Nat.lt_or_ge a S.length with h9 | h9
  . exact h9
  . rw [preM_out (by omega)] at h; cases h
theorem ref_isB (g : Nat) (S : List UInt8) (a : Nat) (n b : Int) (c : Nat) (hc : c < 256) (hS : S.length <= 1000000000) (ha : a <= S.length) {p : Bool} (hp : preM [UInt8.ofNat c] (S.drop a) = p) (h : Heap) :
    Spec Tryd.prog 30 [.pointer (some ⟨g, 0, none⟩), .int .u8 c] h [rdf g S a n b] (fun u _ H' => u = .bool p /\ H' = [rdf g S (if p = true then a + 1 else a) n b]) := by
  subst hp; exact ref_is g S a n b c hc hS ha h

set_option maxRecDepth 8000 in
set_option maxHeartbeats 8000000 in
theorem ref_Filter : ∀ (d : Nat), d <= 64 -> ∀ (g : Nat) (S : List UInt8) (a : Nat) (n : Nat), S.length <= 10000000 -> a <= S.length -> n <= 1000 -> ∀ (h : Heap),
    Spec Tryd.prog 21 [.pointer (some ⟨g, 0, none⟩), .int .i64 (65 - (d : Int))] h [rdf g S a n 0] (fun u h' H' => RFlR g S u h' H' (flM d n (S.drop a))) := by
  intro d
  induction d with
  | zero =>
    intro hd g S a n hS ha hn h
    cases hp : preM [40] (S.drop a) with
    | false =>
      have e : flM 0 n (S.drop a) = .error 4 := by rw [flM, hp]; rfl
      rw [e]
      unfold rdf
      refine Spec.enter Tryd.func21 rfl rfl ?_; intro w0
      repeat' (first | (show G _ (.ops .seq _ (⟨some _, .call { callee := .value (.func 30), args := _, argTypes := _ }, _, _, _, none⟩ :: _) :: _) _ _ _; refine G.call callIs rfl rfl (ref_isB g S (a) (n) 0 (40) Zo (by omega) (by omega) hp _) Ze ?_; rintro _ h9 H9 ⟨rfl, rfl⟩ hle9; first | rw [if_pos rfl] | rw [if_neg Bool.false_ne_true]) | (show G _ (.ops .seq _ (⟨some _, .call { callee := .value (.func 31), args := _, argTypes := _ }, _, _, _, none⟩ :: _) :: _) _ _ _; refine G.call callBad rfl rfl (ref_bad g S _ (n) 4 _) Ze ?_; rintro _ h5 H5 ⟨rfl, rfl⟩ hle5; unfold zFv) | (refine G.atCode ?_; first | refine G.seq ?_ | refine G.region ?_ | refine G.ret ?_ | (refine G.cond rfl ?_ ?_ <;> intro hc <;> (try simp only [tests, reduceCtorEq] at hc) <;> (try exact Zf))) | refine G.endOps ?_ | refine G.op rfl rfl ?_ | (refine G.atSto ?_; refine G.storeOwn rfl rfl (tyy rfl) Za rfl rfl rfl rfl ?_) | (refine G.atAlc ?_; refine G.alloc (tyy rfl) rfl rfl ?_; intro _))
      all_goals first | (exfalso; omega) | exact G.done (rs := [.cell 4 25]) rfl (.cellA rfl (tyy rfl) rfl rfl Za rfl .nil) rfl [rdf g S _ n 4] Zu ⟨⟨zF, _, zF_C _, rfl⟩, by decide, _, _, rfl⟩
    | true =>
      have hlt := preM_lt hp
      have e : flM 0 n (S.drop a) = .error 6 := by rw [flM, hp]; rfl
      rw [e]
      unfold rdf
      refine Spec.enter Tryd.func21 rfl rfl ?_; intro w0
      repeat' (first | (show G _ (.ops .seq _ (⟨some _, .call { callee := .value (.func 30), args := _, argTypes := _ }, _, _, _, none⟩ :: _) :: _) _ _ _; refine G.call callIs rfl rfl (ref_isB g S (a) (n) 0 (40) Zo (by omega) (by omega) hp _) Ze ?_; rintro _ h9 H9 ⟨rfl, rfl⟩ hle9; first | rw [if_pos rfl] | rw [if_neg Bool.false_ne_true]) | (show G _ (.ops .seq _ (⟨some _, .call { callee := .value (.func 31), args := _, argTypes := _ }, _, _, _, none⟩ :: _) :: _) _ _ _; refine G.call callBad rfl rfl (ref_bad g S _ ((n : Int) + 1) 6 _) Ze ?_; rintro _ h5 H5 ⟨rfl, rfl⟩ hle5; unfold zFv) | (refine G.atCode ?_; first | refine G.seq ?_ | refine G.region ?_ | refine G.skip ?_ | refine G.ret ?_ | (refine G.cond rfl ?_ ?_ <;> intro hc <;> (try simp only [tests, reduceCtorEq] at hc) <;> (try exact Zf))) | refine G.endOps ?_ | (refine G.atBin ?_; first | (refine G.atAdd ?_; first | refine G.arith rfl rfl rfl rfl rfl Zi ?_) | refine G.op rfl rfl ?_) | refine G.op rfl rfl ?_ | (refine G.atLoad ?_; first | refine G.loadOwn1 rfl (tyy rfl) rfl rfl Za rfl rfl ?_) | (refine G.atFld ?_; first | refine G.fieldAddr rfl (tyy rfl) rfl rfl ?_) | (refine G.atSto ?_; refine G.storeOwn rfl rfl (tyy rfl) Za rfl rfl rfl rfl ?_) | (refine G.atAlc ?_; refine G.alloc (tyy rfl) rfl rfl ?_; intro _))
      all_goals first | (exfalso; omega) | exact G.done (rs := [.cell 4 25]) rfl (.cellA rfl (tyy rfl) rfl rfl Za rfl .nil) rfl [rdf g S _ _ 6] Zu ⟨⟨zF, _, zF_C _, rfl⟩, by decide, _, _, rfl⟩
  | succ d ih =>
    intro hd g S a n hS ha hn h
    have ih := ih (by omega)
    cases hp : preM [40] (S.drop a) with
    | false =>
      have e : flM (d + 1) n (S.drop a) = .error 4 := by rw [flM, hp]; rfl
      rw [e]
      unfold rdf
      refine Spec.enter Tryd.func21 rfl rfl ?_; intro w0
      repeat' (first | (show G _ (.ops .seq _ (⟨some _, .call { callee := .value (.func 30), args := _, argTypes := _ }, _, _, _, none⟩ :: _) :: _) _ _ _; refine G.call callIs rfl rfl (ref_isB g S (a) (n) 0 (40) Zo (by omega) (by omega) hp _) Ze ?_; rintro _ h9 H9 ⟨rfl, rfl⟩ hle9; first | rw [if_pos rfl] | rw [if_neg Bool.false_ne_true]) | (show G _ (.ops .seq _ (⟨some _, .call { callee := .value (.func 31), args := _, argTypes := _ }, _, _, _, none⟩ :: _) :: _) _ _ _; refine G.call callBad rfl rfl (ref_bad g S _ (n) 4 _) Ze ?_; rintro _ h5 H5 ⟨rfl, rfl⟩ hle5; unfold zFv) | (refine G.atCode ?_; first | refine G.seq ?_ | refine G.region ?_ | refine G.ret ?_ | (refine G.cond rfl ?_ ?_ <;> intro hc <;> (try simp only [tests, reduceCtorEq] at hc) <;> (try exact Zf))) | refine G.endOps ?_ | refine G.op rfl rfl ?_ | (refine G.atSto ?_; refine G.storeOwn rfl rfl (tyy rfl) Za rfl rfl rfl rfl ?_) | (refine G.atAlc ?_; refine G.alloc (tyy rfl) rfl rfl ?_; intro _))
      all_goals first | (exfalso; omega) | exact G.done (rs := [.cell 4 25]) rfl (.cellA rfl (tyy rfl) rfl rfl Za rfl .nil) rfl [rdf g S _ n 4] Zu ⟨⟨zF, _, zF_C _, rfl⟩, by decide, _, _, rfl⟩
    | true =>
    have hlt := preM_lt hp
    by_cases hn1 : 1000 < n + 1
    . have e : flM (d + 1) n (S.drop a) = .error 9 := by rw [flM, hp, if_neg (by simp), if_pos hn1]
      rw [e]
      unfold rdf
      refine Spec.enter Tryd.func21 rfl rfl ?_; intro w0
      repeat' (first | (show G _ (.ops .seq _ (⟨some _, .call { callee := .value (.func 30), args := _, argTypes := _ }, _, _, _, none⟩ :: _) :: _) _ _ _; refine G.call callIs rfl rfl (ref_isB g S (a) (n) 0 (40) Zo (by omega) (by omega) hp _) Ze ?_; rintro _ h9 H9 ⟨rfl, rfl⟩ hle9; first | rw [if_pos rfl] | rw [if_neg Bool.false_ne_true]) | (show G _ (.ops .seq _ (⟨some _, .call { callee := .value (.func 31), args := _, argTypes := _ }, _, _, _, none⟩ :: _) :: _) _ _ _; refine G.call callBad rfl rfl (ref_bad g S _ ((n : Int) + 1) 9 _) Ze ?_; rintro _ h5 H5 ⟨rfl, rfl⟩ hle5; unfold zFv) | (refine G.atCode ?_; first | refine G.seq ?_ | refine G.region ?_ | refine G.skip ?_ | refine G.ret ?_ | (refine G.cond rfl ?_ ?_ <;> intro hc <;> (try simp only [tests, reduceCtorEq] at hc) <;> (try exact Zf))) | refine G.endOps ?_ | (refine G.atBin ?_; first | (refine G.atAdd ?_; first | refine G.arith rfl rfl rfl rfl rfl Zi ?_) | refine G.op rfl rfl ?_) | refine G.op rfl rfl ?_ | (refine G.atLoad ?_; first | refine G.loadOwn1 rfl (tyy rfl) rfl rfl Za rfl rfl ?_) | (refine G.atFld ?_; first | refine G.fieldAddr rfl (tyy rfl) rfl rfl ?_) | (refine G.atSto ?_; refine G.storeOwn rfl rfl (tyy rfl) Za rfl rfl rfl rfl ?_) | (refine G.atAlc ?_; refine G.alloc (tyy rfl) rfl rfl ?_; intro _))
      all_goals first | (exfalso; omega) | exact G.done (rs := [.cell 4 25]) rfl (.cellA rfl (tyy rfl) rfl rfl Za rfl .nil) rfl [rdf g S _ _ 9] Zu ⟨⟨zF, _, zF_C _, rfl⟩, by decide, _, _, rfl⟩
    unfold rdf
    have hd1 : (S.drop a).drop 1 = S.drop (a + 1) := by rw [List.drop_drop]
    have hd2 : (S.drop a).drop 2 = S.drop (a + 2) := by rw [List.drop_drop]
    generalize hR0 : flM (d + 1) n (S.drop a) = R
    refine Spec.enter Tryd.func21 rfl rfl ?_; intro w0
    repeat' (first | (show G _ (.ops .seq _ (⟨some _, .call { callee := .value (.func 30), args := _, argTypes := _ }, _, _, _, none⟩ :: _) :: _) _ _ _; refine G.call callIs rfl rfl (ref_isB g S (a) (n) 0 (40) Zo (by omega) (by omega) hp _) Ze ?_; rintro _ h9 H9 ⟨rfl, rfl⟩ hle9; first | rw [if_pos rfl] | rw [if_neg Bool.false_ne_true]) | (refine G.atCode ?_; refine G.stopLoop ?_) | (refine G.atCode ?_; first | refine G.seq ?_ | refine G.region ?_ | refine G.block ?_ | refine G.skip ?_ | (refine G.cond rfl ?_ ?_ <;> intro hc <;> (try simp only [tests, reduceCtorEq] at hc) <;> (try exact Zf))) | refine G.endOps ?_ | (refine G.atBin ?_; first | (refine G.atAdd ?_; first | refine G.arith rfl rfl rfl rfl rfl Zi ?_) | refine G.op rfl rfl ?_) | refine G.op rfl rfl ?_ | (refine G.atLoad ?_; first | refine G.loadOwn1 rfl (tyy rfl) rfl rfl Za rfl rfl ?_) | (refine G.atFld ?_; first | refine G.fieldAddr rfl (tyy rfl) rfl rfl ?_) | (refine G.atSto ?_; refine G.storeOwn rfl rfl (tyy rfl) Za rfl rfl rfl rfl ?_) | (refine G.atAlc ?_; refine G.alloc (tyy rfl) rfl rfl ?_; intro _))
    all_goals try (exfalso; omega)
    rename_i gr _ _
    refine G.go ?_
    refine G.loop (σ := Nat) (fun i => [(5, .int .i64 i), (0, .pointer (some ⟨g, 0, none⟩)), (1, .int .i64 (65 - ((d + 1 : Nat) : Int))), (4, .pointer (some ⟨gr, 0, none⟩))])
      (fun i => [.blk g [str S, .int .i64 (a + 1 : Nat), .int .i64 ((n : Int) + 1), .int .i64 0] 51, .blk gr [.int .i64 0, str [], str [], .slice none 0 0, .slice none 0 0] 25])
      (fun i _ => i <= 3 /\ ∀ j, j < i -> preM (opS j) (S.drop (a + 1)) = false) (fun i => 3 - i) 0
      ⟨rfl, rfl, rfl, rfl, trivial⟩ Zu ⟨Nat.zero_le _, fun j hj => absurd hj (by simp)⟩ ?_
    rintro i h7 hle7 ⟨hi, hno⟩
    by_cases hlt3 : i < 3
    rotate_left
    . obtain rfl : i = 3 := by omega
      rw [flM_item hp (by omega) (by rw [hd1]; exact hno), hd1] at hR0
      have hcast : ((n : Int) + 1) = ((n + 1 : Nat) : Int) := by omega
      have hit := ref_item g S (a + 1) ((n : Int) + 1) hS (by omega)
      cases hm : itemM (S.drop (a + 1)) with
      | none =>
        rw [hm] at hR0 hit
        simp only at hR0
        subst hR0
        repeat' (first | (show G _ (.ops .seq _ (⟨some _, .call { callee := .value (.func 32), args := _, argTypes := _ }, _, _, _, none⟩ :: _) :: _) _ _ _; refine G.call callRItem rfl rfl (hit _) Ze ?_; rintro _ h8 H8 ⟨rfl, a8, rfl⟩ hle8; unfold zFv) | (refine G.atCode ?_; first | refine G.seq ?_ | refine G.region ?_ | refine G.exit rfl ?_ | refine G.ret ?_ | (refine G.cond rfl ?_ ?_ <;> intro hc <;> (try simp only [tests, reduceCtorEq] at hc) <;> (try exact Zf))) | refine G.endOps ?_ | (refine G.atBin ?_; first | refine G.op rfl rfl ?_) | refine G.op rfl rfl ?_ | (refine G.atSto ?_; refine G.storeOwn rfl rfl (tyy rfl) Za rfl rfl rfl rfl ?_))
        all_goals first | (exfalso; omega) | exact G.done (rs := [.cell 4 25]) rfl (.cellA rfl (tyy rfl) rfl rfl Za rfl .nil) rfl [rdf g S _ _ 4] Zu ⟨⟨zF, _, zF_C _, rfl⟩, by decide, _, _, rfl⟩
      | some y =>
        obtain ⟨f, r⟩ := y
        rw [hm] at hR0 hit
        simp only at hR0
        subst hR0
        repeat' (first | (show G _ (.ops .seq _ (⟨some _, .call { callee := .value (.func 32), args := _, argTypes := _ }, _, _, _, none⟩ :: _) :: _) _ _ _; refine G.call callRItem rfl rfl (hit _) Ze ?_; rintro _ h8 H8 ⟨a8, ha8, hr8, rfl, c8, hc8, rfl⟩ hle8; obtain ⟨k9, a9, v9, A9, m9, q9, B9, p9, r9, rfl⟩ := hc8.shp) | (refine G.atCode ?_; first | refine G.seq ?_ | refine G.region ?_ | refine G.exit rfl ?_ | refine G.ret ?_ | (refine G.cond rfl ?_ ?_ <;> intro hc <;> (try simp only [tests, reduceCtorEq] at hc) <;> (try exact Zf))) | refine G.endOps ?_ | (refine G.atBin ?_; first | refine G.op rfl rfl ?_) | refine G.op rfl rfl ?_ | (refine G.atSto ?_; refine G.storeOwn rfl rfl (tyy rfl) Za rfl rfl rfl rfl ?_))
        all_goals first | (exfalso; omega) | exact G.done (rs := [.cell 4 25]) rfl (.cellA rfl (tyy rfl) rfl rfl Za rfl .nil) rfl [rdf g S a8 _ 0] Zu ⟨⟨a8, ha8, hr8, by rw [hcast]⟩, _, hc8, rfl⟩
    obtain ⟨hob, hoc⟩ := opS_byte hlt3
    have hl3 : ([38, 124, 33] : List UInt8).length = 3 := rfl
    cases hy : preM (opS i) (S.drop (a + 1)) with
    | false =>
      have hyb : preM [UInt8.ofNat (byteAt [38, 124, 33] i)] (S.drop (a + 1)) = false := by rw [hob]; exact hy
      repeat' (first | (show G _ (.ops .seq _ (⟨some _, .call { callee := .value (.func 30), args := _, argTypes := _ }, _, _, _, none⟩ :: _) :: _) _ _ _; refine G.call callIs rfl rfl (ref_isB g S (a + 1) ((n : Int) + 1) 0 (byteAt [38, 124, 33] i) Zo (by omega) (by omega) hyb _) Ze ?_; rintro _ h9 H9 ⟨rfl, rfl⟩ hle9; first | rw [if_pos rfl] | rw [if_neg Bool.false_ne_true]) | (refine G.atCode ?_; first | refine G.seq ?_ | refine G.region ?_ | refine G.block ?_ | refine G.skip ?_ | refine G.exit rfl ?_ | (refine G.cond rfl ?_ ?_ <;> intro hc <;> (try simp only [tests, reduceCtorEq] at hc) <;> (try exact Zf))) | refine G.endOps ?_ | (refine G.atBin ?_; first | (refine G.atAdd ?_; first | refine G.arith rfl rfl rfl rfl rfl Zi ?_) | refine G.op rfl rfl ?_) | refine G.op rfl rfl ?_ | (refine G.atInd ?_; refine G.idxStr rfl rfl (tyy rfl) rfl Zj Zo ?_; intro _))
      all_goals first | (exfalso; omega) | exact G.again (i + 1) ⟨sint (by simp), rfl, rfl, rfl, trivial⟩ Zu ⟨by omega, fun j hj => if hji : j < i then hno j hji else (show j = i by omega) ▸ hy⟩ (by solve | repeat first | assumption | exact Zr _ | refine Zq ?_ Zp) (by omega)
    | true =>
    have hyb : preM [UInt8.ofNat (byteAt [38, 124, 33] i)] (S.drop (a + 1)) = true := by rw [hob]; exact hy
    have hlt1 := preM_lt hyb
    rw [flM_op hp (by omega) hlt3 (by rw [hd1]; exact hno) (by rw [hd1]; exact hy)] at hR0
    unfold opM at hR0
    rw [hd2] at hR0
    have hdep : (65 - ((d + 1 : Nat) : Int)) + 1 = 65 - (d : Int) := by omega
    by_cases hi2 : i = 2
    rotate_left
    . rw [if_neg hi2] at hR0
      repeat' (first | (show G _ (.ops .seq _ (⟨some _, .call { callee := .value (.func 30), args := _, argTypes := _ }, _, _, _, none⟩ :: _) :: _) _ _ _; refine G.call callIs rfl rfl (ref_isB g S (a + 1) ((n : Int) + 1) 0 (byteAt [38, 124, 33] i) Zo (by omega) (by omega) hyb _) Ze ?_; rintro _ h9 H9 ⟨rfl, rfl⟩ hle9; first | rw [if_pos rfl] | rw [if_neg Bool.false_ne_true]) | (refine G.atCode ?_; refine G.stopLoop ?_) | (refine G.atCode ?_; first | refine G.seq ?_ | refine G.region ?_ | refine G.block ?_ | refine G.skip ?_ | (refine G.cond rfl ?_ ?_ <;> intro hc <;> (try simp only [tests, reduceCtorEq] at hc) <;> (try exact Zf))) | refine G.endOps ?_ | (refine G.atBin ?_; first | (refine G.atEql ?_; first | refine G.op rfl rfl ?_) | refine G.op rfl rfl ?_) | refine G.op rfl rfl ?_ | (refine G.atSto ?_; refine G.storeOwn rfl rfl (tyy rfl) Za rfl rfl rfl rfl ?_) | (refine G.atAlc ?_; refine G.alloc (tyy rfl) rfl rfl ?_; intro _) | (refine G.atBld ?_; refine G.build (tyy rfl) rfl rfl rfl ?_) | (refine G.atInd ?_; refine G.idxStr rfl rfl (tyy rfl) rfl Zj Zo ?_; intro _))
      all_goals try (exfalso; omega)
      rename_i gf
      refine G.nilRow 25 5 ?_
      refine G.go ?_
      generalize hRK : kidsF (flM d) (S.drop a).length (n + 1) (S.drop (a + 2)) = RK at hR0
      have hRK0 : appK [] (kidsF (flM d) (S.drop a).length (n + 1) (S.drop (a + 2))) = RK := by rw [hRK]; cases RK <;> rfl
      clear hRK hno hob hoc
      have hlen0 : (S.drop a).length = S.length - a := by rw [List.length_drop]
      refine G.loop (σ := Nat × Int × Nat × List Fl × List (List Value) × Option Addr × Nat × Int) (fun x => [(5, .int .i64 i), (6, .pointer (some ⟨gf, 0, none⟩)), (0, .pointer (some ⟨g, 0, none⟩)), (1, .int .i64 (65 - ((d + 1 : Nat) : Int))), (4, .pointer (some ⟨gr, 0, none⟩))])
        (fun x => [.blk g [str S, .int .i64 x.2.2.1, .int .i64 x.2.1, .int .i64 x.2.2.2.2.2.2.2] 51, .blk gf [.int .i64 i, str [], str [], .slice none 0 0, .slice x.2.2.2.2.2.1 x.2.2.2.2.1.length x.2.2.2.2.2.2.1] 25, .blk gr [.int .i64 0, str [], str [], .slice none 0 0, .slice none 0 0] 25, .row (.slice x.2.2.2.2.2.1 x.2.2.2.2.1.length x.2.2.2.2.2.2.1) 25 5 x.2.2.2.2.1])
        (fun x h' => FlsC h' x.2.2.2.1 x.2.2.2.2.1 /\ x.2.2.2.1.length <= S.length + 1 /\ ((∃ N : Nat, x.2.1 = (N : Int) /\ x.2.2.2.2.2.2.2 = 0 /\ x.2.2.1 <= S.length /\ S.length - x.2.2.1 < x.1 /\ x.2.2.2.1.length + (S.length - x.2.2.1) <= S.length /\ N <= 1000 /\ appK x.2.2.2.1 (kidsF (flM d) x.1 N (S.drop x.2.2.1)) = RK) \/ (x.2.2.2.2.2.2.2 ≠ 0 /\ RK = .error x.2.2.2.2.2.2.2))) (fun x => x.1) ⟨(S.drop a).length, n + 1, a + 2, [], [], none, 0, 0⟩
        ⟨rfl, rfl, rfl, rfl, rfl, trivial⟩ Zu ⟨FlsC.nil _, Nat.zero_le _, .inl ⟨n + 1, rfl, rfl, by simp only; omega, by simp only; omega, by simp only [List.length_nil]; omega, by omega, hRK0⟩⟩ ?_
      rintro ⟨m, nn, a', K, rows, A, c, b⟩ h8 hle8 ⟨hK, hKl, hinv⟩
      simp only at hK hKl hinv
      have hrl := hK.len
      rcases hinv with ⟨n', rfl, rfl, ha', hm, hKs, hn', hinv⟩ | ⟨hb, hRKe⟩
      rotate_left
      . rw [hRKe] at hR0
        simp only [closeM] at hR0
        subst hR0
        refine G.norm (by (try dsimp only) <;> exact rfl) (by (try dsimp only) <;> exact rfl) ?_
        repeat' (first | (refine G.atCode ?_; first | refine G.seq ?_ | refine G.region ?_ | refine G.skip ?_ | refine G.drawAll slB Zw mixedOk Zw ?_ | refine G.exit rfl ?_ | refine G.ret ?_ | (refine G.cond rfl ?_ ?_ <;> intro hc <;> (try simp only [tests, reduceCtorEq] at hc) <;> (try exact Zf))) | refine G.endOps ?_ | refine G.endStill ?_ | (refine G.atGd ?_; first | refine G.guardYes rfl rfl ?_ | refine G.guardNoS rfl rfl rfl ?_ | (refine G.guardS rfl rfl rfl ?_ ?_ <;> intro hc <;> (try simp only [tests, reduceCtorEq] at hc) <;> (try exact Zf))) | (refine G.atBin ?_; first | (refine G.atEql ?_; first | refine G.op rfl rfl ?_) | refine G.op rfl rfl ?_) | refine G.op rfl rfl ?_ | (refine G.atLoad ?_; first | refine G.loadOwn1 rfl (tyy rfl) rfl rfl Za rfl rfl ?_ | refine G.loadOwnA rfl (tyy rfl) rfl rfl Za rfl rfl ?_) | (refine G.atFld ?_; first | refine G.fieldAddr rfl (tyy rfl) rfl rfl ?_) | (refine G.atSto ?_; refine G.storeOwn rfl rfl (tyy rfl) Za rfl rfl rfl rfl ?_))
        all_goals try (exfalso; omega)
        refine G.freezeRow (v := .slice A rows.length c) Za ?_
        intro hf9 hlf9 hs9
        exact G.done (rs := [.cell 4 25]) rfl (.cellA rfl (tyy rfl) rfl rfl Za rfl .nil) rfl [rdf g S a' nn b] Zu ⟨⟨.mk i [] [] [] K, _, FlC.mk_ (HSl.nil _ 2) hs9 (hK.mono' (by solve | repeat first | assumption | exact Zr _ | refine Zq ?_ Zp)), rfl⟩, hb, _, _, rfl⟩
      refine G.norm (by (try dsimp only) <;> exact rfl) (by (try dsimp only) <;> exact rfl) ?_
      obtain ⟨m, rfl⟩ : ∃ m', m = m' + 1 := ⟨m - 1, by omega⟩
      rw [kidsF] at hinv
      cases hq : preM [40] (S.drop a') with
      | false =>
        rw [hq, if_neg (by simp)] at hinv
        simp only [appK, List.append_nil] at hinv
        subst hinv
        have hqb : a' < S.length -> ¬ byteAt S a' = 40 := fun h9 => by
          have := preM_at (c := 40) h9 (by decide)
          intro e; rw [decide_eq_true e] at this; rw [show UInt8.ofNat 40 = (40 : UInt8) from rfl, hq] at this; cases this
        cases hz : preM [41] (S.drop a') with
        | false =>
          simp only [closeM, hz] at hR0
          rw [if_neg (by simp)] at hR0
          subst hR0
          by_cases hae : a' < S.length
          . have hqb := hqb hae
            repeat' (first | (show G _ (.ops .seq _ (⟨some _, .call { callee := .value (.func 30), args := _, argTypes := _ }, _, _, _, none⟩ :: _) :: _) _ _ _; refine G.call callIs rfl rfl (ref_isB g S (a') (n') 0 (41) Zo (by omega) (by omega) hz _) Ze ?_; rintro _ h9 H9 ⟨rfl, rfl⟩ hle9; first | rw [if_pos rfl] | rw [if_neg Bool.false_ne_true]) | (show G _ (.ops .seq _ (⟨some _, .call { callee := .value (.func 31), args := _, argTypes := _ }, _, _, _, none⟩ :: _) :: _) _ _ _; refine G.call callBad rfl rfl (ref_bad g S _ (n') 4 _) Ze ?_; rintro _ h5 H5 ⟨rfl, rfl⟩ hle5; unfold zFv) | (refine G.atCode ?_; first | refine G.seq ?_ | refine G.region ?_ | refine G.drawAll slB Zw mixedOk Zw ?_ | refine G.exit rfl ?_ | refine G.ret ?_ | (refine G.cond rfl ?_ ?_ <;> intro hc <;> (try simp only [tests, reduceCtorEq] at hc) <;> (try exact Zf))) | refine G.endOps ?_ | refine G.endStill ?_ | (refine G.atGd ?_; first | refine G.guardYes rfl rfl ?_ | (refine G.guardS rfl rfl rfl ?_ ?_ <;> intro hc <;> (try simp only [tests, reduceCtorEq] at hc) <;> (try exact Zf))) | (refine G.atBin ?_; first | (refine G.atEql ?_; first | refine G.op rfl rfl ?_) | refine G.op rfl rfl ?_) | refine G.op rfl rfl ?_ | (refine G.atLen ?_; first | refine G.lenStr rfl (tyy rfl) rfl ?_) | (refine G.atLoad ?_; first | refine G.loadOwn1 rfl (tyy rfl) rfl rfl Za rfl rfl ?_) | (refine G.atFld ?_; first | refine G.fieldAddr rfl (tyy rfl) rfl rfl ?_) | (refine G.atSto ?_; refine G.storeOwn rfl rfl (tyy rfl) Za rfl rfl rfl rfl ?_) | (refine G.atInd ?_; refine G.idxStr rfl rfl (tyy rfl) rfl Zj Zo ?_; intro _))
            all_goals first | (exfalso; omega) | exact G.done (rs := [.cell 4 25]) rfl (.cellA rfl (tyy rfl) rfl rfl Za rfl .nil) rfl [rdf g S _ n' 4] Zu ⟨⟨zF, _, zF_C _, rfl⟩, by decide, _, _, rfl⟩
          . repeat' (first | (show G _ (.ops .seq _ (⟨some _, .call { callee := .value (.func 30), args := _, argTypes := _ }, _, _, _, none⟩ :: _) :: _) _ _ _; refine G.call callIs rfl rfl (ref_isB g S (a') (n') 0 (41) Zo (by omega) (by omega) hz _) Ze ?_; rintro _ h9 H9 ⟨rfl, rfl⟩ hle9; first | rw [if_pos rfl] | rw [if_neg Bool.false_ne_true]) | (show G _ (.ops .seq _ (⟨some _, .call { callee := .value (.func 31), args := _, argTypes := _ }, _, _, _, none⟩ :: _) :: _) _ _ _; refine G.call callBad rfl rfl (ref_bad g S _ (n') 4 _) Ze ?_; rintro _ h5 H5 ⟨rfl, rfl⟩ hle5; unfold zFv) | (refine G.atCode ?_; first | refine G.seq ?_ | refine G.region ?_ | refine G.drawAll slB Zw mixedOk Zw ?_ | refine G.exit rfl ?_ | refine G.ret ?_ | (refine G.cond rfl ?_ ?_ <;> intro hc <;> (try simp only [tests, reduceCtorEq] at hc) <;> (try exact Zf))) | refine G.endOps ?_ | refine G.endStill ?_ | (refine G.atGd ?_; first | refine G.guardYes rfl rfl ?_ | refine G.guardNoS rfl rfl rfl ?_ | (refine G.guardS rfl rfl rfl ?_ ?_ <;> intro hc <;> (try simp only [tests, reduceCtorEq] at hc) <;> (try exact Zf))) | (refine G.atBin ?_; first | (refine G.atEql ?_; first | refine G.op rfl rfl ?_) | refine G.op rfl rfl ?_) | refine G.op rfl rfl ?_ | (refine G.atLen ?_; first | refine G.lenStr rfl (tyy rfl) rfl ?_) | (refine G.atLoad ?_; first | refine G.loadOwn1 rfl (tyy rfl) rfl rfl Za rfl rfl ?_) | (refine G.atFld ?_; first | refine G.fieldAddr rfl (tyy rfl) rfl rfl ?_) | (refine G.atSto ?_; refine G.storeOwn rfl rfl (tyy rfl) Za rfl rfl rfl rfl ?_))
            all_goals first | (exfalso; omega) | exact G.done (rs := [.cell 4 25]) rfl (.cellA rfl (tyy rfl) rfl rfl Za rfl .nil) rfl [rdf g S _ n' 4] Zu ⟨⟨zF, _, zF_C _, rfl⟩, by decide, _, _, rfl⟩
        | true =>
          have haz := preM_lt hz
          have hqb := hqb haz
          simp only [closeM, hz] at hR0
          rw [if_pos trivial] at hR0
          subst hR0
          repeat' (first | (show G _ (.ops .seq _ (⟨some _, .call { callee := .value (.func 30), args := _, argTypes := _ }, _, _, _, none⟩ :: _) :: _) _ _ _; refine G.call callIs rfl rfl (ref_isB g S (a') (n') 0 (41) Zo (by omega) (by omega) hz _) Ze ?_; rintro _ h9 H9 ⟨rfl, rfl⟩ hle9; first | rw [if_pos rfl] | rw [if_neg Bool.false_ne_true]) | (refine G.atCode ?_; first | refine G.seq ?_ | refine G.region ?_ | refine G.skip ?_ | refine G.drawAll slB Zw mixedOk Zw ?_ | refine G.exit rfl ?_ | refine G.ret ?_ | (refine G.cond rfl ?_ ?_ <;> intro hc <;> (try simp only [tests, reduceCtorEq] at hc) <;> (try exact Zf))) | refine G.endOps ?_ | refine G.endStill ?_ | (refine G.atGd ?_; first | refine G.guardYes rfl rfl ?_ | (refine G.guardS rfl rfl rfl ?_ ?_ <;> intro hc <;> (try simp only [tests, reduceCtorEq] at hc) <;> (try exact Zf))) | (refine G.atBin ?_; first | (refine G.atEql ?_; first | refine G.op rfl rfl ?_) | refine G.op rfl rfl ?_) | refine G.op rfl rfl ?_ | (refine G.atLen ?_; first | refine G.lenStr rfl (tyy rfl) rfl ?_) | (refine G.atLoad ?_; first | refine G.loadOwn1 rfl (tyy rfl) rfl rfl Za rfl rfl ?_ | refine G.loadOwnA rfl (tyy rfl) rfl rfl Za rfl rfl ?_) | (refine G.atFld ?_; first | refine G.fieldAddr rfl (tyy rfl) rfl rfl ?_) | (refine G.atSto ?_; refine G.storeOwn rfl rfl (tyy rfl) Za rfl rfl rfl rfl ?_) | (refine G.atInd ?_; refine G.idxStr rfl rfl (tyy rfl) rfl Zj Zo ?_; intro _))
          all_goals try (exfalso; omega)
          refine G.freezeRow (v := .slice A rows.length c) Za ?_
          intro hf9 hlf9 hs9
          exact G.done (rs := [.cell 4 25]) rfl (.cellA rfl (tyy rfl) rfl rfl Za rfl .nil) rfl [rdf g S (a' + 1) n' 0] Zu ⟨⟨a' + 1, by omega, by rw [List.drop_drop], rfl⟩, _, FlC.mk_ (HSl.nil _ 2) hs9 (hK.mono' (by solve | repeat first | assumption | exact Zr _ | refine Zq ?_ Zp)), rfl⟩
      | true =>
        have haq := preM_lt hq
        have hqb : byteAt S a' = 40 := by
          have := preM_at (c := 40) haq (by decide)
          rw [show UInt8.ofNat 40 = (40 : UInt8) from rfl, hq] at this
          exact of_decide_eq_true this.symm
        rw [hq, if_pos rfl] at hinv
        have hcall := ih g S a' n' hS ha' hn'
        cases hf : flM d n' (S.drop a') with
        | error e =>
          rw [hf] at hinv hcall
          simp only [appK] at hinv
          subst hinv
          repeat' (first | (show G _ (.ops .seq _ (⟨some _, .call { callee := .value (.func 21), args := _, argTypes := _ }, _, _, _, none⟩ :: _) :: _) _ _ _; rw [hdep]; refine G.call callRFilter rfl rfl (hcall _) Ze ?_; rintro _ h9 H9 ⟨⟨f9, c9, hc9, rfl⟩, he0, a9, n9, rfl⟩ hle9; obtain ⟨k9, b9, v9, A9, m9, q9, B9, p9, r9, rfl⟩ := hc9.shp) | (refine G.atCode ?_; first | refine G.seq ?_ | refine G.block ?_ | refine G.skip ?_ | refine G.drawAll slB Zw mixedOk Zw ?_ | refine G.anyIn mixedOk ?_ | (refine G.cond rfl ?_ ?_ <;> intro hc <;> (try simp only [tests, reduceCtorEq] at hc) <;> (try exact Zf))) | refine G.endOps ?_ | refine G.endStill ?_ | refine G.endHeld ?_ | refine G.back ?_ | refine G.endBlk ?_ | (refine G.atAny ?_; first | refine G.anyAutoX slB rfl rfl Zw Zg Zd ?_ | refine G.anyOne rfl Zw Zg Zu ?_ | refine G.anyEndX Zw ?_) | (refine G.atGd ?_; first | refine G.guardYes rfl rfl ?_ | (refine G.guardS rfl rfl rfl ?_ ?_ <;> intro hc <;> (try simp only [tests, reduceCtorEq] at hc) <;> (try exact Zf))) | (refine G.atBin ?_; first | (refine G.atAdd ?_; first | refine G.arith rfl rfl rfl rfl rfl Zi ?_) | (refine G.atEql ?_; first | refine G.op rfl rfl ?_) | refine G.op rfl rfl ?_) | refine G.op rfl rfl ?_ | (refine G.atLen ?_; first | refine G.lenStr rfl (tyy rfl) rfl ?_) | (refine G.atLoad ?_; first | refine G.loadOwn1 rfl (tyy rfl) rfl rfl Za rfl rfl ?_) | (refine G.atFld ?_; first | refine G.fieldAddr rfl (tyy rfl) rfl rfl ?_) | (refine G.atSto ?_; refine G.storeOwn rfl rfl (tyy rfl) Za rfl rfl rfl rfl ?_) | (refine G.atBsl ?_; refine G.buildSlice (tyy rfl) (tyy rfl) rfl rfl rfl rfl ?_; intro _) | (refine G.atApp ?_; first | (refine G.append1 rfl rfl (tyy rfl) (tyy rfl) rfl rfl Za Za rfl rfl rfl Zo ?_; intro _; refine G.rowForm Take.hd ?_; rintro _ _ rfl)) | (refine G.atInd ?_; refine G.idxStr rfl rfl (tyy rfl) rfl Zj Zo ?_; intro _))
          all_goals try (exfalso; omega)
          rename_i A' c'
          exact G.again ⟨m, n9, a9, K ++ [f9], rows ++ [[.int .i64 k9, str b9, str v9, .slice A9 m9 q9, .slice B9 p9 r9]], A', c', e⟩ ⟨rfl, rfl, rfl, rfl, rfl, trivial⟩ Zu ⟨(hK.mono' (by solve | repeat first | assumption | exact Zr _ | refine Zq ?_ Zp)).append (FlsC.one hc9), by simp only [List.length_append, List.length_cons, List.length_nil]; omega, .inr ⟨he0, rfl⟩⟩ (by solve | repeat first | assumption | exact Zr _ | refine Zq ?_ Zp) (by simp only; omega)
        | ok y =>
          obtain ⟨k, r, n2⟩ := y
          have hn2 := flM_n _ _ _ _ _ _ hf
          have hr2 := flM_len _ _ _ _ _ _ hf
          rw [hf] at hinv hcall
          simp only at hinv
          repeat' (first | (show G _ (.ops .seq _ (⟨some _, .call { callee := .value (.func 21), args := _, argTypes := _ }, _, _, _, none⟩ :: _) :: _) _ _ _; rw [hdep]; refine G.call callRFilter rfl rfl (hcall _) Ze ?_; rintro _ h9 H9 ⟨⟨a9, ha9, hr9, rfl⟩, c9, hc9, rfl⟩ hle9; obtain ⟨k9, b9, v9, A9, m9, q9, B9, p9, r9, rfl⟩ := hc9.shp) | (refine G.atCode ?_; first | refine G.seq ?_ | refine G.block ?_ | refine G.skip ?_ | refine G.drawAll slB Zw mixedOk Zw ?_ | refine G.anyIn mixedOk ?_ | (refine G.cond rfl ?_ ?_ <;> intro hc <;> (try simp only [tests, reduceCtorEq] at hc) <;> (try exact Zf))) | refine G.endOps ?_ | refine G.endStill ?_ | refine G.endHeld ?_ | refine G.back ?_ | refine G.endBlk ?_ | (refine G.atAny ?_; first | refine G.anyAutoX slB rfl rfl Zw Zg Zd ?_ | refine G.anyOne rfl Zw Zg Zu ?_ | refine G.anyEndX Zw ?_) | (refine G.atGd ?_; first | refine G.guardYes rfl rfl ?_ | (refine G.guardS rfl rfl rfl ?_ ?_ <;> intro hc <;> (try simp only [tests, reduceCtorEq] at hc) <;> (try exact Zf))) | (refine G.atBin ?_; first | (refine G.atAdd ?_; first | refine G.arith rfl rfl rfl rfl rfl Zi ?_) | (refine G.atEql ?_; first | refine G.op rfl rfl ?_) | refine G.op rfl rfl ?_) | refine G.op rfl rfl ?_ | (refine G.atLen ?_; first | refine G.lenStr rfl (tyy rfl) rfl ?_) | (refine G.atLoad ?_; first | refine G.loadOwn1 rfl (tyy rfl) rfl rfl Za rfl rfl ?_) | (refine G.atFld ?_; first | refine G.fieldAddr rfl (tyy rfl) rfl rfl ?_) | (refine G.atSto ?_; refine G.storeOwn rfl rfl (tyy rfl) Za rfl rfl rfl rfl ?_) | (refine G.atBsl ?_; refine G.buildSlice (tyy rfl) (tyy rfl) rfl rfl rfl rfl ?_; intro _) | (refine G.atApp ?_; first | (refine G.append1 rfl rfl (tyy rfl) (tyy rfl) rfl rfl Za Za rfl rfl rfl Zo ?_; intro _; refine G.rowForm Take.hd ?_; rintro _ _ rfl)) | (refine G.atInd ?_; refine G.idxStr rfl rfl (tyy rfl) rfl Zj Zo ?_; intro _))
          all_goals try (exfalso; omega)
          rename_i A' c'
          rw [<- hr9, List.length_drop, List.length_drop] at hr2
          exact G.again ⟨m, n2, a9, K ++ [k], rows ++ [[.int .i64 k9, str b9, str v9, .slice A9 m9 q9, .slice B9 p9 r9]], A', c', 0⟩ ⟨rfl, rfl, rfl, rfl, rfl, trivial⟩ Zu ⟨(hK.mono' (by solve | repeat first | assumption | exact Zr _ | refine Zq ?_ Zp)).append (FlsC.one hc9), by simp only [List.length_append, List.length_cons, List.length_nil]; omega, .inl ⟨n2, rfl, rfl, ha9, by simp only; omega, by simp only [List.length_append, List.length_cons, List.length_nil]; omega, hn2, by rw [<- hinv, hr9]; cases kidsF (flM d) m n2 r with
            | error e => rfl
            | ok z => obtain ⟨ks, r3, n3⟩ := z; simp [appK]⟩⟩ (by solve | repeat first | assumption | exact Zr _ | refine Zq ?_ Zp) (by simp only; omega)
    . subst hi2
      rw [if_pos rfl] at hR0
      have hcall := ih g S (a + 2) (n + 1) hS (by omega) (by omega)
      clear hno hob hoc
      cases hf : flM d (n + 1) (S.drop (a + 2)) with
      | error e =>
        rw [hf] at hR0 hcall
        simp only [oneM, closeM] at hR0
        subst hR0
        repeat' (first | (show G _ (.ops .seq _ (⟨some _, .call { callee := .value (.func 30), args := _, argTypes := _ }, _, _, _, none⟩ :: _) :: _) _ _ _; refine G.call callIs rfl rfl (ref_isB g S (a + 1) ((n : Int) + 1) 0 (byteAt [38, 124, 33] 2) Zo (by omega) (by omega) hyb _) Ze ?_; rintro _ h9 H9 ⟨rfl, rfl⟩ hle9; first | rw [if_pos rfl] | rw [if_neg Bool.false_ne_true]) | (refine G.atCode ?_; refine G.stopIf 13 ?_) | (refine G.atCode ?_; first | refine G.seq ?_ | refine G.region ?_ | refine G.block ?_ | refine G.skip ?_ | (refine G.cond rfl ?_ ?_ <;> intro hc <;> (try simp only [tests, reduceCtorEq] at hc) <;> (try exact Zf))) | refine G.endOps ?_ | (refine G.atBin ?_; first | refine G.op rfl rfl ?_) | refine G.op rfl rfl ?_ | (refine G.atSto ?_; refine G.storeOwn rfl rfl (tyy rfl) Za rfl rfl rfl rfl ?_) | (refine G.atAlc ?_; refine G.alloc (tyy rfl) rfl rfl ?_; intro _) | (refine G.atBld ?_; refine G.build (tyy rfl) rfl rfl rfl ?_) | (refine G.atInd ?_; refine G.idxStr rfl rfl (tyy rfl) rfl Zj Zo ?_; intro _))
        all_goals try (exfalso; omega)
        rename_i gf
        refine G.nilRow 25 5 ?_
        refine G.go ?_
        repeat' (first | (show G _ (.ops .seq _ (⟨some _, .call { callee := .value (.func 21), args := _, argTypes := _ }, _, _, _, none⟩ :: _) :: _) _ _ _; rw [hdep]; refine G.call callRFilter rfl rfl (hcall _) Ze ?_; rintro _ h9 H9 ⟨⟨f9, c9, hc9, rfl⟩, he0, a9, n9, rfl⟩ hle9; obtain ⟨k9, b9, v9, A9, m9, q9, B9, p9, r9, rfl⟩ := hc9.shp) | (refine G.atCode ?_; refine G.stopLoop ?_) | (refine G.atCode ?_; first | refine G.seq ?_ | refine G.region ?_ | refine G.block ?_ | refine G.anyIn mixedOk ?_ | (refine G.cond rfl ?_ ?_ <;> intro hc <;> (try simp only [tests, reduceCtorEq] at hc) <;> (try exact Zf))) | refine G.endOps ?_ | refine G.endHeld ?_ | refine G.back ?_ | (refine G.atAny ?_; first | refine G.anyAutoX slB rfl rfl Zw Zg Zd ?_ | refine G.anyOne rfl Zw Zg Zu ?_ | refine G.anyEndX Zw ?_) | (refine G.atBin ?_; first | (refine G.atAdd ?_; first | refine G.arith rfl rfl rfl rfl rfl Zi ?_) | (refine G.atEql ?_; first | refine G.op rfl rfl ?_)) | refine G.op rfl rfl ?_ | (refine G.atLoad ?_; first | refine G.loadOwn1 rfl (tyy rfl) rfl rfl Za rfl rfl ?_) | (refine G.atFld ?_; first | refine G.fieldAddr rfl (tyy rfl) rfl rfl ?_) | (refine G.atSto ?_; refine G.storeOwn rfl rfl (tyy rfl) Za rfl rfl rfl rfl ?_) | (refine G.atBsl ?_; refine G.buildSlice (tyy rfl) (tyy rfl) rfl rfl rfl rfl ?_; intro _) | (refine G.atApp ?_; first | (refine G.append1 rfl rfl (tyy rfl) (tyy rfl) rfl rfl Za Za rfl rfl rfl Zo ?_; intro _; refine G.rowForm Take.hd ?_; rintro _ _ rfl)))
        all_goals try (exfalso; omega)
        rename_i A' c'
        refine G.go ?_
        refine G.loop (σ := Unit) (fun _ => [(5, .int .i64 (2 : Nat)), (6, .pointer (some ⟨gf, 0, none⟩)), (0, .pointer (some ⟨g, 0, none⟩)), (1, .int .i64 (65 - ((d + 1 : Nat) : Int))), (4, .pointer (some ⟨gr, 0, none⟩))])
          (fun _ => [.blk g [str S, .int .i64 a9, .int .i64 n9, .int .i64 e] 51, .blk gf [.int .i64 (2 : Nat), str [], str [], .slice none 0 0, .slice A' 1 c'] 25, .blk gr [.int .i64 0, str [], str [], .slice none 0 0, .slice none 0 0] 25, .row (.slice A' 1 c') 25 5 [[.int .i64 k9, str b9, str v9, .slice A9 m9 q9, .slice B9 p9 r9]]])
          (fun _ _ => True) (fun _ => 0) () ⟨rfl, rfl, rfl, rfl, rfl, trivial⟩ Zu trivial ?_
        rintro _ h8 hle8 _
        repeat' (first | (refine G.atCode ?_; first | refine G.seq ?_ | refine G.region ?_ | refine G.skip ?_ | refine G.drawAll slB Zw mixedOk Zw ?_ | refine G.exit rfl ?_ | refine G.ret ?_ | (refine G.cond rfl ?_ ?_ <;> intro hc <;> (try simp only [tests, reduceCtorEq] at hc) <;> (try exact Zf))) | refine G.endOps ?_ | refine G.endStill ?_ | (refine G.atGd ?_; first | refine G.guardNoS rfl rfl rfl ?_ | (refine G.guardS rfl rfl rfl ?_ ?_ <;> intro hc <;> (try simp only [tests, reduceCtorEq] at hc) <;> (try exact Zf))) | (refine G.atBin ?_; first | (refine G.atEql ?_; first | refine G.op rfl rfl ?_) | refine G.op rfl rfl ?_) | refine G.op rfl rfl ?_ | (refine G.atLoad ?_; first | refine G.loadOwn1 rfl (tyy rfl) rfl rfl Za rfl rfl ?_ | refine G.loadOwnA rfl (tyy rfl) rfl rfl Za rfl rfl ?_) | (refine G.atFld ?_; first | refine G.fieldAddr rfl (tyy rfl) rfl rfl ?_) | (refine G.atSto ?_; refine G.storeOwn rfl rfl (tyy rfl) Za rfl rfl rfl rfl ?_))
        all_goals try (exfalso; omega)
        refine G.freezeRow (v := .slice A' 1 c') Za ?_
        intro hf9 hlf9 hs9
        exact G.done (rs := [.cell 4 25]) rfl (.cellA rfl (tyy rfl) rfl rfl Za rfl .nil) rfl [rdf g S a9 n9 e] Zu ⟨⟨.mk (2 : Nat) [] [] [] [f9], _, FlC.mk_ (HSl.nil _ 2) hs9 ((FlsC.one hc9).mono' (by solve | repeat first | assumption | exact Zr _ | refine Zq ?_ Zp)), rfl⟩, he0, _, _, rfl⟩
      | ok y =>
        obtain ⟨k, r, n2⟩ := y
        have hn2 := flM_n _ _ _ _ _ _ hf
        rw [hf] at hR0 hcall
        simp only [oneM] at hR0
        repeat' (first | (show G _ (.ops .seq _ (⟨some _, .call { callee := .value (.func 30), args := _, argTypes := _ }, _, _, _, none⟩ :: _) :: _) _ _ _; refine G.call callIs rfl rfl (ref_isB g S (a + 1) ((n : Int) + 1) 0 (byteAt [38, 124, 33] 2) Zo (by omega) (by omega) hyb _) Ze ?_; rintro _ h9 H9 ⟨rfl, rfl⟩ hle9; first | rw [if_pos rfl] | rw [if_neg Bool.false_ne_true]) | (refine G.atCode ?_; refine G.stopIf 13 ?_) | (refine G.atCode ?_; first | refine G.seq ?_ | refine G.region ?_ | refine G.block ?_ | refine G.skip ?_ | (refine G.cond rfl ?_ ?_ <;> intro hc <;> (try simp only [tests, reduceCtorEq] at hc) <;> (try exact Zf))) | refine G.endOps ?_ | (refine G.atBin ?_; first | refine G.op rfl rfl ?_) | refine G.op rfl rfl ?_ | (refine G.atSto ?_; refine G.storeOwn rfl rfl (tyy rfl) Za rfl rfl rfl rfl ?_) | (refine G.atAlc ?_; refine G.alloc (tyy rfl) rfl rfl ?_; intro _) | (refine G.atBld ?_; refine G.build (tyy rfl) rfl rfl rfl ?_) | (refine G.atInd ?_; refine G.idxStr rfl rfl (tyy rfl) rfl Zj Zo ?_; intro _))
        all_goals try (exfalso; omega)
        rename_i gf
        refine G.nilRow 25 5 ?_
        refine G.go ?_
        repeat' (first | (show G _ (.ops .seq _ (⟨some _, .call { callee := .value (.func 21), args := _, argTypes := _ }, _, _, _, none⟩ :: _) :: _) _ _ _; rw [hdep]; refine G.call callRFilter rfl rfl (hcall _) Ze ?_; rintro _ h9 H9 ⟨⟨a9, ha9, hr9, rfl⟩, c9, hc9, rfl⟩ hle9; obtain ⟨k9, b9, v9, A9, m9, q9, B9, p9, r9, rfl⟩ := hc9.shp) | (refine G.atCode ?_; refine G.stopLoop ?_) | (refine G.atCode ?_; first | refine G.seq ?_ | refine G.region ?_ | refine G.block ?_ | refine G.anyIn mixedOk ?_ | (refine G.cond rfl ?_ ?_ <;> intro hc <;> (try simp only [tests, reduceCtorEq] at hc) <;> (try exact Zf))) | refine G.endOps ?_ | refine G.endHeld ?_ | refine G.back ?_ | (refine G.atAny ?_; first | refine G.anyAutoX slB rfl rfl Zw Zg Zd ?_ | refine G.anyOne rfl Zw Zg Zu ?_ | refine G.anyEndX Zw ?_) | (refine G.atBin ?_; first | (refine G.atAdd ?_; first | refine G.arith rfl rfl rfl rfl rfl Zi ?_) | (refine G.atEql ?_; first | refine G.op rfl rfl ?_)) | refine G.op rfl rfl ?_ | (refine G.atLoad ?_; first | refine G.loadOwn1 rfl (tyy rfl) rfl rfl Za rfl rfl ?_) | (refine G.atFld ?_; first | refine G.fieldAddr rfl (tyy rfl) rfl rfl ?_) | (refine G.atSto ?_; refine G.storeOwn rfl rfl (tyy rfl) Za rfl rfl rfl rfl ?_) | (refine G.atBsl ?_; refine G.buildSlice (tyy rfl) (tyy rfl) rfl rfl rfl rfl ?_; intro _) | (refine G.atApp ?_; first | (refine G.append1 rfl rfl (tyy rfl) (tyy rfl) rfl rfl Za Za rfl rfl rfl Zo ?_; intro _; refine G.rowForm Take.hd ?_; rintro _ _ rfl)))
        all_goals try (exfalso; omega)
        rename_i A' c'
        refine G.go ?_
        refine G.loop (σ := Unit) (fun _ => [(5, .int .i64 (2 : Nat)), (6, .pointer (some ⟨gf, 0, none⟩)), (0, .pointer (some ⟨g, 0, none⟩)), (1, .int .i64 (65 - ((d + 1 : Nat) : Int))), (4, .pointer (some ⟨gr, 0, none⟩))])
          (fun _ => [.blk g [str S, .int .i64 a9, .int .i64 n2, .int .i64 0] 51, .blk gf [.int .i64 (2 : Nat), str [], str [], .slice none 0 0, .slice A' 1 c'] 25, .blk gr [.int .i64 0, str [], str [], .slice none 0 0, .slice none 0 0] 25, .row (.slice A' 1 c') 25 5 [[.int .i64 k9, str b9, str v9, .slice A9 m9 q9, .slice B9 p9 r9]]])
          (fun _ _ => True) (fun _ => 0) () ⟨rfl, rfl, rfl, rfl, rfl, trivial⟩ Zu trivial ?_
        rintro _ h8 hle8 _
        rw [<- hr9] at hR0
        cases hz : preM [41] (S.drop a9) with
        | false =>
          simp only [closeM, hz] at hR0
          rw [if_neg (by simp)] at hR0
          subst hR0
          repeat' (first | (show G _ (.ops .seq _ (⟨some _, .call { callee := .value (.func 30), args := _, argTypes := _ }, _, _, _, none⟩ :: _) :: _) _ _ _; refine G.call callIs rfl rfl (ref_isB g S (a9) (n2) 0 (41) Zo (by omega) (by omega) hz _) Ze ?_; rintro _ h9 H9 ⟨rfl, rfl⟩ hle9; first | rw [if_pos rfl] | rw [if_neg Bool.false_ne_true]) | (show G _ (.ops .seq _ (⟨some _, .call { callee := .value (.func 31), args := _, argTypes := _ }, _, _, _, none⟩ :: _) :: _) _ _ _; refine G.call callBad rfl rfl (ref_bad g S _ (n2) 4 _) Ze ?_; rintro _ h5 H5 ⟨rfl, rfl⟩ hle5; unfold zFv) | (refine G.atCode ?_; first | refine G.seq ?_ | refine G.region ?_ | refine G.drawAll slB Zw mixedOk Zw ?_ | refine G.exit rfl ?_ | refine G.ret ?_ | (refine G.cond rfl ?_ ?_ <;> intro hc <;> (try simp only [tests, reduceCtorEq] at hc) <;> (try exact Zf))) | refine G.endOps ?_ | refine G.endStill ?_ | (refine G.atGd ?_; first | refine G.guardYes rfl rfl ?_ | refine G.guardNoS rfl rfl rfl ?_) | (refine G.atBin ?_; first | (refine G.atEql ?_; first | refine G.op rfl rfl ?_) | refine G.op rfl rfl ?_) | refine G.op rfl rfl ?_ | (refine G.atLoad ?_; first | refine G.loadOwn1 rfl (tyy rfl) rfl rfl Za rfl rfl ?_) | (refine G.atFld ?_; first | refine G.fieldAddr rfl (tyy rfl) rfl rfl ?_) | (refine G.atSto ?_; refine G.storeOwn rfl rfl (tyy rfl) Za rfl rfl rfl rfl ?_))
          all_goals first | (exfalso; omega) | exact G.done (rs := [.cell 4 25]) rfl (.cellA rfl (tyy rfl) rfl rfl Za rfl .nil) rfl [rdf g S _ n2 4] Zu ⟨⟨zF, _, zF_C _, rfl⟩, by decide, _, _, rfl⟩
        | true =>
          have haz := preM_lt hz
          simp only [closeM, hz] at hR0
          rw [if_pos trivial] at hR0
          subst hR0
          repeat' (first | (show G _ (.ops .seq _ (⟨some _, .call { callee := .value (.func 30), args := _, argTypes := _ }, _, _, _, none⟩ :: _) :: _) _ _ _; refine G.call callIs rfl rfl (ref_isB g S (a9) (n2) 0 (41) Zo (by omega) (by omega) hz _) Ze ?_; rintro _ h9 H9 ⟨rfl, rfl⟩ hle9; first | rw [if_pos rfl] | rw [if_neg Bool.false_ne_true]) | (refine G.atCode ?_; first | refine G.seq ?_ | refine G.region ?_ | refine G.skip ?_ | refine G.drawAll slB Zw mixedOk Zw ?_ | refine G.exit rfl ?_ | refine G.ret ?_ | (refine G.cond rfl ?_ ?_ <;> intro hc <;> (try simp only [tests, reduceCtorEq] at hc) <;> (try exact Zf))) | refine G.endOps ?_ | refine G.endStill ?_ | (refine G.atGd ?_; first | refine G.guardYes rfl rfl ?_ | refine G.guardNoS rfl rfl rfl ?_) | (refine G.atBin ?_; first | (refine G.atEql ?_; first | refine G.op rfl rfl ?_) | refine G.op rfl rfl ?_) | refine G.op rfl rfl ?_ | (refine G.atLoad ?_; first | refine G.loadOwn1 rfl (tyy rfl) rfl rfl Za rfl rfl ?_ | refine G.loadOwnA rfl (tyy rfl) rfl rfl Za rfl rfl ?_) | (refine G.atFld ?_; first | refine G.fieldAddr rfl (tyy rfl) rfl rfl ?_) | (refine G.atSto ?_; refine G.storeOwn rfl rfl (tyy rfl) Za rfl rfl rfl rfl ?_))
          all_goals try (exfalso; omega)
          refine G.freezeRow (v := .slice A' 1 c') Za ?_
          intro hf9 hlf9 hs9
          exact G.done (rs := [.cell 4 25]) rfl (.cellA rfl (tyy rfl) rfl rfl Za rfl .nil) rfl [rdf g S (a9 + 1) n2 0] Zu ⟨⟨a9 + 1, by omega, by rw [List.drop_drop], rfl⟩, _, FlC.mk_ (HSl.nil _ 2) hs9 ((FlsC.one hc9).mono' (by solve | repeat first | assumption | exact Zr _ | refine Zq ?_ Zp)), rfl⟩
set_option maxRecDepth 8000 in
set_option maxHeartbeats 1000000 in
theorem ref10_Parse (s : List UInt8) (hs : s.length <= 9223372036854775807) (h : Heap) : Spec Tryd.prog 10 [str s] h [] (fun u h' H' => FParR h' (flParse s) u /\ H' = []) := by
  by_cases hlong : s.length > 4096
  . have e : flParse s = .error 5 := by unfold flParse; rw [if_pos hlong]
    rw [e]
    refine Spec.enter Tryd.func10 rfl rfl ?_; intro w0
    repeat' (first | (refine G.atCode ?_; first | refine G.seq ?_ | refine G.region ?_ | refine G.ret ?_ | (refine G.cond rfl ?_ ?_ <;> intro hc <;> (try simp only [tests, reduceCtorEq] at hc) <;> (try exact Zf))) | refine G.endOps ?_ | (refine G.atBin ?_; first | refine G.op rfl rfl ?_) | refine G.op rfl rfl ?_ | (refine G.atLen ?_; first | refine G.lenStr rfl (tyy rfl) rfl ?_) | (refine G.atSto ?_; refine G.storeOwn rfl rfl (tyy rfl) Za rfl rfl rfl rfl ?_) | (refine G.atAlc ?_; refine G.alloc (tyy rfl) rfl rfl ?_; intro _) | (refine G.atBld ?_; refine G.build (tyy rfl) rfl rfl rfl ?_))
    all_goals first | (exfalso; omega) | exact G.done (rs := [.cell 2 25, .tmp 3]) rfl (.cellA rfl (tyy rfl) rfl rfl Za rfl (.tmp rfl .nil)) rfl [] (SubH.nil _) ⟨rfl, rfl⟩
  have hs : s.length <= 10000000 := by omega
  have hcall := fun g h => ref_Filter 64 (by omega) g s 0 0 hs (by omega) (by omega) h
  rw [List.drop_zero] at hcall
  cases hf : flM 64 0 s with
  | error e =>
    rw [hf] at hcall
    rw [show flParse s = .error e by unfold flParse; rw [if_neg hlong, hf]]
    refine Spec.enter Tryd.func10 rfl rfl ?_; intro w0
    repeat' (first | (show G _ (.ops .seq _ (⟨some _, .call { callee := .value (.func 21), args := _, argTypes := _ }, _, _, _, none⟩ :: _) :: _) _ _ _; refine G.call callRFilter rfl rfl (hcall _ _) Ze ?_; rintro _ h9 H9 ⟨⟨f9, c9, hc9, rfl⟩, he0, a9, n9, rfl⟩ hle9; obtain ⟨k9, b9, v9, A9, m9, q9, B9, p9, r9, rfl⟩ := hc9.shp) | (refine G.atCode ?_; first | refine G.seq ?_ | refine G.region ?_ | refine G.skip ?_ | refine G.anyIn mixedOk ?_ | refine G.ret ?_ | (refine G.cond rfl ?_ ?_ <;> intro hc <;> (try simp only [tests, reduceCtorEq] at hc) <;> (try exact Zf))) | refine G.endOps ?_ | refine G.endHeld ?_ | refine G.back ?_ | (refine G.atAny ?_; first | refine G.anyAutoX slB rfl rfl Zw Zg Zd ?_ | refine G.anyOne rfl Zw Zg Zu ?_ | refine G.anyEndX Zw ?_) | (refine G.atGd ?_; first | refine G.guardNoS rfl rfl rfl ?_ | (refine G.guardS rfl rfl rfl ?_ ?_ <;> intro hc <;> (try simp only [tests, reduceCtorEq] at hc) <;> (try exact Zf))) | (refine G.atBin ?_; first | (refine G.atEql ?_; first | refine G.op rfl rfl ?_) | (refine G.atNeq ?_; first | refine G.op rfl rfl ?_) | refine G.op rfl rfl ?_) | refine G.op rfl rfl ?_ | (refine G.atLen ?_; first | refine G.lenStr rfl (tyy rfl) rfl ?_) | (refine G.atLoad ?_; first | refine G.loadOwn1 rfl (tyy rfl) rfl rfl Za rfl rfl ?_) | (refine G.atFld ?_; first | refine G.fieldAddr rfl (tyy rfl) rfl rfl ?_) | (refine G.atSto ?_; refine G.storeOwn rfl rfl (tyy rfl) Za rfl rfl rfl rfl ?_) | (refine G.atAlc ?_; refine G.alloc (tyy rfl) rfl rfl ?_; intro _) | (refine G.atBox ?_; refine G.box rfl rfl rfl ?_; intro _) | (refine G.atBld ?_; refine G.build (tyy rfl) rfl rfl rfl ?_))
    all_goals first | (exfalso; omega) | exact G.done (rs := [.cell 2 25, .tmp 3]) rfl (.cellA rfl (tyy rfl) rfl rfl Za rfl (.tmp rfl .nil)) rfl [] (SubH.nil _) ⟨rfl, rfl⟩
  | ok y =>
    obtain ⟨f, r, n⟩ := y
    rw [hf] at hcall
    by_cases hr : r = []
    . rw [show flParse s = .ok f by unfold flParse; rw [if_neg hlong, hf]; exact if_pos hr]
      subst hr
      refine Spec.enter Tryd.func10 rfl rfl ?_; intro w0
      repeat' (first | (show G _ (.ops .seq _ (⟨some _, .call { callee := .value (.func 21), args := _, argTypes := _ }, _, _, _, none⟩ :: _) :: _) _ _ _; refine G.call callRFilter rfl rfl (hcall _ _) Ze ?_; rintro _ h9 H9 ⟨⟨a9, ha9, hr9, rfl⟩, c9, hc9, rfl⟩ hle9; obtain ⟨k9, b9, v9, A9, m9, q9, B9, p9, r9, rfl⟩ := hc9.shp; have hge := List.drop_eq_nil_iff.1 hr9) | (refine G.atCode ?_; first | refine G.seq ?_ | refine G.region ?_ | refine G.skip ?_ | refine G.ret ?_ | (refine G.cond rfl ?_ ?_ <;> intro hc <;> (try simp only [tests, reduceCtorEq] at hc) <;> (try exact Zf))) | refine G.endOps ?_ | (refine G.atGd ?_; first | refine G.guardYes rfl rfl ?_) | (refine G.atBin ?_; first | (refine G.atEql ?_; first | refine G.op rfl rfl ?_) | (refine G.atNeq ?_; first | refine G.op rfl rfl ?_) | refine G.op rfl rfl ?_) | refine G.op rfl rfl ?_ | (refine G.atLen ?_; first | refine G.lenStr rfl (tyy rfl) rfl ?_) | (refine G.atLoad ?_; first | refine G.loadOwn1 rfl (tyy rfl) rfl rfl Za rfl rfl ?_ | refine G.loadOwnA rfl (tyy rfl) rfl rfl Za rfl rfl ?_) | (refine G.atFld ?_; first | refine G.fieldAddr rfl (tyy rfl) rfl rfl ?_) | (refine G.atSto ?_; refine G.storeOwn rfl rfl (tyy rfl) Za rfl rfl rfl rfl ?_) | (refine G.atAlc ?_; refine G.alloc (tyy rfl) rfl rfl ?_; intro _) | (refine G.atBox ?_; refine G.box rfl rfl rfl ?_; intro _) | (refine G.atBld ?_; refine G.build (tyy rfl) rfl rfl rfl ?_))
      all_goals first | (exfalso; omega) | exact G.done (rs := [.cell 2 25, .tmp 3]) rfl (.cellA rfl (tyy rfl) rfl rfl Za rfl (.tmp rfl .nil)) rfl [] (SubH.nil _) ⟨⟨_, hc9.mono' (by solve | repeat first | assumption | exact Zr _ | refine Zq ?_ Zp), rfl⟩, rfl⟩
    . rw [show flParse s = .error 4 by unfold flParse; rw [if_neg hlong, hf]; exact if_neg hr]
      refine Spec.enter Tryd.func10 rfl rfl ?_; intro w0
      repeat' (first | (show G _ (.ops .seq _ (⟨some _, .call { callee := .value (.func 21), args := _, argTypes := _ }, _, _, _, none⟩ :: _) :: _) _ _ _; refine G.call callRFilter rfl rfl (hcall _ _) Ze ?_; rintro _ h9 H9 ⟨⟨a9, ha9, hr9, rfl⟩, c9, hc9, rfl⟩ hle9; obtain ⟨k9, b9, v9, A9, m9, q9, B9, p9, r9, rfl⟩ := hc9.shp; have hge : a9 < s.length := Nat.lt_of_not_le fun h9 => hr (by rw [<- hr9]; exact List.drop_eq_nil_of_le h9)) | (refine G.atCode ?_; first | refine G.seq ?_ | refine G.region ?_ | refine G.skip ?_ | refine G.anyIn mixedOk ?_ | refine G.ret ?_ | (refine G.cond rfl ?_ ?_ <;> intro hc <;> (try simp only [tests, reduceCtorEq] at hc) <;> (try exact Zf))) | refine G.endOps ?_ | refine G.endHeld ?_ | refine G.back ?_ | (refine G.atAny ?_; first | refine G.anyAutoX slB rfl rfl Zw Zg Zd ?_ | refine G.anyOne rfl Zw Zg Zu ?_ | refine G.anyEndX Zw ?_) | (refine G.atGd ?_; first | refine G.guardYes rfl rfl ?_) | (refine G.atBin ?_; first | (refine G.atEql ?_; first | refine G.op rfl rfl ?_) | (refine G.atNeq ?_; first | refine G.op rfl rfl ?_) | refine G.op rfl rfl ?_) | refine G.op rfl rfl ?_ | (refine G.atLen ?_; first | refine G.lenStr rfl (tyy rfl) rfl ?_) | (refine G.atLoad ?_; first | refine G.loadOwn1 rfl (tyy rfl) rfl rfl Za rfl rfl ?_) | (refine G.atFld ?_; first | refine G.fieldAddr rfl (tyy rfl) rfl rfl ?_) | (refine G.atSto ?_; refine G.storeOwn rfl rfl (tyy rfl) Za rfl rfl rfl rfl ?_) | (refine G.atAlc ?_; refine G.alloc (tyy rfl) rfl rfl ?_; intro _) | (refine G.atBox ?_; refine G.box rfl rfl rfl ?_; intro _) | (refine G.atBld ?_; refine G.build (tyy rfl) rfl rfl rfl ?_))
      all_goals first | (exfalso; omega) | exact G.done (rs := [.cell 2 25, .tmp 3]) rfl (.cellA rfl (tyy rfl) rfl rfl Za rfl (.tmp rfl .nil)) rfl [] (SubH.nil _) ⟨rfl, rfl⟩
end Go.Proofs.YtcghcdnmpjhifaaDoor
