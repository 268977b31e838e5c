/- conn.Feed. -/
import Derived.Test.YtibkffoeioidlaaDoorCoA
import Derived.Test.YtibkffoeioidlaaDoorMsOpen
namespace Go.Proofs.YtibkffoeioidlaaDoor
set_option linter.all false
set_option maxRecDepth 4000
open Go.RowKit

abbrev MssC (h : Heap) (l : List Ms) (v : Value) : Prop := SC MsC 32 h l v
abbrev ReadsM (x : Bs) : Prop := ∀ h, TabW h -> Spec Tryd.prog 28 [str x] h [] (fun u h' H' => RdR (readM x) u h' /\ H' = [])
def rdAll (Q : Bs -> Prop) : Nat -> Bs -> Prop
  | 0, _ => True
  | f + 1, s => (cutM s).2 = 0 -> (cutM s).1 ≠ 0 -> Q (s.take (cutM s).1.toNat) /\ rdAll Q f (s.drop (cutM s).1.toNat)
theorem rdAll_true : ∀ (f : Nat) (s : Bs), rdAll (fun _ => True) f s
  | 0, _ => trivial
  | f + 1, s => fun _ _ => ⟨trivial, rdAll_true f _⟩
def FeedR (c : Cn) (gc gb : Nat) (wv : Value) (u : Value) (h' : Heap) (H' : List Chunk) : Prop := ∃ ov, u = .tuple #[ov, .bool c.bad] /\ MssC h' c.out ov /\ H' = CnH gc gb wv c.rest c.err c.closed
set_option maxRecDepth 8000 in
set_option maxHeartbeats 8000000 in
theorem conn_FeedQ (Q : Bs -> Prop) (hQ : ∀ x, x.length <= 100000000 -> Q x -> ReadsM x) (gc gb : Nat) (wv : Value) (s : Bs) (v : Value) (ps : List Bs) (hlen : s.length + ps.flatten.length <= 100000000) (hq : ∀ n, rdAll Q n (s ++ ps.flatten)) (h : Heap) (hT : TabW h) (hv : HSl h v 1 (strsR ps)) :
    Spec Tryd.prog 15 [.pointer (some ⟨gc, 0, none⟩), v] h (CnH gc gb wv s 0 false) (fun u h' H' => FeedR (connS (s ++ ps.flatten)) gc gb wv u h' H') := by
  have hAdd := fun h hv => feed_Add gb s v ps h hv (by omega)
  have hl0 : (s ++ ps.flatten).length <= 100000000 := by rw [List.length_append]; omega
  obtain ⟨vA, vc, rfl, _, _, _⟩ := hv.form
  unfold CnH
  generalize s ++ ps.flatten = S at *
  refine Spec.enter Tryd.func15 rfl rfl ?_; intro w0
  repeat' (first | (show G _ (.ops .seq _ (⟨some _, .call { callee := .value (.func 17), args := _, argTypes := _ }, _, _, _, none⟩ :: _) :: _) _ _ _; refine G.call callCnClosed rfl rfl (conn_Closed gc wv _ false _) Ze ?_; rintro _ h1 H1 ⟨rfl, rfl⟩ hle1) | (show G _ (.ops .seq _ (⟨some _, .call { callee := .value (.func 30), args := _, argTypes := _ }, _, _, _, none⟩ :: _) :: _) _ _ _; refine G.call callAdd rfl rfl (hAdd _ (hv.mono (by solve | repeat first | assumption | exact Zr _ | refine Zq ?_ Zp))) Ze ?_; rintro _ h2 H2 ⟨rfl, rfl⟩ hle2) | (refine G.atCode ?_; refine G.stopLoop ?_) | (refine G.atCode ?_; first | refine G.seq ?_ | refine G.region ?_ | refine G.block ?_ | refine G.skip ?_ | (refine G.cond rfl ?_ ?_ <;> intro hc <;> (try simp only [tests, reduceCtorEq] at hc) <;> (try exact Zf))) | refine G.endOps ?_ | refine G.op rfl rfl ?_ | (refine G.atLoad ?_; first | refine G.loadOwn1 rfl (tyy rfl) rfl rfl Za rfl rfl ?_) | (refine G.atFld ?_; first | refine G.fieldAddr rfl (tyy rfl) rfl rfl ?_))
  all_goals first | (exfalso; omega) | (exfalso; simp_all; done) | skip
  unfold buf
  refine G.nilRow 51 32 ?_
  refine G.go ?_
  refine G.loop (σ := Bs × List Ms × List (List Value) × Option Addr × Nat) (fun x => [(6, .slice x.2.2.2.1 x.2.2.1.length x.2.2.2.2), (0, .pointer (some ⟨gc, 0, none⟩))])
    (fun x => [.blk gc [wv, .pointer (some ⟨gb, 0, none⟩), .bool false] 79, .blk gb [str x.1, .int .i64 0] 125, .row (.slice x.2.2.2.1 x.2.2.1.length x.2.2.2.2) 51 32 x.2.2.1])
    (fun x h' => connS S = { connS x.1 with out := x.2.1 ++ (connS x.1).out } /\ LC MsC h' x.2.1 x.2.2.1 /\ x.1.length + x.2.1.length <= 100000000 /\ ∀ n, rdAll Q n x.1) (fun x => x.1.length) ⟨S, [], [], none, 0⟩ ⟨rfl, rfl, trivial⟩ Zu ⟨rfl, rfl, by simp only [List.length_nil]; omega, hq⟩ ?_
  rintro ⟨t, ms, rows, A, c⟩ h5 hle5 ⟨hS, hrows, hlt, hqt⟩
  simp only at hS hrows hlt hqt
  have hrl := hrows.len
  rw [hS]
  have hcr := cutM_range t
  by_cases he : (cutM t).2 ≠ 0
  . rw [connS_err he, List.append_nil]
    repeat' (first | (show G _ (.ops .seq _ (⟨some _, .call { callee := .value (.func 31), args := _, argTypes := _ }, _, _, _, none⟩ :: _) :: _) _ _ _; refine G.call callNext rfl rfl (feed_Next_err gb t (by omega) _ rfl he _) Ze ?_; rintro _ h6 H6 ⟨rfl, rfl⟩ hle6; unfold buf) | (refine G.atCode ?_; first | refine G.seq ?_ | refine G.region ?_ | refine G.block ?_ | refine G.drawAll slB Zw mixedOk Zw ?_ | refine G.ret ?_ | (refine G.cond rfl ?_ ?_ <;> intro hc <;> (try simp only [tests, reduceCtorEq] at hc) <;> (try exact Zf))) | refine G.endOps ?_ | refine G.endStill ?_ | (refine G.atBin ?_; first | (refine G.atNeq ?_; first | refine G.op rfl rfl ?_)) | refine G.op rfl rfl ?_ | (refine G.atLoad ?_; first | refine G.loadOwn1 rfl (tyy rfl) rfl rfl Za rfl rfl ?_) | (refine G.atFld ?_; first | refine G.fieldAddr rfl (tyy rfl) rfl rfl ?_) | (refine G.atSto ?_; refine G.storeOwn rfl rfl (tyy rfl) Za rfl rfl rfl rfl ?_))
    all_goals first | (exfalso; omega) | (exfalso; simp_all; done) | skip
    all_goals (
      rw [show (!decide ((cutM t).2 = 0)) = true from by rw [decide_eq_false he]; rfl]
      refine G.freezeRow (v := .slice A rows.length c) Za ?_
      intro h9 hle9 hs9
      exact G.done2 rfl rfl rfl _ Zu ⟨_, rfl, ⟨rows, hs9, hrows.mono (fun x => x.mono (by solve | repeat first | assumption | exact Zr _ | refine Zq ?_ Zp))⟩, rfl⟩)
  have he0 : (cutM t).2 = 0 := by omega
  have hnx := feed_Next gb t (by omega) (cutM t).1.toNat (by omega) he0
  by_cases h0 : (cutM t).1 = 0
  . rw [connS_none he0 h0, List.append_nil]
    rw [h0] at hnx
    repeat' (first | (show G _ (.ops .seq _ (⟨some _, .call { callee := .value (.func 31), args := _, argTypes := _ }, _, _, _, none⟩ :: _) :: _) _ _ _; refine G.call callNext rfl rfl (hnx _) Ze ?_; rintro _ h6 H6 ⟨rfl, rfl⟩ hle6; unfold buf) | (refine G.atCode ?_; first | refine G.seq ?_ | refine G.region ?_ | refine G.block ?_ | refine G.drawAll slB Zw mixedOk Zw ?_ | refine G.ret ?_ | (refine G.cond rfl ?_ ?_ <;> intro hc <;> (try simp only [tests, reduceCtorEq] at hc) <;> (try exact Zf))) | refine G.endOps ?_ | refine G.endStill ?_ | (refine G.atBin ?_; first | (refine G.atNeq ?_; first | refine G.op rfl rfl ?_)) | refine G.op rfl rfl ?_ | (refine G.atLoad ?_; first | refine G.loadOwn1 rfl (tyy rfl) rfl rfl Za rfl rfl ?_) | (refine G.atFld ?_; first | refine G.fieldAddr rfl (tyy rfl) rfl rfl ?_) | (refine G.atSto ?_; refine G.storeOwn rfl rfl (tyy rfl) Za rfl rfl rfl rfl ?_))
    all_goals first | (exfalso; omega) | (exfalso; simp_all; done) | skip
    all_goals (
      rw [show (!decide ((0 : Int) = 0)) = false from rfl]
      refine G.freezeRow (v := .slice A rows.length c) Za ?_
      intro h9 hle9 hs9
      exact G.done2 rfl rfl rfl _ Zu ⟨_, rfl, ⟨rows, hs9, hrows.mono (fun x => x.mono (by solve | repeat first | assumption | exact Zr _ | refine Zq ?_ Zp))⟩, rfl⟩)
  have hn0 : 0 < (cutM t).1.toNat := by omega
  obtain ⟨q1, q2⟩ := hqt 1 he0 h0
  have hqd : ∀ n, rdAll Q n (t.drop (cutM t).1.toNat) := fun n => (hqt (n + 1) he0 h0).2
  have hdl : (t.drop (cutM t).1.toNat).length + 1 <= t.length := by rw [List.length_drop]; omega
  have hR := hQ (t.take (cutM t).1.toNat) (by rw [List.length_take]; omega) q1
  cases hr : readM (t.take (cutM t).1.toNat) with
  | error e =>
    have ho : cnOne (t.take (cutM t).1.toNat) = .error true := by unfold cnOne; rw [hr]
    rw [connS_stop he0 h0 ho, List.append_nil]
    unfold ReadsM at hR
    rw [hr] at hR
    repeat' (first | (show G _ (.ops .seq _ (⟨some _, .call { callee := .value (.func 31), args := _, argTypes := _ }, _, _, _, none⟩ :: _) :: _) _ _ _; refine G.call callNext rfl rfl (hnx _) Ze ?_; rintro _ h6 H6 ⟨rfl, rfl⟩ hle6; unfold buf; rw [decide_eq_true hn0]) | (show G _ (.ops .seq _ (⟨some _, .call { callee := .value (.func 28), args := _, argTypes := _ }, _, _, _, none⟩ :: _) :: _) _ _ _; refine G.call callReadW rfl rfl (hR _ (hT.mono (by solve | repeat first | assumption | exact Zr _ | refine Zq ?_ Zp))) Ze ?_; rintro _ h7 H7 ⟨hq7, rfl⟩ hle7; obtain ⟨e9, pv9, kv9, nv9, av9, mv9, cv9, rfl, hV9⟩ := hq7.err_inv; obtain ⟨⟨pA9, pn9, pc9, rfl⟩, ⟨kA9, kn9, kc9, rfl⟩, ⟨nA9, nn9, nc9, rfl⟩, ⟨aA9, an9, ac9, rfl⟩, ⟨mA9, mn9, mc9, rfl⟩, ⟨cA9, cn9, cc9, rfl⟩⟩ := hV9.forms) | (refine G.atCode ?_; first | refine G.seq ?_ | refine G.region ?_ | refine G.block ?_ | refine G.skip ?_ | refine G.ret ?_ | (refine G.cond rfl ?_ ?_ <;> intro hc <;> (try simp only [tests, reduceCtorEq] at hc) <;> (try exact Zf))) | refine G.endOps ?_ | (refine G.atGd ?_; first | refine G.guardNoS rfl rfl rfl ?_ | (refine G.guardS rfl rfl rfl ?_ ?_ <;> intro hc <;> (try simp only [tests, reduceCtorEq] at hc) <;> (try exact Zf))) | (refine G.atBin ?_; first | (refine G.atNeq ?_; first | refine G.op rfl rfl ?_)) | refine G.op rfl rfl ?_ | (refine G.atLoad ?_; first | refine G.loadOwn1 rfl (tyy rfl) rfl rfl Za rfl rfl ?_) | (refine G.atFld ?_; first | refine G.fieldAddr rfl (tyy rfl) rfl rfl ?_) | (refine G.atSto ?_; refine G.storeOwn rfl rfl (tyy rfl) Za rfl rfl rfl rfl ?_) | (refine G.atAlc ?_; refine G.alloc (tyy rfl) rfl rfl ?_; intro _))
    all_goals first | (exfalso; omega) | (exfalso; simp_all; done) | skip
    all_goals (
      refine G.freezeRow (v := .slice A rows.length c) Za ?_
      intro h9 hle9 hs9
      exact G.done2 rfl rfl rfl _ Zu ⟨_, rfl, ⟨rows, hs9, hrows.mono (fun x => x.mono (by solve | repeat first | assumption | exact Zr _ | refine Zq ?_ Zp))⟩, rfl⟩)
  | ok m =>
    have hO : cnOne (t.take (cutM t).1.toNat) = if m.id = 0 \/ reqM m.op = false then .error true else if m.op = 2 then .error false else .ok m := by unfold cnOne; rw [hr]
    unfold ReadsM at hR
    rw [hr] at hR
    by_cases hb : m.id = 0 \/ reqM m.op = false
    . rw [if_pos hb] at hO
      rw [connS_stop he0 h0 hO, List.append_nil]
      repeat' (first | (show G _ (.ops .seq _ (⟨some _, .call { callee := .value (.func 31), args := _, argTypes := _ }, _, _, _, none⟩ :: _) :: _) _ _ _; refine G.call callNext rfl rfl (hnx _) Ze ?_; rintro _ h6 H6 ⟨rfl, rfl⟩ hle6; unfold buf; rw [decide_eq_true hn0]) | (show G _ (.ops .seq _ (⟨some _, .call { callee := .value (.func 28), args := _, argTypes := _ }, _, _, _, none⟩ :: _) :: _) _ _ _; refine G.call callReadW rfl rfl (hR _ (hT.mono (by solve | repeat first | assumption | exact Zr _ | refine Zq ?_ Zp))) Ze ?_; rintro _ h7 H7 ⟨hq7, rfl⟩ hle7; obtain ⟨pv9, kv9, nv9, av9, mv9, cv9, rfl, hV9⟩ := hq7.ok_inv; obtain ⟨⟨pA9, pn9, pc9, rfl⟩, ⟨kA9, kn9, kc9, rfl⟩, ⟨nA9, nn9, nc9, rfl⟩, ⟨aA9, an9, ac9, rfl⟩, ⟨mA9, mn9, mc9, rfl⟩, ⟨cA9, cn9, cc9, rfl⟩⟩ := hV9.forms) | (show G _ (.ops .seq _ (⟨some _, .call { callee := .value (.func 35), args := _, argTypes := _ }, _, _, _, none⟩ :: _) :: _) _ _ _; refine G.call callRequest rfl rfl (conn_Request _ _) Ze ?_; rintro _ h8 H8 ⟨rfl, rfl⟩ hle8) | (refine G.atCode ?_; first | refine G.seq ?_ | refine G.region ?_ | refine G.block ?_ | refine G.skip ?_ | refine G.ret ?_ | (refine G.cond rfl ?_ ?_ <;> intro hc <;> (try simp only [tests, reduceCtorEq] at hc) <;> (try exact Zf))) | refine G.endOps ?_ | refine G.endBlk ?_ | (refine G.atGd ?_; first | refine G.guardYes rfl rfl ?_ | refine G.guardNoS rfl rfl rfl ?_ | (refine G.guardS rfl rfl rfl ?_ ?_ <;> intro hc <;> (try simp only [tests, reduceCtorEq] at hc) <;> (try exact Zf))) | (refine G.atBin ?_; first | (refine G.atEql ?_; first | refine G.op rfl rfl ?_) | (refine G.atNeq ?_; first | refine G.op rfl rfl ?_)) | refine G.op rfl rfl ?_ | (refine G.atLoad ?_; first | refine G.loadOwn1 rfl (tyy rfl) rfl rfl Za rfl rfl ?_ | refine G.loadOwnA rfl (tyy rfl) rfl rfl Za rfl rfl ?_) | (refine G.atFld ?_; first | refine G.fieldAddr rfl (tyy rfl) rfl rfl ?_) | (refine G.atSto ?_; refine G.storeOwn rfl rfl (tyy rfl) Za rfl rfl rfl rfl ?_) | (refine G.atAlc ?_; refine G.alloc (tyy rfl) rfl rfl ?_; intro _) | (refine G.atBsl ?_; refine G.buildSlice (tyy rfl) (tyy rfl) rfl rfl rfl rfl ?_; intro _) | (refine G.atApp ?_; first | (refine G.append1 rfl rfl (tyy rfl) (tyy rfl) rfl rfl Za Za rfl rfl rfl Zo ?_; intro _; refine G.rowForm Take.hd ?_; rintro _ _ rfl)))
      all_goals first | (exfalso; omega) | (exfalso; simp_all; done) | skip
      all_goals (
        refine G.freezeRow (v := .slice A rows.length c) Za ?_
        intro h9 hle9 hs9
        exact G.done2 rfl rfl rfl _ Zu ⟨_, rfl, ⟨rows, hs9, hrows.mono (fun x => x.mono (by solve | repeat first | assumption | exact Zr _ | refine Zq ?_ Zp))⟩, rfl⟩)
    rw [if_neg hb] at hO
    obtain ⟨hid, hrq⟩ : m.id ≠ 0 /\ reqM m.op = true := by
      refine ⟨fun e => hb (.inl e), ?_⟩
      cases hc : reqM m.op with
      | true => rfl
      | false => exact absurd (.inr hc) hb
    have hRq := fun h => conn_Request m.op h
    rw [hrq] at hRq
    by_cases h2 : m.op = 2
    . rw [if_pos h2] at hO
      rw [connS_stop he0 h0 hO, List.append_nil]
      repeat' (first | (show G _ (.ops .seq _ (⟨some _, .call { callee := .value (.func 31), args := _, argTypes := _ }, _, _, _, none⟩ :: _) :: _) _ _ _; refine G.call callNext rfl rfl (hnx _) Ze ?_; rintro _ h6 H6 ⟨rfl, rfl⟩ hle6; unfold buf; rw [decide_eq_true hn0]) | (show G _ (.ops .seq _ (⟨some _, .call { callee := .value (.func 28), args := _, argTypes := _ }, _, _, _, none⟩ :: _) :: _) _ _ _; refine G.call callReadW rfl rfl (hR _ (hT.mono (by solve | repeat first | assumption | exact Zr _ | refine Zq ?_ Zp))) Ze ?_; rintro _ h7 H7 ⟨hq7, rfl⟩ hle7; obtain ⟨pv9, kv9, nv9, av9, mv9, cv9, rfl, hV9⟩ := hq7.ok_inv; obtain ⟨⟨pA9, pn9, pc9, rfl⟩, ⟨kA9, kn9, kc9, rfl⟩, ⟨nA9, nn9, nc9, rfl⟩, ⟨aA9, an9, ac9, rfl⟩, ⟨mA9, mn9, mc9, rfl⟩, ⟨cA9, cn9, cc9, rfl⟩⟩ := hV9.forms) | (show G _ (.ops .seq _ (⟨some _, .call { callee := .value (.func 35), args := _, argTypes := _ }, _, _, _, none⟩ :: _) :: _) _ _ _; refine G.call callRequest rfl rfl (hRq _) Ze ?_; rintro _ h8 H8 ⟨rfl, rfl⟩ hle8) | (refine G.atCode ?_; first | refine G.seq ?_ | refine G.region ?_ | refine G.block ?_ | refine G.skip ?_ | refine G.ret ?_ | (refine G.cond rfl ?_ ?_ <;> intro hc <;> (try simp only [tests, reduceCtorEq] at hc) <;> (try exact Zf))) | refine G.endOps ?_ | (refine G.atGd ?_; first | refine G.guardYes rfl rfl ?_ | (refine G.guardS rfl rfl rfl ?_ ?_ <;> intro hc <;> (try simp only [tests, reduceCtorEq] at hc) <;> (try exact Zf))) | (refine G.atBin ?_; first | (refine G.atEql ?_; first | refine G.op rfl rfl ?_) | (refine G.atNeq ?_; first | refine G.op rfl rfl ?_)) | refine G.op rfl rfl ?_ | (refine G.atLoad ?_; first | refine G.loadOwn1 rfl (tyy rfl) rfl rfl Za rfl rfl ?_) | (refine G.atFld ?_; first | refine G.fieldAddr rfl (tyy rfl) rfl rfl ?_) | (refine G.atSto ?_; refine G.storeOwn rfl rfl (tyy rfl) Za rfl rfl rfl rfl ?_) | (refine G.atAlc ?_; refine G.alloc (tyy rfl) rfl rfl ?_; intro _))
      all_goals first | (exfalso; omega) | (exfalso; simp_all; done) | skip
      all_goals (
        refine G.freezeRow (v := .slice A rows.length c) Za ?_
        intro h9 hle9 hs9
        exact G.done2 rfl rfl rfl _ Zu ⟨_, rfl, ⟨rows, hs9, hrows.mono (fun x => x.mono (by solve | repeat first | assumption | exact Zr _ | refine Zq ?_ Zp))⟩, rfl⟩)
    . rw [if_neg h2] at hO
      rw [connS_msg he0 h0 hO] at hS ⊢
      repeat' (first | (show G _ (.ops .seq _ (⟨some _, .call { callee := .value (.func 31), args := _, argTypes := _ }, _, _, _, none⟩ :: _) :: _) _ _ _; refine G.call callNext rfl rfl (hnx _) Ze ?_; rintro _ h6 H6 ⟨rfl, rfl⟩ hle6; unfold buf; rw [decide_eq_true hn0]) | (show G _ (.ops .seq _ (⟨some _, .call { callee := .value (.func 28), args := _, argTypes := _ }, _, _, _, none⟩ :: _) :: _) _ _ _; refine G.call callReadW rfl rfl (hR _ (hT.mono (by solve | repeat first | assumption | exact Zr _ | refine Zq ?_ Zp))) Ze ?_; rintro _ h7 H7 ⟨hq7, rfl⟩ hle7; obtain ⟨pv9, kv9, nv9, av9, mv9, cv9, rfl, hV9⟩ := hq7.ok_inv; obtain ⟨⟨pA9, pn9, pc9, rfl⟩, ⟨kA9, kn9, kc9, rfl⟩, ⟨nA9, nn9, nc9, rfl⟩, ⟨aA9, an9, ac9, rfl⟩, ⟨mA9, mn9, mc9, rfl⟩, ⟨cA9, cn9, cc9, rfl⟩⟩ := hV9.forms) | (show G _ (.ops .seq _ (⟨some _, .call { callee := .value (.func 35), args := _, argTypes := _ }, _, _, _, none⟩ :: _) :: _) _ _ _; refine G.call callRequest rfl rfl (hRq _) Ze ?_; rintro _ h8 H8 ⟨rfl, rfl⟩ hle8) | (refine G.atApp ?_; refine G.append1 rfl rfl (tyy rfl) (tyy rfl) rfl rfl Za Za rfl rfl rfl Zo ?_; intro _; refine G.rowForm Take.hd ?_; rintro _ _ rfl) | (refine G.atCode ?_; first | refine G.seq ?_ | refine G.region ?_ | refine G.block ?_ | refine G.skip ?_ | (refine G.cond rfl ?_ ?_ <;> intro hc <;> (try simp only [tests, reduceCtorEq] at hc) <;> (try exact Zf))) | refine G.endOps ?_ | refine G.endBlk ?_ | (refine G.atGd ?_; first | refine G.guardYes rfl rfl ?_ | (refine G.guardS rfl rfl rfl ?_ ?_ <;> intro hc <;> (try simp only [tests, reduceCtorEq] at hc) <;> (try exact Zf))) | (refine G.atBin ?_; first | (refine G.atEql ?_; first | refine G.op rfl rfl ?_) | (refine G.atNeq ?_; first | refine G.op rfl rfl ?_)) | refine G.op rfl rfl ?_ | (refine G.atLoad ?_; first | refine G.loadOwn1 rfl (tyy rfl) rfl rfl Za rfl rfl ?_ | refine G.loadOwnA rfl (tyy rfl) rfl rfl Za rfl rfl ?_) | (refine G.atFld ?_; first | refine G.fieldAddr rfl (tyy rfl) rfl rfl ?_) | (refine G.atSto ?_; refine G.storeOwn rfl rfl (tyy rfl) Za rfl rfl rfl rfl ?_) | (refine G.atAlc ?_; refine G.alloc (tyy rfl) rfl rfl ?_; intro _) | (refine G.atBsl ?_; refine G.buildSlice (tyy rfl) (tyy rfl) rfl rfl rfl rfl ?_; intro _))
      all_goals first | (exfalso; omega) | (exfalso; simp_all; done) | skip
      all_goals (
        rename_i A' c'
        refine G.again ⟨t.drop (cutM t).1.toNat, ms ++ [m], rows ++ [msR m (.slice pA9 pn9 pc9) (.slice kA9 kn9 kc9) (.slice nA9 nn9 nc9) (.slice aA9 an9 ac9) (.slice mA9 mn9 mc9) (.slice cA9 cn9 cc9)], A', c'⟩ ⟨rfl, rfl, trivial⟩ Zu ⟨?_, hrows.mono (fun x => x.mono (by solve | repeat first | assumption | exact Zr _ | refine Zq ?_ Zp)) |>.append (LC.one ⟨_, _, _, _, _, _, rfl, hV9.mono (by solve | repeat first | assumption | exact Zr _ | refine Zq ?_ Zp)⟩), ?_, hqd⟩ (by solve | repeat first | assumption | exact Zr _ | refine Zq ?_ Zp) (by simp only; omega)
        . simp only [List.append_assoc, List.singleton_append]
        . simp only [List.length_append, List.length_singleton]; omega)
end Go.Proofs.YtibkffoeioidlaaDoor
namespace Go.Proofs.YtibkffoeioidlaaDoor
set_option linter.all false
set_option maxRecDepth 4000
open Go.ChangeShapes Go.WideShapes Go.RowKit

theorem cellsMsg32 : Tryd.prog.cellsOf 51 = 32 := by kernel_rfl
section
variable {H : Type} {enc : TypeId × Value -> H} {W : World}
theorem msgs_open {fuel : Nat} {v : Value} {x : DataW H × List MemPlace} (h : DataW.trod enc Tryd.prog W 0 (fun _ => true) true fuel 26 [v] = some x) :
    ∃ l : List Ms, MssC (heapOf W) l v /\ (∀ m ∈ l, MsI m) /\ (l.map Ms.wt).sum + 1 <= 1 * Rows.uptoBulk x.1 := by
  obtain ⟨l, rows, h1, h2, h3, h4⟩ := sl_open (R := fun (a : Ms) r => MsC (heapOf W) a r /\ MsI a) (m := Ms.wt) (c := 1) Tryd.underlying26 cellsMsg32 (by decide) (fun n' _ cs x hh => by
    obtain ⟨m, pv, kv, nv, av, mv, cv, e, hV, hI, hw⟩ := ms_open hh
    exact ⟨m, ⟨⟨pv, kv, nv, av, mv, cv, e, hV⟩, hI⟩, by omega⟩) h
  refine ⟨l, ⟨rows, h1, LC.of l rows h2 (fun i b hb => ?_)⟩, fun m hm => ?_, h4⟩
  . obtain ⟨r, e, q, _⟩ := h3 i b hb
    exact ⟨r, e, q⟩
  . obtain ⟨i, hi⟩ := List.getElem?_of_mem hm
    obtain ⟨_, _, _, q⟩ := h3 i m hi
    exact q
end
end Go.Proofs.YtibkffoeioidlaaDoor
