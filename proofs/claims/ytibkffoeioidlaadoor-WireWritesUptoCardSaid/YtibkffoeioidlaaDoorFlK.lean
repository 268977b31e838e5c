/- Filters: filt.pieces, the checker's check, filt.Check; castellanref10's. -/
import Derived.Test.YtibkffoeioidlaaDoorFlC
namespace Go.Proofs.YtibkffoeioidlaaDoor
set_option linter.all false
set_option maxRecDepth 4000
open Go.RowKit

theorem callPieces : Callable Tryd.prog 117 := ⟨_, Tryd.func117, by kernel_rfl, rfl⟩
theorem callCheck : Callable Tryd.prog 111 := ⟨_, Tryd.func111, by kernel_rfl, rfl⟩
theorem callFCheck : Callable Tryd.prog 101 := ⟨_, Tryd.func101, by kernel_rfl, rfl⟩
theorem callRcheck : Callable Tryd.prog 112 := ⟨_, Tryd.func112, by kernel_rfl, rfl⟩
theorem callRCheck : Callable Tryd.prog 104 := ⟨_, Tryd.func104, by kernel_rfl, rfl⟩
theorem pcsOkF_step {b : Bool} {k : Int} {t : List UInt8} {ps : Pcs} : pcsOkF b ((k, t) :: ps) = (decide (t.length ≠ 0 /\ (k = 1 \/ (k = 0 /\ b = true) \/ (k = 2 /\ ps.length = 0))) && pcsOkF false ps) := by
  rw [pcsOkF]
  have h1 : (t = []) ↔ t.length = 0 := List.length_eq_zero_iff.symm
  have h2 : (ps = []) ↔ ps.length = 0 := List.length_eq_zero_iff.symm
  simp only [ne_eq, h1, h2, Bool.decide_and, decide_not]
set_option maxRecDepth 8000 in
set_option maxHeartbeats 1000000 in
theorem filt_pieces (ps : Pcs) (v : Value) (h : Heap) (hs : HSl h v 2 (pcsR ps)) : Spec Tryd.prog 117 [v] h [] (fun u _ H' => u = .bool (pcsOk ps) /\ H' = []) := by
  have hlen := hs.len
  have lp := pcsR_length ps
  generalize hR : pcsOkF true ps = R
  have hres : pcsOk ps = (decide (0 < ps.length) && R) := by
    unfold pcsOk
    rw [hR]
    cases ps <;> simp
  rw [hres]
  have hR0 : pcsOkF (decide ((0 : Nat) = 0)) (ps.drop 0) = R := hR
  clear hR hres
  refine Spec.enter Tryd.func117 rfl rfl ?_; intro w0
  repeat' (first | (refine G.atCode ?_; refine G.stopLoop ?_) | (refine G.atCode ?_; first | refine G.seq ?_ | refine G.region ?_ | refine G.block ?_) | refine G.endOps ?_ | refine G.op rfl rfl ?_ | (refine G.atLen ?_; first | refine G.lenImm rfl (tyy rfl) Zl rfl ?_))
  refine G.go ?_
  rw [lp]
  refine G.loop (σ := Nat) (fun i => [(7, .int .i64 i), (6, .int .i64 ps.length), (5, v), (0, v)])
    (fun _ => []) (fun i _ => i <= ps.length /\ pcsOkF (decide (i = 0)) (ps.drop i) = R) (fun i => ps.length - i) 0 ⟨rfl, rfl, rfl, rfl, trivial⟩ (SubH.nil _) ⟨Nat.zero_le _, hR0⟩ ?_
  rintro i h1 hle1 ⟨hi, hRi⟩
  have s1 : HSl h1 v 2 (pcsR ps) := hs.mono hle1
  by_cases hlt : i < ps.length
  . obtain ⟨⟨pk, pt⟩, hp⟩ : ∃ p, ps[i]? = some p := ⟨ps[i], List.getElem?_eq_getElem hlt⟩
    have hget := pcsR_get hp
    have hl3 : ([.int .i64 pk, str pt] : List Value).length = 2 := rfl
    have hdl : (ps.drop (i + 1)).length = ps.length - (i + 1) := List.length_drop
    rw [List.drop_eq_getElem_cons hlt, (List.getElem?_eq_some_iff.1 hp).2, pcsOkF_step, hdl] at hRi
    by_cases hg : pt.length ≠ 0 /\ (pk = 1 \/ (pk = 0 /\ i = 0) \/ (pk = 2 /\ ps.length - (i + 1) = 0))
    . rw [decide_eq_true (by simpa using hg), Bool.true_and] at hRi
      repeat' (first | (refine G.atIdx ?_; refine G.idxImm rfl rfl (tyy rfl) (tyy rfl) s1 Zj rfl (by omega) ?_; intro p1 r1 hx1 hp1; (rw [hget] at hx1); (obtain rfl := Option.some.inj hx1)) | (refine G.atLen ?_; refine G.lenImm rfl (tyy rfl) s1 rfl ?_; rw [lp]) | (refine G.atCode ?_; first | refine G.seq ?_ | refine G.region ?_ | refine G.block ?_ | refine G.skip ?_ | (refine G.cond rfl ?_ ?_ <;> intro hc <;> (try simp only [tests, reduceCtorEq] at hc) <;> (try exact Zf))) | refine G.endOps ?_ | refine G.endBlk ?_ | (refine G.atGd ?_; first | refine G.guardYes rfl rfl ?_ | refine G.guardNoS rfl rfl rfl ?_ | (refine G.guardS rfl rfl rfl ?_ ?_ <;> intro hc <;> (try simp only [tests, reduceCtorEq] at hc) <;> (try exact Zf))) | (refine G.atBin ?_; first | (refine G.atAdd ?_; first | refine G.arith rfl rfl rfl rfl rfl Zi ?_) | (refine G.atSub ?_; first | refine G.arith rfl rfl rfl rfl rfl Zi ?_) | (refine G.atEql ?_; first | refine G.op rfl rfl ?_ | refine G.eqStr0 rfl rfl rfl ?_) | refine G.op rfl rfl ?_) | refine G.op rfl rfl ?_ | (refine G.atLoad ?_; first | refine G.loadOwn1 rfl (tyy rfl) rfl rfl Za rfl rfl ?_ | refine G.loadImmA rfl (tyy rfl) rfl rfl Zp Zp rfl ?_) | (refine G.atFld ?_; first | refine G.fieldAddr rfl (tyy rfl) rfl rfl ?_) | (refine G.atSto ?_; refine G.storeOwn rfl rfl (tyy rfl) Za rfl rfl rfl rfl ?_) | (refine G.atAlc ?_; refine G.alloc (tyy rfl) rfl rfl ?_; intro _))
      all_goals first
        | (exfalso; simp only [← List.length_eq_zero_iff] at *; omega)
        | exact G.again (i + 1) ⟨sint (by omega), rfl, rfl, rfl, trivial⟩ (SubH.nil _) ⟨by omega, by simpa using hRi⟩ (by solve | repeat first | assumption | exact Zr _ | refine Zq ?_ Zp) (by omega)
        | skip
    . rw [decide_eq_false (by simpa using hg), Bool.false_and] at hRi
      subst hRi
      rw [Bool.and_false]
      repeat' (first | (refine G.atIdx ?_; refine G.idxImm rfl rfl (tyy rfl) (tyy rfl) s1 Zj rfl (by omega) ?_; intro p1 r1 hx1 hp1; (rw [hget] at hx1); (obtain rfl := Option.some.inj hx1)) | (refine G.atLen ?_; refine G.lenImm rfl (tyy rfl) s1 rfl ?_; rw [lp]) | (refine G.atCode ?_; first | refine G.seq ?_ | refine G.region ?_ | refine G.block ?_ | refine G.skip ?_ | refine G.ret ?_ | (refine G.cond rfl ?_ ?_ <;> intro hc <;> (try simp only [tests, reduceCtorEq] at hc) <;> (try exact Zf))) | refine G.endOps ?_ | (refine G.atGd ?_; first | refine G.guardYes rfl rfl ?_ | refine G.guardNoS rfl rfl rfl ?_ | refine G.guardU rfl rfl rfl ?_ | (refine G.guardS rfl rfl rfl ?_ ?_ <;> intro hc <;> (try simp only [tests, reduceCtorEq] at hc) <;> (try exact Zf))) | (refine G.atBin ?_; first | (refine G.atSub ?_; first | refine G.arith rfl rfl rfl rfl rfl Zi ?_) | (refine G.atEql ?_; first | refine G.op rfl rfl ?_ | refine G.eqStr0 rfl rfl rfl ?_) | refine G.op rfl rfl ?_) | refine G.op rfl rfl ?_ | (refine G.atLoad ?_; first | refine G.loadOwn1 rfl (tyy rfl) rfl rfl Za rfl rfl ?_ | refine G.loadImmA rfl (tyy rfl) rfl rfl Zp Zp rfl ?_) | (refine G.atFld ?_; first | refine G.fieldAddr rfl (tyy rfl) rfl rfl ?_) | (refine G.atSto ?_; refine G.storeOwn rfl rfl (tyy rfl) Za rfl rfl rfl rfl ?_) | (refine G.atAlc ?_; refine G.alloc (tyy rfl) rfl rfl ?_; intro _))
      all_goals first
        | exact G.done1 rfl rfl _ (SubH.nil _) ⟨rfl, rfl⟩
        | (exfalso; simp only [← List.length_eq_zero_iff] at *; omega)
        | skip
  . obtain rfl : i = ps.length := by omega
    rw [List.drop_eq_nil_of_le (Nat.le_refl _), pcsOkF] at hRi
    subst hRi
    repeat' (first | (refine G.atLen ?_; refine G.lenImm rfl (tyy rfl) s1 rfl ?_; rw [lp]) | (refine G.atCode ?_; first | refine G.seq ?_ | refine G.region ?_ | refine G.exit rfl ?_ | refine G.ret ?_ | (refine G.cond rfl ?_ ?_ <;> intro hc <;> (try simp only [tests, reduceCtorEq] at hc) <;> (try exact Zf))) | refine G.endOps ?_ | (refine G.atBin ?_; first | refine G.op rfl rfl ?_) | refine G.op rfl rfl ?_)
    all_goals first | (exfalso; omega) | exact G.done1 rfl rfl _ (SubH.nil _) ⟨(by rw [Bool.and_true]; exact congrArg Value.bool (decide_eq_decide.2 (by omega))), rfl⟩ | skip
abbrev ckr (g : Nat) (n : Int) : Chunk := .blk g [.int .i64 n] 185
def ChkR (g : Nat) (u : Value) (H' : List Chunk) : Except Int Nat -> Prop
  | .error e => u = .int .i64 e /\ e ≠ 0 /\ ∃ n' : Int, H' = [ckr g n']
  | .ok n' => u = .int .i64 0 /\ H' = [ckr g n']
theorem chkM_n : ∀ (d n : Nat) (f : Fl) (n' : Nat), chkM d n f = .ok n' -> n' <= 1000
  | 0, n, f, n', h => by simp [chkM] at h
  | d + 1, n, .mk k a v ps ks, n', h => by
    have ih : ∀ (ks : List Fl) (n n' : Nat), n <= 1000 -> chkKs (chkM d) n ks = .ok n' -> n' <= 1000 := by
      intro ks
      induction ks with
      | nil => intro n n' hn h; simp only [chkKs, Except.ok.injEq] at h; omega
      | cons f ks ihk =>
        intro n n' hn h
        rw [chkKs] at h
        split at h
        . cases h
        . rename_i n1 h1
          exact ihk _ _ (chkM_n d _ _ _ h1) h
    rw [chkM] at h
    split at h
    . cases h
    . split at h
      . cases h
      . split at h
        . cases h
        . split at h
          . exact ih _ _ _ (by omega) h
          . split at h
            . cases h
            . split at h
              . cases h
              . injection h with h; omega
set_option maxRecDepth 8000 in
set_option maxHeartbeats 2000000 in
theorem filt_check : ∀ (d : Nat), d <= 64 -> ∀ (g n : Nat) (f : Fl) (r : List Value) (h : Heap), n <= 1000 -> FlC h f r →
    Spec Tryd.prog 111 [.pointer (some ⟨g, 0, none⟩), .agg r.toArray, .int .i64 (65 - (d : Int))] h [ckr g n] (fun u _ H' => ChkR g u H' (chkM d n f)) := by
  intro d
  induction d with
  | zero =>
    intro hd g n f r h hn hf
    obtain ⟨k, a, v, ps, ks, A, c, B, d, rowa, rfl, rfl, sp, sa, ka, la⟩ := hf.box
    rw [show chkM 0 n (.mk k a v ps ks) = .error 6 from rfl]
    unfold ckr
    refine Spec.enter Tryd.func111 rfl rfl ?_; intro w0
    repeat' (first | (refine G.atCode ?_; first | refine G.seq ?_ | refine G.region ?_ | refine G.ret ?_ | (refine G.cond rfl ?_ ?_ <;> intro hc <;> (try simp only [tests, reduceCtorEq] at hc) <;> (try exact Zf))) | refine G.endOps ?_ | (refine G.atBin ?_; first | refine G.op rfl rfl ?_) | refine G.op rfl rfl ?_ | (refine G.atBox ?_; refine G.box rfl rfl rfl ?_; intro _))
    all_goals first | (exfalso; omega) | exact G.done1 rfl rfl [ckr g n] Zu ⟨rfl, by decide, _, rfl⟩
  | succ dd ih =>
    intro hd g n f r h hn hf
    have ih := ih (by omega)
    obtain ⟨k, a, v, ps, ks, A, c, B, d, rowa, rfl, rfl, sp, sa, ka, la⟩ := hf.box
    have hlp := sp.len
    have hlk := sa.len
    have lp := pcsR_length ps
    clear hf
    unfold ckr
    by_cases h1 : 1000 < n + 1
    . rw [show chkM (dd + 1) n (.mk k a v ps ks) = .error 9 by rw [chkM, if_pos h1]]
      refine Spec.enter Tryd.func111 rfl rfl ?_; intro w0
      repeat' (first | (refine G.atCode ?_; first | refine G.seq ?_ | refine G.region ?_ | refine G.skip ?_ | refine G.ret ?_ | (refine G.cond rfl ?_ ?_ <;> intro hc <;> (try simp only [tests, reduceCtorEq] at hc) <;> (try exact Zf))) | refine G.endOps ?_ | (refine G.atBin ?_; first | (refine G.atAdd ?_; first | refine G.arith rfl rfl rfl rfl rfl Zi ?_) | refine G.op rfl rfl ?_) | refine G.op rfl rfl ?_ | (refine G.atLoad ?_; first | refine G.loadOwn1 rfl (tyy rfl) rfl rfl Za rfl rfl ?_) | (refine G.atFld ?_; first | refine G.fieldAddr rfl (tyy rfl) rfl rfl ?_) | (refine G.atSto ?_; refine G.storeOwn rfl rfl (tyy rfl) Za rfl rfl rfl rfl ?_) | (refine G.atBox ?_; refine G.box rfl rfl rfl ?_; intro _))
      all_goals first | (exfalso; omega) | exact G.done1 rfl rfl [ckr g _] Zu ⟨rfl, by decide, _, rfl⟩
    by_cases h2 : k < 0 \/ 8 < k
    . rw [show chkM (dd + 1) n (.mk k a v ps ks) = .error 24 by rw [chkM, if_neg h1, if_pos h2]]
      refine Spec.enter Tryd.func111 rfl rfl ?_; intro w0
      repeat' (first | (refine G.atCode ?_; first | refine G.seq ?_ | refine G.region ?_ | refine G.block ?_ | refine G.skip ?_ | refine G.ret ?_ | (refine G.cond rfl ?_ ?_ <;> intro hc <;> (try simp only [tests, reduceCtorEq] at hc) <;> (try exact Zf))) | refine G.endOps ?_ | (refine G.atGd ?_; first | refine G.guardYes rfl rfl ?_ | refine G.guardNoS rfl rfl rfl ?_ | (refine G.guardS rfl rfl rfl ?_ ?_ <;> intro hc <;> (try simp only [tests, reduceCtorEq] at hc) <;> (try exact Zf))) | (refine G.atBin ?_; first | (refine G.atAdd ?_; first | refine G.arith rfl rfl rfl rfl rfl Zi ?_) | refine G.op rfl rfl ?_) | refine G.op rfl rfl ?_ | (refine G.atLoad ?_; first | refine G.loadOwn1 rfl (tyy rfl) rfl rfl Za rfl rfl ?_) | (refine G.atFld ?_; first | refine G.fieldAddr rfl (tyy rfl) rfl rfl ?_) | (refine G.atSto ?_; refine G.storeOwn rfl rfl (tyy rfl) Za rfl rfl rfl rfl ?_) | (refine G.atBox ?_; refine G.box rfl rfl rfl ?_; intro _))
      all_goals first | (exfalso; omega) | exact G.done1 rfl rfl [ckr g _] Zu ⟨rfl, by decide, _, rfl⟩
    by_cases h3 : k = 2 /\ ks.length ≠ 1
    . rw [show chkM (dd + 1) n (.mk k a v ps ks) = .error 2 by rw [chkM, if_neg h1, if_neg h2, if_pos h3]]
      refine Spec.enter Tryd.func111 rfl rfl ?_; intro w0
      repeat' (first | (refine G.atCode ?_; first | refine G.seq ?_ | refine G.region ?_ | refine G.block ?_ | refine G.skip ?_ | refine G.ret ?_ | (refine G.cond rfl ?_ ?_ <;> intro hc <;> (try simp only [tests, reduceCtorEq] at hc) <;> (try exact Zf))) | refine G.endOps ?_ | (refine G.atGd ?_; first | refine G.guardYes rfl rfl ?_ | (refine G.guardS rfl rfl rfl ?_ ?_ <;> intro hc <;> (try simp only [tests, reduceCtorEq] at hc) <;> (try exact Zf))) | (refine G.atBin ?_; first | (refine G.atAdd ?_; first | refine G.arith rfl rfl rfl rfl rfl Zi ?_) | (refine G.atEql ?_; first | refine G.op rfl rfl ?_) | (refine G.atNeq ?_; first | refine G.op rfl rfl ?_) | refine G.op rfl rfl ?_) | refine G.op rfl rfl ?_ | (refine G.atLen ?_; first | refine G.lenSlice rfl (tyy rfl) rfl ?_) | (refine G.atLoad ?_; first | refine G.loadOwn1 rfl (tyy rfl) rfl rfl Za rfl rfl ?_) | (refine G.atFld ?_; first | refine G.fieldAddr rfl (tyy rfl) rfl rfl ?_) | (refine G.atSto ?_; refine G.storeOwn rfl rfl (tyy rfl) Za rfl rfl rfl rfl ?_) | (refine G.atBox ?_; refine G.box rfl rfl rfl ?_; intro _))
      all_goals first | (exfalso; omega) | exact G.done1 rfl rfl [ckr g _] Zu ⟨rfl, by decide, _, rfl⟩
    by_cases h4 : k <= 2
    . have e : chkM (dd + 1) n (.mk k a v ps ks) = chkKs (chkM dd) (n + 1) ks := by rw [chkM, if_neg h1, if_neg h2, if_neg h3, if_pos h4]
      rw [e]
      generalize hR : chkKs (chkM dd) (n + 1) ks = R
      have hR0 : chkKs (chkM dd) (n + 1) (ks.drop 0) = R := hR
      clear hR e
      refine Spec.enter Tryd.func111 rfl rfl ?_; intro w0
      repeat' (first | (refine G.atCode ?_; refine G.stopLoop ?_) | (refine G.atCode ?_; first | refine G.seq ?_ | refine G.region ?_ | refine G.block ?_ | refine G.skip ?_ | (refine G.cond rfl ?_ ?_ <;> intro hc <;> (try simp only [tests, reduceCtorEq] at hc) <;> (try exact Zf))) | refine G.endOps ?_ | (refine G.atGd ?_; first | refine G.guardYes rfl rfl ?_ | refine G.guardNoS rfl rfl rfl ?_ | (refine G.guardS rfl rfl rfl ?_ ?_ <;> intro hc <;> (try simp only [tests, reduceCtorEq] at hc) <;> (try exact Zf))) | (refine G.atBin ?_; first | (refine G.atAdd ?_; first | refine G.arith rfl rfl rfl rfl rfl Zi ?_) | (refine G.atEql ?_; first | refine G.op rfl rfl ?_) | (refine G.atNeq ?_; first | refine G.op rfl rfl ?_) | refine G.op rfl rfl ?_) | refine G.op rfl rfl ?_ | (refine G.atLen ?_; first | refine G.lenSlice rfl (tyy rfl) rfl ?_) | (refine G.atLoad ?_; first | refine G.loadOwn1 rfl (tyy rfl) rfl rfl Za rfl rfl ?_) | (refine G.atFld ?_; first | refine G.fieldAddr rfl (tyy rfl) rfl rfl ?_) | (refine G.atSto ?_; refine G.storeOwn rfl rfl (tyy rfl) Za rfl rfl rfl rfl ?_) | (refine G.atBox ?_; refine G.box rfl rfl rfl ?_; intro _))
      all_goals first | (exfalso; omega) | skip
      all_goals
        refine G.go ?_
        refine G.loop (σ := Nat × Nat) (fun x => [(50, .int .i64 x.1), (49, .int .i64 ks.length), (48, .slice B ks.length d), (0, .pointer (some ⟨g, 0, none⟩)), (2, .int .i64 (65 - ((dd + 1 : Nat) : Int)))])
          (fun x => [.blk g [.int .i64 x.2] 185]) (fun x _ => x.1 <= ks.length /\ x.2 <= 1000 /\ chkKs (chkM dd) x.2 (ks.drop x.1) = R) (fun x => ks.length - x.1) ⟨0, n + 1⟩ ⟨rfl, rfl, rfl, rfl, rfl, trivial⟩ Zu ⟨Nat.zero_le _, by simp only; omega, hR0⟩ ?_
        rintro ⟨i, m⟩ h5 hle5 ⟨hi, hm, hRi⟩
        simp only at hi hm hRi
        refine G.norm (by (try dsimp only) <;> exact rfl) (by (try dsimp only) <;> exact rfl) ?_
        by_cases hlt : i < ks.length
        . obtain ⟨f, hf⟩ : ∃ f, ks[i]? = some f := ⟨ks[i], List.getElem?_eq_getElem hlt⟩
          obtain ⟨q1, e1, n1⟩ := ka.get hf
          have n1 := n1.mono' hle5
          have t1 : HSl h5 (.slice B ks.length d) 5 rowa := sa.mono hle5
          have l1 : q1.length = 5 := t1.rowed q1 (List.mem_of_getElem? e1)
          rw [List.drop_eq_getElem_cons hlt, (List.getElem?_eq_some_iff.1 hf).2, chkKs] at hRi
          obtain ⟨k9, a9, v9, A9, m9, q9, B9, p9, r9, rfl⟩ := n1.shp
          have hcall := ih g m f _ h5 hm n1
          rw [show 65 - (dd : Int) = 65 - ((dd + 1 : Nat) : Int) + 1 by omega] at hcall
          cases hf1 : chkM dd m f with
          | error e =>
            rw [hf1] at hRi hcall
            simp only at hRi
            subst hRi
            repeat' (first | (refine G.atIdx ?_; refine G.idxImm rfl rfl (tyy rfl) (tyy rfl) t1 Zj rfl (by omega) ?_; intro p1 r1 hx1 hp1; (rw [e1] at hx1); (obtain rfl := Option.some.inj hx1)) | (show G _ (.ops .seq _ (⟨some _, .call { callee := .value (.func 111), args := _, argTypes := _ }, _, _, _, none⟩ :: _) :: _) _ _ _; refine G.call callCheck rfl rfl hcall Ze ?_; rintro _ h9 H9 ⟨rfl, he0, n9, rfl⟩ hle9) | (refine G.atCode ?_; first | refine G.seq ?_ | refine G.region ?_ | refine G.block ?_ | refine G.skip ?_ | refine G.ret ?_ | (refine G.cond rfl ?_ ?_ <;> intro hc <;> (try simp only [tests, reduceCtorEq] at hc) <;> (try exact Zf))) | refine G.endOps ?_ | (refine G.atBin ?_; first | (refine G.atAdd ?_; first | refine G.arith rfl rfl rfl rfl rfl Zi ?_) | (refine G.atNeq ?_; first | refine G.op rfl rfl ?_) | refine G.op rfl rfl ?_) | refine G.op rfl rfl ?_ | (refine G.atLoad ?_; first | refine G.loadOwnA rfl (tyy rfl) rfl rfl Za rfl rfl ?_ | refine G.loadImmA rfl (tyy rfl) rfl rfl Zp Zp rfl ?_) | (refine G.atSto ?_; refine G.storeOwn rfl rfl (tyy rfl) Za rfl rfl rfl rfl ?_) | (refine G.atAlc ?_; refine G.alloc (tyy rfl) rfl rfl ?_; intro _))
            all_goals first | (exfalso; omega) | exact G.done1 rfl rfl [ckr g _] Zu ⟨rfl, he0, _, rfl⟩ | skip
          | ok n9 =>
            have hn9 := chkM_n _ _ _ _ hf1
            rw [hf1] at hRi hcall
            simp only at hRi
            repeat' (first | (refine G.atIdx ?_; refine G.idxImm rfl rfl (tyy rfl) (tyy rfl) t1 Zj rfl (by omega) ?_; intro p1 r1 hx1 hp1; (rw [e1] at hx1); (obtain rfl := Option.some.inj hx1)) | (show G _ (.ops .seq _ (⟨some _, .call { callee := .value (.func 111), args := _, argTypes := _ }, _, _, _, none⟩ :: _) :: _) _ _ _; refine G.call callCheck rfl rfl hcall Ze ?_; rintro _ h9 H9 ⟨rfl, rfl⟩ hle9) | (refine G.atCode ?_; first | refine G.seq ?_ | refine G.region ?_ | refine G.block ?_ | refine G.skip ?_ | (refine G.cond rfl ?_ ?_ <;> intro hc <;> (try simp only [tests, reduceCtorEq] at hc) <;> (try exact Zf))) | refine G.endOps ?_ | refine G.endBlk ?_ | (refine G.atBin ?_; first | (refine G.atAdd ?_; first | refine G.arith rfl rfl rfl rfl rfl Zi ?_) | (refine G.atNeq ?_; first | refine G.op rfl rfl ?_) | refine G.op rfl rfl ?_) | refine G.op rfl rfl ?_ | (refine G.atLoad ?_; first | refine G.loadOwnA rfl (tyy rfl) rfl rfl Za rfl rfl ?_ | refine G.loadImmA rfl (tyy rfl) rfl rfl Zp Zp rfl ?_) | (refine G.atSto ?_; refine G.storeOwn rfl rfl (tyy rfl) Za rfl rfl rfl rfl ?_) | (refine G.atAlc ?_; refine G.alloc (tyy rfl) rfl rfl ?_; intro _))
            all_goals first | (exfalso; omega) | exact G.again ⟨i + 1, n9⟩ ⟨sint (by simp), rfl, rfl, rfl, rfl, trivial⟩ Zu ⟨by simp only; omega, hn9, hRi⟩ (by solve | repeat first | assumption | exact Zr _ | refine Zq ?_ Zp) (by simp only; omega) | skip
        . obtain rfl : i = ks.length := by omega
          rw [List.drop_eq_nil_of_le (Nat.le_refl _), chkKs] at hRi
          subst hRi
          repeat' (first | (refine G.atCode ?_; first | refine G.seq ?_ | refine G.region ?_ | refine G.exit rfl ?_ | refine G.ret ?_ | (refine G.cond rfl ?_ ?_ <;> intro hc <;> (try simp only [tests, reduceCtorEq] at hc) <;> (try exact Zf))) | refine G.endOps ?_ | refine G.endBlk ?_ | (refine G.atBin ?_; first | refine G.op rfl rfl ?_) | refine G.op rfl rfl ?_)
          all_goals first | (exfalso; omega) | exact G.done1 rfl rfl [ckr g m] Zu ⟨rfl, rfl⟩ | skip
    cases h5 : typeM a with
    | false =>
      rw [show chkM (dd + 1) n (.mk k a v ps ks) = .error 20 by rw [chkM, if_neg h1, if_neg h2, if_neg h3, if_neg h4, if_pos h5]]
      refine Spec.enter Tryd.func111 rfl rfl ?_; intro w0
      repeat' (first | (show G _ (.ops .seq _ (⟨some _, .call { callee := .value (.func 116), args := _, argTypes := _ }, _, _, _, none⟩ :: _) :: _) _ _ _; refine G.call callType9 rfl rfl (dn_Type _ _) Ze ?_; rintro _ h6 H6 ⟨rfl, rfl⟩ hle6; rw [h5]) | (refine G.atCode ?_; first | refine G.seq ?_ | refine G.region ?_ | refine G.block ?_ | refine G.skip ?_ | refine G.ret ?_ | (refine G.cond rfl ?_ ?_ <;> intro hc <;> (try simp only [tests, reduceCtorEq] at hc) <;> (try exact Zf))) | refine G.endOps ?_ | (refine G.atGd ?_; first | refine G.guardYes rfl rfl ?_ | refine G.guardNoS rfl rfl rfl ?_ | (refine G.guardS rfl rfl rfl ?_ ?_ <;> intro hc <;> (try simp only [tests, reduceCtorEq] at hc) <;> (try exact Zf))) | (refine G.atBin ?_; first | (refine G.atAdd ?_; first | refine G.arith rfl rfl rfl rfl rfl Zi ?_) | (refine G.atEql ?_; first | refine G.op rfl rfl ?_) | refine G.op rfl rfl ?_) | refine G.op rfl rfl ?_ | (refine G.atLoad ?_; first | refine G.loadOwn1 rfl (tyy rfl) rfl rfl Za rfl rfl ?_) | (refine G.atFld ?_; first | refine G.fieldAddr rfl (tyy rfl) rfl rfl ?_) | (refine G.atSto ?_; refine G.storeOwn rfl rfl (tyy rfl) Za rfl rfl rfl rfl ?_) | (refine G.atBox ?_; refine G.box rfl rfl rfl ?_; intro _))
      all_goals first | (exfalso; omega) | exact G.done1 rfl rfl [ckr g _] Zu ⟨rfl, by decide, _, rfl⟩ | skip
    | true =>
      have h5' : ¬ typeM a = false := by rw [h5]; simp
      by_cases h6 : k = 4
      . cases h7 : pcsOk ps with
        | false =>
          rw [show chkM (dd + 1) n (.mk k a v ps ks) = .error 4 by rw [chkM, if_neg h1, if_neg h2, if_neg h3, if_neg h4, if_neg h5', if_pos ⟨h6, h7⟩]]
          refine Spec.enter Tryd.func111 rfl rfl ?_; intro w0
          repeat' (first | (show G _ (.ops .seq _ (⟨some _, .call { callee := .value (.func 116), args := _, argTypes := _ }, _, _, _, none⟩ :: _) :: _) _ _ _; refine G.call callType9 rfl rfl (dn_Type _ _) Ze ?_; rintro _ h8 H8 ⟨rfl, rfl⟩ hle8; rw [h5]) | (show G _ (.ops .seq _ (⟨some _, .call { callee := .value (.func 117), args := _, argTypes := _ }, _, _, _, none⟩ :: _) :: _) _ _ _; refine G.call callPieces rfl rfl (filt_pieces ps _ _ (sp.mono (by solve | repeat first | assumption | exact Zr _ | refine Zq ?_ Zp))) Ze ?_; rintro _ h9 H9 ⟨rfl, rfl⟩ hle9; rw [h7]) | (refine G.atCode ?_; first | refine G.seq ?_ | refine G.region ?_ | refine G.block ?_ | refine G.skip ?_ | refine G.ret ?_ | (refine G.cond rfl ?_ ?_ <;> intro hc <;> (try simp only [tests, reduceCtorEq] at hc) <;> (try exact Zf))) | refine G.endOps ?_ | (refine G.atGd ?_; first | refine G.guardYes rfl rfl ?_ | refine G.guardNoS rfl rfl rfl ?_ | (refine G.guardS rfl rfl rfl ?_ ?_ <;> intro hc <;> (try simp only [tests, reduceCtorEq] at hc) <;> (try exact Zf))) | (refine G.atBin ?_; first | (refine G.atAdd ?_; first | refine G.arith rfl rfl rfl rfl rfl Zi ?_) | (refine G.atEql ?_; first | refine G.op rfl rfl ?_) | refine G.op rfl rfl ?_) | refine G.op rfl rfl ?_ | (refine G.atLoad ?_; first | refine G.loadOwn1 rfl (tyy rfl) rfl rfl Za rfl rfl ?_) | (refine G.atFld ?_; first | refine G.fieldAddr rfl (tyy rfl) rfl rfl ?_) | (refine G.atSto ?_; refine G.storeOwn rfl rfl (tyy rfl) Za rfl rfl rfl rfl ?_) | (refine G.atBox ?_; refine G.box rfl rfl rfl ?_; intro _))
          all_goals first | (exfalso; omega) | exact G.done1 rfl rfl [ckr g _] Zu ⟨rfl, by decide, _, rfl⟩ | skip
        | true =>
          rw [show chkM (dd + 1) n (.mk k a v ps ks) = .ok (n + 1) by rw [chkM, if_neg h1, if_neg h2, if_neg h3, if_neg h4, if_neg h5', if_neg (by rw [h7]; simp)]]
          refine Spec.enter Tryd.func111 rfl rfl ?_; intro w0
          repeat' (first | (show G _ (.ops .seq _ (⟨some _, .call { callee := .value (.func 116), args := _, argTypes := _ }, _, _, _, none⟩ :: _) :: _) _ _ _; refine G.call callType9 rfl rfl (dn_Type _ _) Ze ?_; rintro _ h8 H8 ⟨rfl, rfl⟩ hle8; rw [h5]) | (show G _ (.ops .seq _ (⟨some _, .call { callee := .value (.func 117), args := _, argTypes := _ }, _, _, _, none⟩ :: _) :: _) _ _ _; refine G.call callPieces rfl rfl (filt_pieces ps _ _ (sp.mono (by solve | repeat first | assumption | exact Zr _ | refine Zq ?_ Zp))) Ze ?_; rintro _ h9 H9 ⟨rfl, rfl⟩ hle9; rw [h7]) | (refine G.atCode ?_; first | refine G.seq ?_ | refine G.region ?_ | refine G.block ?_ | refine G.skip ?_ | refine G.ret ?_ | (refine G.cond rfl ?_ ?_ <;> intro hc <;> (try simp only [tests, reduceCtorEq] at hc) <;> (try exact Zf))) | refine G.endOps ?_ | refine G.endBlk ?_ | (refine G.atGd ?_; first | refine G.guardYes rfl rfl ?_ | refine G.guardNoS rfl rfl rfl ?_ | (refine G.guardS rfl rfl rfl ?_ ?_ <;> intro hc <;> (try simp only [tests, reduceCtorEq] at hc) <;> (try exact Zf))) | (refine G.atBin ?_; first | (refine G.atAdd ?_; first | refine G.arith rfl rfl rfl rfl rfl Zi ?_) | (refine G.atEql ?_; first | refine G.op rfl rfl ?_) | refine G.op rfl rfl ?_) | refine G.op rfl rfl ?_ | (refine G.atLoad ?_; first | refine G.loadOwn1 rfl (tyy rfl) rfl rfl Za rfl rfl ?_) | (refine G.atFld ?_; first | refine G.fieldAddr rfl (tyy rfl) rfl rfl ?_) | (refine G.atSto ?_; refine G.storeOwn rfl rfl (tyy rfl) Za rfl rfl rfl rfl ?_) | (refine G.atBox ?_; refine G.box rfl rfl rfl ?_; intro _))
          all_goals first | (exfalso; omega) | exact G.done1 rfl rfl [ckr g (n + 1 : Nat)] Zu ⟨rfl, rfl⟩ | skip
      . rw [show chkM (dd + 1) n (.mk k a v ps ks) = .ok (n + 1) by rw [chkM, if_neg h1, if_neg h2, if_neg h3, if_neg h4, if_neg h5', if_neg (fun e => h6 e.1)]]
        refine Spec.enter Tryd.func111 rfl rfl ?_; intro w0
        repeat' (first | (show G _ (.ops .seq _ (⟨some _, .call { callee := .value (.func 116), args := _, argTypes := _ }, _, _, _, none⟩ :: _) :: _) _ _ _; refine G.call callType9 rfl rfl (dn_Type _ _) Ze ?_; rintro _ h8 H8 ⟨rfl, rfl⟩ hle8; rw [h5]) | (refine G.atCode ?_; first | refine G.seq ?_ | refine G.region ?_ | refine G.block ?_ | refine G.skip ?_ | refine G.ret ?_ | (refine G.cond rfl ?_ ?_ <;> intro hc <;> (try simp only [tests, reduceCtorEq] at hc) <;> (try exact Zf))) | refine G.endOps ?_ | refine G.endBlk ?_ | (refine G.atGd ?_; first | refine G.guardYes rfl rfl ?_ | refine G.guardNoS rfl rfl rfl ?_ | (refine G.guardS rfl rfl rfl ?_ ?_ <;> intro hc <;> (try simp only [tests, reduceCtorEq] at hc) <;> (try exact Zf))) | (refine G.atBin ?_; first | (refine G.atAdd ?_; first | refine G.arith rfl rfl rfl rfl rfl Zi ?_) | (refine G.atEql ?_; first | refine G.op rfl rfl ?_) | refine G.op rfl rfl ?_) | refine G.op rfl rfl ?_ | (refine G.atLoad ?_; first | refine G.loadOwn1 rfl (tyy rfl) rfl rfl Za rfl rfl ?_) | (refine G.atFld ?_; first | refine G.fieldAddr rfl (tyy rfl) rfl rfl ?_) | (refine G.atSto ?_; refine G.storeOwn rfl rfl (tyy rfl) Za rfl rfl rfl rfl ?_) | (refine G.atBox ?_; refine G.box rfl rfl rfl ?_; intro _))
        all_goals first | (exfalso; omega) | exact G.done1 rfl rfl [ckr g (n + 1 : Nat)] Zu ⟨rfl, rfl⟩ | skip
def chkE (f : Fl) : Int := match chkM 64 0 f with
  | .error e => e
  | .ok _ => 0
theorem filt_Check (f : Fl) (r : List Value) (h : Heap) (hf : FlC h f r) : Spec Tryd.prog 101 [.agg r.toArray] h [] (fun u _ H' => u = .int .i64 (chkE f) /\ H' = []) := by
  have hcall := fun g => filt_check 64 (by omega) g 0 f r h (by omega) hf
  obtain ⟨k9, a9, v9, A9, m9, q9, B9, p9, r9, rfl⟩ := hf.shp
  unfold chkE
  cases hm : chkM 64 0 f with
  | error e =>
    rw [hm] at hcall
    refine Spec.enter Tryd.func101 rfl rfl ?_; intro w0
    repeat' (first | (show G _ (.ops .seq _ (⟨some _, .call { callee := .value (.func 111), args := _, argTypes := _ }, _, _, _, none⟩ :: _) :: _) _ _ _; refine G.call callCheck rfl rfl (hcall _) Ze ?_; rintro _ h9 H9 ⟨rfl, he0, n9, rfl⟩ hle9) | (refine G.atCode ?_; first | refine G.seq ?_ | refine G.region ?_ | refine G.ret ?_) | refine G.endOps ?_ | refine G.op rfl rfl ?_ | (refine G.atLoad ?_; first | refine G.loadOwnA rfl (tyy rfl) rfl rfl Za rfl rfl ?_) | (refine G.atAlc ?_; refine G.alloc (tyy rfl) rfl rfl ?_; intro _) | (refine G.atBox ?_; refine G.box rfl rfl rfl ?_; intro _))
    all_goals first | exact G.done1 rfl rfl [] (SubH.nil _) ⟨rfl, rfl⟩ | skip
  | ok n =>
    rw [hm] at hcall
    refine Spec.enter Tryd.func101 rfl rfl ?_; intro w0
    repeat' (first | (show G _ (.ops .seq _ (⟨some _, .call { callee := .value (.func 111), args := _, argTypes := _ }, _, _, _, none⟩ :: _) :: _) _ _ _; refine G.call callCheck rfl rfl (hcall _) Ze ?_; rintro _ h9 H9 ⟨rfl, rfl⟩ hle9) | (refine G.atCode ?_; first | refine G.seq ?_ | refine G.region ?_ | refine G.ret ?_) | refine G.endOps ?_ | refine G.op rfl rfl ?_ | (refine G.atLoad ?_; first | refine G.loadOwnA rfl (tyy rfl) rfl rfl Za rfl rfl ?_) | (refine G.atAlc ?_; refine G.alloc (tyy rfl) rfl rfl ?_; intro _) | (refine G.atBox ?_; refine G.box rfl rfl rfl ?_; intro _))
    all_goals first | exact G.done1 rfl rfl [] (SubH.nil _) ⟨rfl, rfl⟩ | skip
end Go.Proofs.YtibkffoeioidlaaDoor
