/- Filters: castellanref10.check, Check; how much a filter holds. -/
import Derived.Test.YtibkffoeioidlaaDoorFlK
namespace Go.Proofs.YtibkffoeioidlaaDoor
set_option linter.all false
set_option maxRecDepth 4000
open Go.RowKit

def pcW : Pcs -> Nat
  | [] => 0
  | (_, t) :: ps => 1 + t.length + pcW ps
mutual
def Fl.wt : Fl -> Nat
  | .mk _ a v ps ks => 1 + a.length + v.length + pcW ps + flwt ks
def flwt : List Fl -> Nat
  | [] => 0
  | k :: ks => Fl.wt k + flwt ks
end
theorem flwt_mem : ∀ {ks : List Fl} {k : Fl}, k ∈ ks -> k.wt <= flwt ks
  | [], _, h => by cases h
  | q :: ks, k, h => by
    simp only [flwt]
    rcases List.mem_cons.1 h with rfl | h
    . omega
    . have := flwt_mem h; omega
theorem flwt_len : ∀ ks : List Fl, ks.length <= flwt ks
  | [] => Nat.zero_le _
  | .mk _ _ _ _ _ :: ks => by
    have := flwt_len ks
    simp only [flwt, Fl.wt, List.length_cons]; omega
theorem flwt_kid {k : Int} {a v : List UInt8} {ps : Pcs} {ks : List Fl} {i : Nat} {f : Fl} (h : ks[i]? = some f) : f.wt < (Fl.mk k a v ps ks).wt := by
  have := flwt_mem (List.mem_of_getElem? h)
  simp only [Fl.wt]; omega
theorem pcW_len : ∀ ps : Pcs, ps.length <= pcW ps
  | [] => Nat.zero_le _
  | (k, t) :: ps => by have := pcW_len ps; simp only [pcW, List.length_cons]; omega
def RckR (u : Value) : Except Int Nat -> Prop
  | .error e => ∃ n' : Int, u = .tuple #[.int .i64 e, .int .i64 n'] /\ e ≠ 0
  | .ok n' => u = .tuple #[.int .i64 0, .int .i64 (n' : Int)]
set_option maxRecDepth 8000 in
set_option maxHeartbeats 4000000 in
theorem ref10_check : ∀ (d : Nat), d <= 64 -> ∀ (n : Nat) (f : Fl) (r : List Value) (h : Heap), n <= 1000 -> f.wt <= 100000000 -> FlC h f r →
    Spec Tryd.prog 112 [.agg r.toArray, .int .i64 (65 - (d : Int)), .int .i64 n] h [] (fun u _ H' => RckR u (chkM d n f) /\ H' = []) := by
  intro d
  induction d with
  | zero =>
    intro hd n f r h hn hw hf
    obtain ⟨k, a, v, ps, ks, A, c, B, d, rowa, rfl, rfl, sp, sa, ka, la⟩ := hf.box
    rw [show chkM 0 n (.mk k a v ps ks) = .error 6 from rfl]
    refine Spec.enter Tryd.func112 rfl rfl ?_; intro w0
    repeat' (first | (refine G.atCode ?_; first | refine G.seq ?_ | refine G.region ?_ | refine G.ret ?_ | (refine G.cond rfl ?_ ?_ <;> intro hc <;> (try simp only [tests, reduceCtorEq] at hc) <;> (try exact Zf))) | refine G.endOps ?_ | (refine G.atBin ?_; first | (refine G.atAdd ?_; first | refine G.arith rfl rfl rfl rfl rfl Zi ?_) | refine G.op rfl rfl ?_) | refine G.op rfl rfl ?_ | (refine G.atBox ?_; refine G.box rfl rfl rfl ?_; intro _))
    all_goals first | (exfalso; omega) | exact G.done2 rfl rfl rfl [] (SubH.nil _) ⟨⟨_, rfl, by decide⟩, rfl⟩
  | succ dd ih =>
    intro hd n f r h hn hw hf
    have ih := ih (by omega)
    obtain ⟨k, a, v, ps, ks, A, c, B, d, rowa, rfl, rfl, sp, sa, ka, la⟩ := hf.box
    have hlp := sp.len
    have hlk := sa.len
    have lp := pcsR_length ps
    have hwa : a.length <= 100000000 := by simp only [Fl.wt] at hw; omega
    clear hf
    by_cases h1 : 1000 < n + 1
    . rw [show chkM (dd + 1) n (.mk k a v ps ks) = .error 9 by rw [chkM, if_pos h1]]
      refine Spec.enter Tryd.func112 rfl rfl ?_; intro w0
      repeat' (first | (refine G.atCode ?_; first | refine G.seq ?_ | refine G.region ?_ | refine G.skip ?_ | refine G.ret ?_ | (refine G.cond rfl ?_ ?_ <;> intro hc <;> (try simp only [tests, reduceCtorEq] at hc) <;> (try exact Zf))) | refine G.endOps ?_ | (refine G.atBin ?_; first | (refine G.atAdd ?_; first | refine G.arith rfl rfl rfl rfl rfl Zi ?_) | refine G.op rfl rfl ?_) | refine G.op rfl rfl ?_ | (refine G.atBox ?_; refine G.box rfl rfl rfl ?_; intro _))
      all_goals first | (exfalso; omega) | exact G.done2 rfl rfl rfl [] (SubH.nil _) ⟨⟨_, rfl, by decide⟩, rfl⟩
    by_cases h2 : k < 0 \/ 8 < k
    . rw [show chkM (dd + 1) n (.mk k a v ps ks) = .error 24 by rw [chkM, if_neg h1, if_pos h2]]
      refine Spec.enter Tryd.func112 rfl rfl ?_; intro w0
      repeat' (first | (refine G.atCode ?_; first | refine G.seq ?_ | refine G.region ?_ | refine G.skip ?_ | refine G.ret ?_ | (refine G.cond rfl ?_ ?_ <;> intro hc <;> (try simp only [tests, reduceCtorEq] at hc) <;> (try exact Zf))) | refine G.endOps ?_ | (refine G.atGd ?_; first | refine G.guardYes rfl rfl ?_ | refine G.guardNoS rfl rfl rfl ?_ | (refine G.guardS rfl rfl rfl ?_ ?_ <;> intro hc <;> (try simp only [tests, reduceCtorEq] at hc) <;> (try exact Zf))) | (refine G.atBin ?_; first | (refine G.atAdd ?_; first | refine G.arith rfl rfl rfl rfl rfl Zi ?_) | refine G.op rfl rfl ?_) | refine G.op rfl rfl ?_ | (refine G.atLoad ?_; first | refine G.loadOwn1 rfl (tyy rfl) rfl rfl Za rfl rfl ?_) | (refine G.atFld ?_; first | refine G.fieldAddr rfl (tyy rfl) rfl rfl ?_) | (refine G.atBox ?_; refine G.box rfl rfl rfl ?_; intro _))
      all_goals first | (exfalso; omega) | exact G.done2 rfl rfl rfl [] (SubH.nil _) ⟨⟨_, rfl, by decide⟩, rfl⟩
    by_cases h3 : k = 2 /\ ks.length ≠ 1
    . rw [show chkM (dd + 1) n (.mk k a v ps ks) = .error 2 by rw [chkM, if_neg h1, if_neg h2, if_pos h3]]
      refine Spec.enter Tryd.func112 rfl rfl ?_; intro w0
      repeat' (first | (refine G.atCode ?_; first | refine G.seq ?_ | refine G.region ?_ | refine G.skip ?_ | refine G.ret ?_ | (refine G.cond rfl ?_ ?_ <;> intro hc <;> (try simp only [tests, reduceCtorEq] at hc) <;> (try exact Zf))) | refine G.endOps ?_ | (refine G.atGd ?_; first | refine G.guardYes rfl rfl ?_ | (refine G.guardS rfl rfl rfl ?_ ?_ <;> intro hc <;> (try simp only [tests, reduceCtorEq] at hc) <;> (try exact Zf))) | (refine G.atBin ?_; first | (refine G.atAdd ?_; first | refine G.arith rfl rfl rfl rfl rfl Zi ?_) | (refine G.atEql ?_; first | refine G.op rfl rfl ?_) | (refine G.atNeq ?_; first | refine G.op rfl rfl ?_) | refine G.op rfl rfl ?_) | refine G.op rfl rfl ?_ | (refine G.atLen ?_; first | refine G.lenSlice rfl (tyy rfl) rfl ?_) | (refine G.atLoad ?_; first | refine G.loadOwn1 rfl (tyy rfl) rfl rfl Za rfl rfl ?_) | (refine G.atFld ?_; first | refine G.fieldAddr rfl (tyy rfl) rfl rfl ?_) | (refine G.atBox ?_; refine G.box rfl rfl rfl ?_; intro _))
      all_goals first | (exfalso; omega) | exact G.done2 rfl rfl rfl [] (SubH.nil _) ⟨⟨_, rfl, by decide⟩, rfl⟩
    by_cases h4 : k <= 2
    . have e : chkM (dd + 1) n (.mk k a v ps ks) = chkKs (chkM dd) (n + 1) ks := by rw [chkM, if_neg h1, if_neg h2, if_neg h3, if_pos h4]
      rw [e]
      generalize hR : chkKs (chkM dd) (n + 1) ks = R
      have hR0 : chkKs (chkM dd) (n + 1) (ks.drop 0) = R := hR
      clear hR e
      refine Spec.enter Tryd.func112 rfl rfl ?_; intro w0
      repeat' (first | (refine G.atCode ?_; refine G.stopLoop ?_) | (refine G.atCode ?_; first | refine G.seq ?_ | refine G.region ?_ | refine G.block ?_ | refine G.skip ?_ | (refine G.cond rfl ?_ ?_ <;> intro hc <;> (try simp only [tests, reduceCtorEq] at hc) <;> (try exact Zf))) | refine G.endOps ?_ | (refine G.atGd ?_; first | refine G.guardYes rfl rfl ?_ | refine G.guardNoS rfl rfl rfl ?_ | (refine G.guardS rfl rfl rfl ?_ ?_ <;> intro hc <;> (try simp only [tests, reduceCtorEq] at hc) <;> (try exact Zf))) | (refine G.atBin ?_; first | (refine G.atAdd ?_; first | refine G.arith rfl rfl rfl rfl rfl Zi ?_) | (refine G.atEql ?_; first | refine G.op rfl rfl ?_) | (refine G.atNeq ?_; first | refine G.op rfl rfl ?_) | refine G.op rfl rfl ?_) | refine G.op rfl rfl ?_ | (refine G.atLen ?_; first | refine G.lenSlice rfl (tyy rfl) rfl ?_) | (refine G.atLoad ?_; first | refine G.loadOwn1 rfl (tyy rfl) rfl rfl Za rfl rfl ?_) | (refine G.atFld ?_; first | refine G.fieldAddr rfl (tyy rfl) rfl rfl ?_) | (refine G.atBox ?_; refine G.box rfl rfl rfl ?_; intro _))
      all_goals first | (exfalso; omega) | skip
      all_goals
        rename_i gb _ _ _ _ _ _
        refine G.go ?_
        refine G.loop (σ := Nat × Nat) (fun x => [(49, .int .i64 x.1), (48, .int .i64 ks.length), (2, .int .i64 x.2), (3, .pointer (some ⟨gb, 0, none⟩)), (1, .int .i64 (65 - ((dd + 1 : Nat) : Int)))])
          (fun x => [.blk gb [.int .i64 k, str a, str v, .slice A ps.length c, .slice B ks.length d] 45]) (fun x _ => x.1 <= ks.length /\ x.2 <= 1000 /\ chkKs (chkM dd) x.2 (ks.drop x.1) = R) (fun x => ks.length - x.1) ⟨0, n + 1⟩ ⟨rfl, rfl, sint (by simp), rfl, rfl, trivial⟩ Zu ⟨Nat.zero_le _, by simp only; omega, hR0⟩ ?_
        rintro ⟨i, m⟩ h5 hle5 ⟨hi, hm, hRi⟩
        simp only at hi hm hRi
        refine G.norm (by (try dsimp only) <;> exact rfl) (by (try dsimp only) <;> exact rfl) ?_
        by_cases hlt : i < ks.length
        . obtain ⟨f, hf⟩ : ∃ f, ks[i]? = some f := ⟨ks[i], List.getElem?_eq_getElem hlt⟩
          obtain ⟨q1, e1, n1⟩ := ka.get hf
          have n1 := n1.mono' hle5
          have hfw := flwt_kid (k := k) (a := a) (v := v) (ps := ps) hf
          have t1 : HSl h5 (.slice B ks.length d) 5 rowa := sa.mono hle5
          have l1 : q1.length = 5 := t1.rowed q1 (List.mem_of_getElem? e1)
          rw [List.drop_eq_getElem_cons hlt, (List.getElem?_eq_some_iff.1 hf).2, chkKs] at hRi
          obtain ⟨k9, a9, v9, A9, m9, q9, B9, p9, r9, rfl⟩ := n1.shp
          have hcall := ih m f _ h5 hm (by omega) n1
          rw [show 65 - (dd : Int) = 65 - ((dd + 1 : Nat) : Int) + 1 by omega] at hcall
          cases hf1 : chkM dd m f with
          | error e =>
            rw [hf1] at hRi hcall
            simp only at hRi
            subst hRi
            repeat' (first | (refine G.atIdx ?_; refine G.idxImm rfl rfl (tyy rfl) (tyy rfl) t1 Zj rfl (by omega) ?_; intro p1 r1 hx1 hp1; (rw [e1] at hx1); (obtain rfl := Option.some.inj hx1)) | (show G _ (.ops .seq _ (⟨some _, .call { callee := .value (.func 112), args := _, argTypes := _ }, _, _, _, none⟩ :: _) :: _) _ _ _; refine G.call callRcheck rfl rfl hcall Ze ?_; rintro _ h9 H9 ⟨⟨n9, rfl, he0⟩, rfl⟩ hle9) | (refine G.atCode ?_; first | refine G.seq ?_ | refine G.region ?_ | refine G.block ?_ | refine G.skip ?_ | refine G.ret ?_ | (refine G.cond rfl ?_ ?_ <;> intro hc <;> (try simp only [tests, reduceCtorEq] at hc) <;> (try exact Zf))) | refine G.endOps ?_ | (refine G.atBin ?_; first | (refine G.atAdd ?_; first | refine G.arith rfl rfl rfl rfl rfl Zi ?_) | (refine G.atNeq ?_; first | refine G.op rfl rfl ?_) | refine G.op rfl rfl ?_) | refine G.op rfl rfl ?_ | (refine G.atLoad ?_; first | refine G.loadOwn1 rfl (tyy rfl) rfl rfl Za rfl rfl ?_ | refine G.loadImmA rfl (tyy rfl) rfl rfl Zp Zp rfl ?_) | (refine G.atFld ?_; first | refine G.fieldAddr rfl (tyy rfl) rfl rfl ?_))
            all_goals first | (exfalso; omega) | exact G.done2 rfl rfl rfl [] (SubH.nil _) ⟨⟨_, rfl, he0⟩, rfl⟩ | skip
          | ok n9 =>
            have hn9 := chkM_n _ _ _ _ hf1
            rw [hf1] at hRi hcall
            simp only at hRi
            repeat' (first | (refine G.atIdx ?_; refine G.idxImm rfl rfl (tyy rfl) (tyy rfl) t1 Zj rfl (by omega) ?_; intro p1 r1 hx1 hp1; (rw [e1] at hx1); (obtain rfl := Option.some.inj hx1)) | (show G _ (.ops .seq _ (⟨some _, .call { callee := .value (.func 112), args := _, argTypes := _ }, _, _, _, none⟩ :: _) :: _) _ _ _; refine G.call callRcheck rfl rfl hcall Ze ?_; rintro _ h9 H9 ⟨rfl, rfl⟩ hle9) | (refine G.atCode ?_; first | refine G.seq ?_ | refine G.region ?_ | refine G.block ?_ | refine G.skip ?_ | (refine G.cond rfl ?_ ?_ <;> intro hc <;> (try simp only [tests, reduceCtorEq] at hc) <;> (try exact Zf))) | refine G.endOps ?_ | refine G.endBlk ?_ | (refine G.atBin ?_; first | (refine G.atAdd ?_; first | refine G.arith rfl rfl rfl rfl rfl Zi ?_) | (refine G.atNeq ?_; first | refine G.op rfl rfl ?_) | refine G.op rfl rfl ?_) | refine G.op rfl rfl ?_ | (refine G.atLoad ?_; first | refine G.loadOwn1 rfl (tyy rfl) rfl rfl Za rfl rfl ?_ | refine G.loadImmA rfl (tyy rfl) rfl rfl Zp Zp rfl ?_) | (refine G.atFld ?_; first | refine G.fieldAddr rfl (tyy rfl) rfl rfl ?_))
            all_goals first | (exfalso; omega) | exact G.again ⟨i + 1, n9⟩ ⟨sint (by simp), rfl, rfl, rfl, rfl, trivial⟩ Zu ⟨by simp only; omega, hn9, hRi⟩ (by solve | repeat first | assumption | exact Zr _ | refine Zq ?_ Zp) (by simp only; omega) | skip
        . obtain rfl : i = ks.length := by omega
          rw [List.drop_eq_nil_of_le (Nat.le_refl _), chkKs] at hRi
          subst hRi
          repeat' (first | (refine G.atCode ?_; first | refine G.seq ?_ | refine G.region ?_ | refine G.exit rfl ?_ | refine G.ret ?_ | (refine G.cond rfl ?_ ?_ <;> intro hc <;> (try simp only [tests, reduceCtorEq] at hc) <;> (try exact Zf))) | refine G.endOps ?_ | (refine G.atBin ?_; first | refine G.op rfl rfl ?_) | refine G.op rfl rfl ?_)
          all_goals first | (exfalso; omega) | exact G.done2 rfl rfl rfl [] (SubH.nil _) ⟨rfl, rfl⟩ | skip
    cases h5 : typeM a with
    | false =>
      rw [show chkM (dd + 1) n (.mk k a v ps ks) = .error 20 by rw [chkM, if_neg h1, if_neg h2, if_neg h3, if_neg h4, if_pos h5]]
      refine Spec.enter Tryd.func112 rfl rfl ?_; intro w0
      repeat' (first | (show G _ (.ops .seq _ (⟨some _, .call { callee := .value (.func 118), args := _, argTypes := _ }, _, _, _, none⟩ :: _) :: _) _ _ _; refine G.call callRType9 rfl rfl (ref09_Type _ hwa _) Ze ?_; rintro _ h6 H6 ⟨rfl, rfl⟩ hle6; rw [h5]) | (refine G.atCode ?_; first | refine G.seq ?_ | refine G.region ?_ | refine G.skip ?_ | refine G.ret ?_ | (refine G.cond rfl ?_ ?_ <;> intro hc <;> (try simp only [tests, reduceCtorEq] at hc) <;> (try exact Zf))) | refine G.endOps ?_ | (refine G.atGd ?_; first | refine G.guardYes rfl rfl ?_ | (refine G.guardS rfl rfl rfl ?_ ?_ <;> intro hc <;> (try simp only [tests, reduceCtorEq] at hc) <;> (try exact Zf))) | (refine G.atBin ?_; first | (refine G.atAdd ?_; first | refine G.arith rfl rfl rfl rfl rfl Zi ?_) | refine G.op rfl rfl ?_) | refine G.op rfl rfl ?_ | (refine G.atLoad ?_; first | refine G.loadOwn1 rfl (tyy rfl) rfl rfl Za rfl rfl ?_) | (refine G.atFld ?_; first | refine G.fieldAddr rfl (tyy rfl) rfl rfl ?_) | (refine G.atBox ?_; refine G.box rfl rfl rfl ?_; intro _))
      all_goals first | (exfalso; omega) | exact G.done2 rfl rfl rfl [] (SubH.nil _) ⟨⟨_, rfl, by decide⟩, rfl⟩ | skip
    | true =>
      have h5' : ¬ typeM a = false := by rw [h5]; simp
      by_cases h6 : k = 4
      . have hres : chkM (dd + 1) n (.mk k a v ps ks) = if pcsOk ps = false then .error 4 else .ok (n + 1) := by
          rw [chkM, if_neg h1, if_neg h2, if_neg h3, if_neg h4, if_neg h5']
          by_cases h7 : pcsOk ps = false
          . rw [if_pos ⟨h6, h7⟩, if_pos h7]
          . rw [if_neg (fun e => h7 e.2), if_neg h7]
        rw [hres]
        generalize hR : pcsOk ps = R
        have hR0 : (decide (0 < ps.length) && pcsOkF (decide ((0 : Nat) = 0)) (ps.drop 0)) = R := by
          rw [<- hR]; unfold pcsOk; cases ps <;> simp
        clear hR hres
        refine Spec.enter Tryd.func112 rfl rfl ?_; intro w0
        repeat' (first | (show G _ (.ops .seq _ (⟨some _, .call { callee := .value (.func 118), args := _, argTypes := _ }, _, _, _, none⟩ :: _) :: _) _ _ _; refine G.call callRType9 rfl rfl (ref09_Type _ hwa _) Ze ?_; rintro _ h6 H6 ⟨rfl, rfl⟩ hle6; rw [h5]) | (refine G.atCode ?_; refine G.stopLoop ?_) | (refine G.atCode ?_; first | refine G.seq ?_ | refine G.region ?_ | refine G.block ?_ | refine G.skip ?_ | (refine G.cond rfl ?_ ?_ <;> intro hc <;> (try simp only [tests, reduceCtorEq] at hc) <;> (try exact Zf))) | refine G.endOps ?_ | (refine G.atGd ?_; first | refine G.guardYes rfl rfl ?_ | (refine G.guardS rfl rfl rfl ?_ ?_ <;> intro hc <;> (try simp only [tests, reduceCtorEq] at hc) <;> (try exact Zf))) | (refine G.atBin ?_; first | (refine G.atAdd ?_; first | refine G.arith rfl rfl rfl rfl rfl Zi ?_) | (refine G.atEql ?_; first | refine G.op rfl rfl ?_) | refine G.op rfl rfl ?_) | refine G.op rfl rfl ?_ | (refine G.atLen ?_; first | refine G.lenSlice rfl (tyy rfl) rfl ?_) | (refine G.atLoad ?_; first | refine G.loadOwn1 rfl (tyy rfl) rfl rfl Za rfl rfl ?_) | (refine G.atFld ?_; first | refine G.fieldAddr rfl (tyy rfl) rfl rfl ?_) | (refine G.atBox ?_; refine G.box rfl rfl rfl ?_; intro _))
        all_goals first | (exfalso; omega) | skip
        rename_i gb _ _ _ _ _ _
        have hR1 : (decide (0 < (ps.length : Int)) && pcsOkF (decide ((0 : Nat) = 0)) (ps.drop 0)) = R := by rw [<- hR0]; congr 1; exact decide_eq_decide.2 (by omega)
        clear hR0
        refine G.go ?_
        refine G.loop (σ := Nat × Bool) (fun x => [(86, .int .i64 x.1), (85, .int .i64 ps.length), (84, .slice A ps.length c), (11, .bool x.2), (3, .pointer (some ⟨gb, 0, none⟩)), (2, .int .i64 ((n : Int) + 1))])
          (fun x => [.blk gb [.int .i64 k, str a, str v, .slice A ps.length c, .slice B ks.length d] 45]) (fun x _ => x.1 <= ps.length /\ (x.2 && pcsOkF (decide (x.1 = 0)) (ps.drop x.1)) = R) (fun x => ps.length - x.1) ⟨0, decide (0 < (ps.length : Int))⟩ ⟨rfl, sint (by simp), rfl, by first | rfl | exact sbool (decide_eq_decide.2 (by omega)), rfl, sint (by simp), trivial⟩ Zu ⟨Nat.zero_le _, hR1⟩ ?_
        rintro ⟨i, ok⟩ h7 hle7 ⟨hi, hRi⟩
        simp only at hi hRi
        have s1 : HSl h7 (.slice A ps.length c) 2 (pcsR ps) := sp.mono (by solve | repeat first | assumption | exact Zr _ | refine Zq ?_ Zp)
        refine G.norm (by (try dsimp only) <;> exact rfl) (by (try dsimp only) <;> exact rfl) ?_
        by_cases hlt : i < ps.length
        . obtain ⟨⟨pk, pt⟩, hp⟩ : ∃ p, ps[i]? = some p := ⟨ps[i], List.getElem?_eq_getElem hlt⟩
          have hget := pcsR_get hp
          have hl3 : ([.int .i64 pk, str pt] : List Value).length = 2 := rfl
          have hdl : (ps.drop (i + 1)).length = ps.length - (i + 1) := List.length_drop
          rw [List.drop_eq_getElem_cons hlt, (List.getElem?_eq_some_iff.1 hp).2, pcsOkF_step, hdl] at hRi
          cases ok with
          | false =>
            rw [Bool.false_and] at hRi
            repeat' (first | (refine G.atIdx ?_; refine G.idxImm rfl rfl (tyy rfl) (tyy rfl) s1 Zj rfl (by omega) ?_; intro p1 r1 hx1 hp1; (rw [hget] at hx1); (obtain rfl := Option.some.inj hx1)) | (refine G.atCode ?_; first | refine G.seq ?_ | refine G.region ?_ | refine G.block ?_ | refine G.skip ?_ | (refine G.cond rfl ?_ ?_ <;> intro hc <;> (try simp only [tests, reduceCtorEq] at hc) <;> (try exact Zf))) | refine G.endOps ?_ | refine G.endBlk ?_ | (refine G.atGd ?_; first | refine G.guardNoS rfl rfl rfl ?_ | refine G.guardU rfl rfl rfl ?_) | (refine G.atBin ?_; first | (refine G.atAdd ?_; first | refine G.arith rfl rfl rfl rfl rfl Zi ?_) | (refine G.atEql ?_; first | refine G.op rfl rfl ?_) | refine G.op rfl rfl ?_) | refine G.op rfl rfl ?_ | (refine G.atLen ?_; first | refine G.lenSlice rfl (tyy rfl) rfl ?_) | (refine G.atLoad ?_; first | refine G.loadOwn1 rfl (tyy rfl) rfl rfl Za rfl rfl ?_ | refine G.loadImmA rfl (tyy rfl) rfl rfl Zp Zp rfl ?_) | (refine G.atFld ?_; first | refine G.fieldAddr rfl (tyy rfl) rfl rfl ?_) | (refine G.atSto ?_; refine G.storeOwn rfl rfl (tyy rfl) Za rfl rfl rfl rfl ?_) | (refine G.atAlc ?_; refine G.alloc (tyy rfl) rfl rfl ?_; intro _))
            all_goals first | (exfalso; omega) | exact G.again ⟨i + 1, false⟩ ⟨sint (by simp), rfl, rfl, rfl, rfl, rfl, trivial⟩ Zu ⟨by simp only; omega, by simpa using hRi⟩ (by solve | repeat first | assumption | exact Zr _ | refine Zq ?_ Zp) (by simp only; omega) | skip
          | true =>
            by_cases hg : pt.length ≠ 0 /\ (pk = 1 \/ (pk = 0 /\ i = 0) \/ (pk = 2 /\ ps.length - (i + 1) = 0))
            . rw [decide_eq_true (by simpa using hg), Bool.true_and, Bool.true_and] at hRi
              repeat' (first | (refine G.atIdx ?_; refine G.idxImm rfl rfl (tyy rfl) (tyy rfl) s1 Zj rfl (by omega) ?_; intro p1 r1 hx1 hp1; (rw [hget] at hx1); (obtain rfl := Option.some.inj hx1)) | (refine G.atCode ?_; first | refine G.seq ?_ | refine G.region ?_ | refine G.block ?_ | refine G.skip ?_ | (refine G.cond rfl ?_ ?_ <;> intro hc <;> (try simp only [tests, reduceCtorEq] at hc) <;> (try exact Zf))) | refine G.endOps ?_ | refine G.endBlk ?_ | (refine G.atGd ?_; first | refine G.guardYes rfl rfl ?_ | refine G.guardNoS rfl rfl rfl ?_ | refine G.guardU rfl rfl rfl ?_ | (refine G.guardS rfl rfl rfl ?_ ?_ <;> intro hc <;> (try simp only [tests, reduceCtorEq] at hc) <;> (try exact Zf))) | (refine G.atBin ?_; first | (refine G.atAdd ?_; first | refine G.arith rfl rfl rfl rfl rfl Zi ?_) | (refine G.atEql ?_; first | refine G.op rfl rfl ?_) | (refine G.atNeq ?_; first | refine G.neStr0 rfl rfl rfl ?_) | refine G.op rfl rfl ?_) | refine G.op rfl rfl ?_ | (refine G.atLen ?_; first | refine G.lenSlice rfl (tyy rfl) rfl ?_) | (refine G.atLoad ?_; first | refine G.loadOwn1 rfl (tyy rfl) rfl rfl Za rfl rfl ?_ | refine G.loadImmA rfl (tyy rfl) rfl rfl Zp Zp rfl ?_) | (refine G.atFld ?_; first | refine G.fieldAddr rfl (tyy rfl) rfl rfl ?_) | (refine G.atSto ?_; refine G.storeOwn rfl rfl (tyy rfl) Za rfl rfl rfl rfl ?_) | (refine G.atAlc ?_; refine G.alloc (tyy rfl) rfl rfl ?_; intro _))
              all_goals first
                | (exfalso; simp only [← List.length_eq_zero_iff] at *; omega)
                | exact G.again ⟨i + 1, true⟩ ⟨sint (by simp), rfl, rfl, by first | rfl | exact sbool (decide_eq_true (by omega)), rfl, rfl, trivial⟩ Zu ⟨by simp only; omega, by simpa using hRi⟩ (by solve | repeat first | assumption | exact Zr _ | refine Zq ?_ Zp) (by simp only; omega)
                | skip
            . rw [decide_eq_false (by simpa using hg), Bool.false_and, Bool.and_false] at hRi
              repeat' (first | (refine G.atIdx ?_; refine G.idxImm rfl rfl (tyy rfl) (tyy rfl) s1 Zj rfl (by omega) ?_; intro p1 r1 hx1 hp1; (rw [hget] at hx1); (obtain rfl := Option.some.inj hx1)) | (refine G.atCode ?_; first | refine G.seq ?_ | refine G.region ?_ | refine G.block ?_ | refine G.skip ?_ | (refine G.cond rfl ?_ ?_ <;> intro hc <;> (try simp only [tests, reduceCtorEq] at hc) <;> (try exact Zf))) | refine G.endOps ?_ | refine G.endBlk ?_ | (refine G.atGd ?_; first | refine G.guardYes rfl rfl ?_ | refine G.guardNoS rfl rfl rfl ?_ | refine G.guardU rfl rfl rfl ?_ | (refine G.guardS rfl rfl rfl ?_ ?_ <;> intro hc <;> (try simp only [tests, reduceCtorEq] at hc) <;> (try exact Zf))) | (refine G.atBin ?_; first | (refine G.atAdd ?_; first | refine G.arith rfl rfl rfl rfl rfl Zi ?_) | (refine G.atEql ?_; first | refine G.op rfl rfl ?_) | (refine G.atNeq ?_; first | refine G.neStr0 rfl rfl rfl ?_) | refine G.op rfl rfl ?_) | refine G.op rfl rfl ?_ | (refine G.atLen ?_; first | refine G.lenSlice rfl (tyy rfl) rfl ?_) | (refine G.atLoad ?_; first | refine G.loadOwn1 rfl (tyy rfl) rfl rfl Za rfl rfl ?_ | refine G.loadImmA rfl (tyy rfl) rfl rfl Zp Zp rfl ?_) | (refine G.atFld ?_; first | refine G.fieldAddr rfl (tyy rfl) rfl rfl ?_) | (refine G.atSto ?_; refine G.storeOwn rfl rfl (tyy rfl) Za rfl rfl rfl rfl ?_) | (refine G.atAlc ?_; refine G.alloc (tyy rfl) rfl rfl ?_; intro _))
              all_goals first
                | exact G.again ⟨i + 1, false⟩ ⟨sint (by simp), rfl, rfl, by first | rfl | exact sbool (decide_eq_false (by omega)), rfl, rfl, trivial⟩ Zu ⟨by simp only; omega, by simpa using hRi⟩ (by solve | repeat first | assumption | exact Zr _ | refine Zq ?_ Zp) (by simp only; omega)
                | (exfalso; simp only [← List.length_eq_zero_iff] at *; omega)
                | skip
        . obtain rfl : i = ps.length := by omega
          rw [List.drop_eq_nil_of_le (Nat.le_refl _), pcsOkF, Bool.and_true] at hRi
          subst hRi
          cases ok
          all_goals
            repeat' (first | (refine G.atCode ?_; first | refine G.seq ?_ | refine G.region ?_ | refine G.skip ?_ | refine G.exit rfl ?_ | refine G.ret ?_ | (refine G.cond rfl ?_ ?_ <;> intro hc <;> (try simp only [tests, reduceCtorEq] at hc) <;> (try exact Zf))) | refine G.endOps ?_ | (refine G.atBin ?_; first | refine G.op rfl rfl ?_) | refine G.op rfl rfl ?_)
            all_goals first | (exfalso; omega) | (exfalso; simp_all; done) | exact G.done2 rfl rfl rfl [] (SubH.nil _) ⟨⟨_, rfl, by decide⟩, rfl⟩ | exact G.done2 rfl rfl rfl [] (SubH.nil _) ⟨rfl, rfl⟩ | skip
      . rw [show chkM (dd + 1) n (.mk k a v ps ks) = .ok (n + 1) by rw [chkM, if_neg h1, if_neg h2, if_neg h3, if_neg h4, if_neg h5', if_neg (fun e => h6 e.1)]]
        refine Spec.enter Tryd.func112 rfl rfl ?_; intro w0
        repeat' (first | (show G _ (.ops .seq _ (⟨some _, .call { callee := .value (.func 118), args := _, argTypes := _ }, _, _, _, none⟩ :: _) :: _) _ _ _; refine G.call callRType9 rfl rfl (ref09_Type _ hwa _) Ze ?_; rintro _ h6 H6 ⟨rfl, rfl⟩ hle6; rw [h5]) | (refine G.atCode ?_; first | refine G.seq ?_ | refine G.region ?_ | refine G.skip ?_ | refine G.ret ?_ | (refine G.cond rfl ?_ ?_ <;> intro hc <;> (try simp only [tests, reduceCtorEq] at hc) <;> (try exact Zf))) | refine G.endOps ?_ | (refine G.atGd ?_; first | refine G.guardYes rfl rfl ?_ | (refine G.guardS rfl rfl rfl ?_ ?_ <;> intro hc <;> (try simp only [tests, reduceCtorEq] at hc) <;> (try exact Zf))) | (refine G.atBin ?_; first | (refine G.atAdd ?_; first | refine G.arith rfl rfl rfl rfl rfl Zi ?_) | (refine G.atEql ?_; first | refine G.op rfl rfl ?_) | refine G.op rfl rfl ?_) | refine G.op rfl rfl ?_ | (refine G.atLoad ?_; first | refine G.loadOwn1 rfl (tyy rfl) rfl rfl Za rfl rfl ?_) | (refine G.atFld ?_; first | refine G.fieldAddr rfl (tyy rfl) rfl rfl ?_) | (refine G.atBox ?_; refine G.box rfl rfl rfl ?_; intro _))
        all_goals first | (exfalso; omega) | exact G.done2 rfl rfl rfl [] (SubH.nil _) ⟨rfl, rfl⟩ | skip
theorem ref10_Check (f : Fl) (hw : f.wt <= 100000000) (r : List Value) (h : Heap) (hf : FlC h f r) : Spec Tryd.prog 104 [.agg r.toArray] h [] (fun u _ H' => u = .int .i64 (chkE f) /\ H' = []) := by
  have hcall := fun h (hf : FlC h f r) => ref10_check 64 (by omega) 0 f r h (by omega) hw hf
  obtain ⟨k9, a9, v9, A9, m9, q9, B9, p9, r9, rfl⟩ := hf.shp
  unfold chkE
  cases hm : chkM 64 0 f with
  | error e =>
    rw [hm] at hcall
    refine Spec.enter Tryd.func104 rfl rfl ?_; intro w0
    repeat' (first | (show G _ (.ops .seq _ (⟨some _, .call { callee := .value (.func 112), args := _, argTypes := _ }, _, _, _, none⟩ :: _) :: _) _ _ _; refine G.call callRcheck rfl rfl (hcall _ hf) Ze ?_; rintro _ h9 H9 ⟨⟨n9, rfl, he0⟩, rfl⟩ hle9) | (refine G.atCode ?_; first | refine G.seq ?_ | refine G.region ?_ | refine G.ret ?_) | refine G.endOps ?_ | refine G.op rfl rfl ?_ | (refine G.atLoad ?_; first | refine G.loadOwnA rfl (tyy rfl) rfl rfl Za rfl rfl ?_) | (refine G.atBox ?_; refine G.box rfl rfl rfl ?_; intro _))
    all_goals first | exact G.done1 rfl rfl [] (SubH.nil _) ⟨rfl, rfl⟩ | skip
  | ok n =>
    rw [hm] at hcall
    refine Spec.enter Tryd.func104 rfl rfl ?_; intro w0
    repeat' (first | (show G _ (.ops .seq _ (⟨some _, .call { callee := .value (.func 112), args := _, argTypes := _ }, _, _, _, none⟩ :: _) :: _) _ _ _; refine G.call callRcheck rfl rfl (hcall _ hf) Ze ?_; rintro _ h9 H9 ⟨rfl, rfl⟩ hle9) | (refine G.atCode ?_; first | refine G.seq ?_ | refine G.region ?_ | refine G.ret ?_) | refine G.endOps ?_ | refine G.op rfl rfl ?_ | (refine G.atLoad ?_; first | refine G.loadOwnA rfl (tyy rfl) rfl rfl Za rfl rfl ?_) | (refine G.atBox ?_; refine G.box rfl rfl rfl ?_; intro _))
    all_goals first | exact G.done1 rfl rfl [] (SubH.nil _) ⟨rfl, rfl⟩ | skip
end Go.Proofs.YtibkffoeioidlaaDoor
