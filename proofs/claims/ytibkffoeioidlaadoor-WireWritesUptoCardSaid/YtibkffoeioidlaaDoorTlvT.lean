/- The reference's put and Put. -/
import Derived.Test.YtibkffoeioidlaaDoorTlvS
import Derived.Test.YtibkffoeioidlaaDoorTlvD
namespace Go.Proofs.YtibkffoeioidlaaDoor
set_option linter.all false
set_option maxRecDepth 4000
open Go.RowKit

theorem callRput : Callable Tryd.prog 85 := ⟨_, Tryd.func85, by kernel_rfl, rfl⟩
theorem callRPut : Callable Tryd.prog 55 := ⟨_, Tryd.func55, by kernel_rfl, rfl⟩

theorem ofNat_mod (n : Nat) : UInt8.ofNat (n % 256) = UInt8.ofNat n := by
  apply UInt8.toNat.inj; rw [UInt8.toNat_ofNat', UInt8.toNat_ofNat']; omega
theorem putB1 (n : Nat) : putB n 1 = [UInt8.ofNat n] := by simp [putB]
theorem lenB1 {n : Nat} (h : n < 128) : lenB n = [UInt8.ofNat n] := by unfold lenB; rw [if_pos h]; simp [putB]
theorem lenB2 {n : Nat} (h : 128 <= n /\ n < 256) : lenB n = [129] ++ [UInt8.ofNat n] := by unfold lenB; rw [if_neg (by omega), if_pos (by omega)]; simp [putB]
theorem lenB3 {n : Nat} (h : 256 <= n /\ n < 65536) : lenB n = [130] ++ [UInt8.ofNat (n / 256)] ++ [UInt8.ofNat (n % 256)] := by
  unfold lenB; rw [if_neg (by omega), if_neg (by omega), if_pos (by omega), ofNat_mod]; simp [putB]
theorem lenB4 {n : Nat} (h : 65536 <= n) : lenB n = [131] ++ [UInt8.ofNat (n / 65536)] ++ [UInt8.ofNat (n / 256 % 256)] ++ [UInt8.ofNat (n % 256)] := by
  unfold lenB; rw [if_neg (by omega), if_neg (by omega), if_neg (by omega), ofNat_mod, ofNat_mod]; simp [putB]
set_option maxRecDepth 8000 in
set_option maxHeartbeats 2000000 in
theorem ref_put : ∀ (n : Nat) (a : Nd), a.sz <= n -> a.wt <= 1073741824 -> ∀ (d : Int), 1 <= d -> d <= 65 -> ∀ (ra : List Value) (h : Heap), NodeC h a ra →
    Spec Tryd.prog 85 [.agg ra.toArray, .int .i64 d] h [] (fun v _ H' => H' = [] /\ v = .tuple #[str (putM d a).1, .int .i64 (putM d a).2])
  | 0, .mk t d ks, hn, _, _, _, _, _, _, _ => by simp only [Nd.sz] at hn; omega
  | n + 1, a, hn, hwt, d, hd1, hd2, ra, h, ha => by
    have ih := ref_put n
    obtain ⟨t, data, ks, A, m, c, rows, rfl, rfl, sa, kca⟩ := ha.box
    have la := kca.len
    have ma' : m = rows.length := by obtain ⟨A', c', h1, _⟩ := sa.form; injection h1
    have hw1 : 1 + data.length + wts ks <= 1073741824 := by simpa only [Nd.wt] using hwt
    have hkl := putsM_len (d + 1) ks
    have hlr := sa.len
    subst ma'
    clear ha
    by_cases ht : 0 <= t /\ t <= 255
    . have h31 : ((t.toNat &&& 31 : Nat) : Int) = t % 32 := by rw [and31]; omega
      have h32 : ((t.toNat &&& 32 : Nat) : Int) = 0 ↔ t / 32 % 2 = 0 := by
        have := and32 t.toNat (by omega)
        constructor
        . intro e; have := this.1 (by omega); omega
        . intro e; have := this.2 (by omega); omega
      have h32' : t / 32 % 2 = 0 \/ t / 32 % 2 = 1 := by omega
      have e0 : putM d (.mk t data ks) = if 64 < d then ([], 6) else if t % 32 = 31 then ([], 7) else if (t / 32 % 2 = 1 /\ data.length ≠ 0) \/ (t / 32 % 2 = 0 /\ ks.length ≠ 0) then ([], 4) else if (putsM (d + 1) ks).2 ≠ 0 then ([], (putsM (d + 1) ks).2) else
          if 1048576 < (data ++ (putsM (d + 1) ks).1).length then ([], 5) else (headB t (data ++ (putsM (d + 1) ks).1).length ++ (data ++ (putsM (d + 1) ks).1), 0) := by
        rw [putM]
        by_cases c1 : 64 < d
        . rw [if_pos c1, if_pos c1]
        . rw [if_neg c1, if_neg c1]
          by_cases c2 : t % 32 = 31
          . rw [if_pos c2, if_pos (by omega)]
          . rw [if_neg c2, if_neg (by omega)]
            by_cases c3 : (t / 32 % 2 = 1 /\ data.length ≠ 0) \/ (t / 32 % 2 = 0 /\ ks.length ≠ 0)
            . rw [if_pos c3, if_pos (by omega)]
            . rw [if_neg c3, if_neg (by omega)]
      clear h31 h32
      refine Spec.enter Tryd.func85 rfl rfl ?_; intro w0
      repeat' (first | (refine G.atCode ?_; refine G.stopIf 6 ?_) | (refine G.atBox ?_; refine G.box rfl rfl rfl ?_; intro g2) | (refine G.atCode ?_; first | refine G.seq ?_ | refine G.region ?_ | refine G.skip ?_ | refine G.ret ?_ | (refine G.cond rfl ?_ ?_ <;> intro hc <;> (try simp only [tests, reduceCtorEq] at hc) <;> (try exact Zf))) | refine G.endOps ?_ | (refine G.atGd ?_; first | refine G.guardYes rfl rfl ?_ | (refine G.guardS rfl rfl rfl ?_ ?_ <;> intro hc <;> (try simp only [tests, reduceCtorEq] at hc) <;> (try exact Zf))) | (refine G.atBin ?_; first | (refine G.atEql ?_; first | refine G.op rfl rfl ?_) | (refine G.atRem ?_; first | (refine G.rem rfl rfl rfl rfl Zo ?_; intro _ _ _)) | (refine G.atQuo ?_; refine G.quo rfl rfl rfl rfl Zo Zi ?_) | refine G.op rfl rfl ?_) | refine G.op rfl rfl ?_ | (refine G.atLoad ?_; first | refine G.loadOwn1 rfl (tyy rfl) rfl rfl Za rfl rfl ?_) | (refine G.atFld ?_; first | refine G.fieldAddr rfl (tyy rfl) rfl rfl ?_))
      all_goals try (have e9 : putM d (.mk t data ks) = ([], 6) := (by rw [e0, if_pos (by omega)])
                     exact G.done2 rfl rfl rfl [] (SubH.nil _) ⟨rfl, by rw [e9]; rfl⟩)
      all_goals try (have e9 : putM d (.mk t data ks) = ([], 7) := (by rw [e0, if_neg (by omega), if_pos (by omega)])
                     exact G.done2 rfl rfl rfl [] (SubH.nil _) ⟨rfl, by rw [e9]; rfl⟩)
      rw [if_neg (by omega), if_neg (by omega)] at e0
      refine G.go ?_
      refine G.meet (σ := Unit) (fun _ => [(2, .pointer (some ⟨g2, 0, none⟩)), (1, .int .i64 d)]) (fun _ => [.blk g2 [.int .i64 t, str data, .slice A rows.length c] 90])
        (fun _ _ => ¬ ((t / 32 % 2 = 1 /\ data.length ≠ 0) \/ (t / 32 % 2 = 0 /\ ks.length ≠ 0))) ?_ ?_
      . repeat' (first | (refine G.atCode ?_; first | refine G.seq ?_ | refine G.region ?_ | refine G.skip ?_ | refine G.ret ?_ | (refine G.cond rfl ?_ ?_ <;> intro hc <;> (try simp only [tests, reduceCtorEq] at hc) <;> (try exact Zf))) | refine G.endOps ?_ | (refine G.atGd ?_; first | refine G.guardYes rfl rfl ?_ | refine G.guardNoS rfl rfl rfl ?_ | refine G.guardU rfl rfl rfl ?_ | (refine G.guardS rfl rfl rfl ?_ ?_ <;> intro hc <;> (try simp only [tests, reduceCtorEq] at hc) <;> (try exact Zf))) | (refine G.atBin ?_; first | refine G.op rfl rfl ?_) | refine G.op rfl rfl ?_ | (refine G.atLen ?_; first | refine G.lenStr rfl (tyy rfl) rfl ?_ | refine G.lenSlice rfl (tyy rfl) rfl ?_) | (refine G.atLoad ?_; first | refine G.loadOwn1 rfl (tyy rfl) rfl rfl Za rfl rfl ?_) | (refine G.atFld ?_; first | refine G.fieldAddr rfl (tyy rfl) rfl rfl ?_))
        all_goals first
          | exact G.met () ⟨rfl, rfl, trivial⟩ Zu (Heap.le_refl _) (by omega)
          | (have e9 : putM d (.mk t data ks) = ([], 4) := (by rw [e0, if_pos (by omega)])
             exact G.done2 rfl rfl rfl [] (SubH.nil _) ⟨rfl, by rw [e9]; rfl⟩)
      . rintro ⟨⟩ h1 hle1 c3
        rw [if_neg c3] at e0
        have sa1 := sa.mono hle1
        have kca1 := kca.mono' hle1
        clear sa kca
        repeat' (first | (refine G.atCode ?_; refine G.stopLoop ?_) | (refine G.atApp ?_; refine G.nilRowB 5 ?_; refine G.appendStr rfl rfl (tyy rfl) (tyy rfl) (tyy rfl) rfl rfl Take.hd rfl Zo ?_; intro v0) | (refine G.atCode ?_; first | refine G.seq ?_ | refine G.region ?_ | refine G.block ?_) | refine G.endOps ?_ | refine G.op rfl rfl ?_ | (refine G.atLen ?_; first | refine G.lenSlice rfl (tyy rfl) rfl ?_) | (refine G.atLoad ?_; first | refine G.loadOwn1 rfl (tyy rfl) rfl rfl Za rfl rfl ?_) | (refine G.atFld ?_; first | refine G.fieldAddr rfl (tyy rfl) rfl rfl ?_))
        refine G.go ?_
        refine G.loop (σ := Nat × Value) (fun x => [(58, .int .i64 x.1), (57, .int .i64 rows.length), (7, x.2), (2, .pointer (some ⟨g2, 0, none⟩)), (1, .int .i64 d)])
          (fun x => [.row x.2 5 1 (bytesR (data ++ (putsM (d + 1) (ks.take x.1)).1)), .blk g2 [.int .i64 t, str data, .slice A rows.length c] 90])
          (fun x _ => x.1 <= ks.length /\ (putsM (d + 1) (ks.take x.1)).2 = 0) (fun x => ks.length - x.1) ⟨0, v0⟩ ⟨rfl, rfl, rfl, rfl, rfl, trivial⟩ (by simp only [List.take_zero, putsM, List.append_nil, List.nil_append]; exact Zu) ⟨Nat.zero_le _, by simp only [List.take_zero, putsM]⟩ ?_
        rintro ⟨i, v⟩ h2 hle2 ⟨hi, hok⟩
        simp only at hi hok
        have sa2 := sa1.mono hle2
        have kca2 := kca1.mono' hle2
        have hli := putsM_len (d + 1) (ks.take i)
        have hwi := wts_take ks i
        clear sa1 kca1
        refine G.norm (by (try dsimp only) <;> exact rfl) (by (try dsimp only) <;> exact rfl) ?_
        repeat' (first | (refine G.atCode ?_; refine G.stopIf 22 ?_) | (refine G.atIdx ?_; refine G.idxImmN rfl rfl (tyy rfl) (tyy rfl) Zp Zj rfl Zo ?_; intro p r hr hl hp; obtain ⟨nk, hnk, hn1⟩ := kca2.at_ hr; obtain ⟨nt, nd, nA, nm, nc, rfl⟩ := NodeC.shape hn1) | (refine G.atCode ?_; first | refine G.seq ?_ | refine G.region ?_ | refine G.block ?_ | refine G.skip ?_ | refine G.exit rfl ?_ | refine G.ret ?_ | (refine G.cond rfl ?_ ?_ <;> intro hc <;> (try simp only [tests, reduceCtorEq] at hc) <;> (try exact Zf))) | refine G.endOps ?_ | (refine G.atBin ?_; first | (refine G.atAdd ?_; first | refine G.arith rfl rfl rfl rfl rfl Zi ?_) | refine G.op rfl rfl ?_) | refine G.op rfl rfl ?_ | (refine G.atLen ?_; first | refine G.lenRowB rfl (tyy rfl) Za rfl ?_) | (refine G.atLoad ?_; first | refine G.loadOwn1 rfl (tyy rfl) rfl rfl Za rfl rfl ?_ | refine G.loadImmA rfl (tyy rfl) rfl rfl Zp Zp rfl ?_) | (refine G.atFld ?_; first | refine G.fieldAddr rfl (tyy rfl) rfl rfl ?_) | (refine G.atBsl ?_; refine G.buildSlice (tyy rfl) (tyy rfl) rfl rfl rfl rfl ?_; intro _) | (refine G.atConv ?_; first | refine G.conv rfl (tyy rfl) (tyy rfl) rfl Zi ?_))
        . have hik : i < ks.length := by omega
          have hnk2 : nk = ks[i] := by rw [List.getElem?_eq_getElem hik] at hnk; injection hnk with e; exact e.symm
          subst hnk2
          have hks : ks = ks.take i ++ ks[i] :: ks.drop (i + 1) := by rw [<- List.drop_eq_getElem_cons hik, List.take_append_drop]
          have hsz := sz_kid (t := t) (d := data) hnk
          have hw3 := wt_mem (List.getElem_mem hik)
          have hpl := putM_len (d + 1) ks[i]
          have hts : wts (ks.take i) + ks[i].wt <= wts ks := by
            have := wts_take ks (i + 1)
            rw [List.take_succ_eq_append_getElem hik, wts_append] at this
            simpa only [wts, Nat.add_zero] using this
          repeat' (first | (show G _ (.ops .seq _ (⟨some _, .call { callee := .value (.func 85), args := _, argTypes := _ }, _, _, _, none⟩ :: _) :: _) _ _ _; refine G.call callRput rfl rfl (ih _ (by omega) (by omega) _ (by omega) (by omega) _ _ hn1) Ze ?_; rintro _ h3 H3 ⟨rfl, rfl⟩ hle3) | (refine G.atCode ?_; first | refine G.seq ?_ | refine G.region ?_ | refine G.skip ?_ | refine G.ret ?_ | (refine G.cond rfl ?_ ?_ <;> intro hc <;> (try simp only [tests, reduceCtorEq] at hc) <;> (try exact Zf))) | refine G.endOps ?_ | refine G.endBlk ?_ | (refine G.atBin ?_; first | (refine G.atAdd ?_; first | refine G.arith rfl rfl rfl rfl rfl Zi ?_) | (refine G.atNeq ?_; first | refine G.op rfl rfl ?_)) | refine G.op rfl rfl ?_ | (refine G.atApp ?_; first | (refine G.appendStr rfl rfl (tyy rfl) (tyy rfl) (tyy rfl) rfl rfl Za rfl Zo ?_; intro _)))
          . have hbad := putsM_bad (r := ks.drop (i + 1)) hok (by assumption : ¬ (putM (d + 1) ks[i]).2 = 0)
            rw [<- hks] at hbad
            rw [hbad] at e0
            refine G.done2 rfl rfl rfl [] (SubH.nil _) ⟨rfl, ?_⟩
            rw [e0, if_pos Zp]; rfl
          . have hsn := putsM_snoc hok (by assumption : (putM (d + 1) ks[i]).2 = 0)
            have htk : ks.take (i + 1) = ks.take i ++ [ks[i]] := List.take_succ_eq_append_getElem hik
            refine G.again ⟨i + 1, _⟩ ⟨sint (by simp), rfl, rfl, rfl, rfl, trivial⟩ (by simp only [htk, hsn]; rw [<- List.append_assoc]; exact Zu) ⟨by simp only; omega, by simp only [htk, hsn]⟩ hle3 (by simp only; omega)
        . have hik : ks.take i = ks := List.take_of_length_le (by omega)
          rw [hik] at hok
          simp only [hik] at *
          rw [if_neg (by simpa using hok), if_pos (by omega)] at e0
          exact G.done2 rfl rfl rfl [] (SubH.nil _) ⟨rfl, by rw [e0]; rfl⟩
        . have hik : ks.take i = ks := List.take_of_length_le (by omega)
          rw [hik] at hok
          simp only [hik] at *
          rw [if_neg (by simpa using hok), if_neg (by omega)] at e0
          generalize hxx : data ++ (putsM (d + 1) ks).1 = xx at *
          refine G.go ?_
          refine G.blkRowB1 Take.hd (by omega) ?_
          repeat' (first | (refine G.atCode ?_; first | refine G.seq ?_ | refine G.region ?_ | refine G.ret ?_ | (refine G.cond rfl ?_ ?_ <;> intro hc <;> (try simp only [tests, reduceCtorEq] at hc) <;> (try exact Zf))) | refine G.endOps ?_ | (refine G.atBin ?_; first | (refine G.atAdd ?_; first | refine G.catStr rfl rfl rfl Zo ?_) | (refine G.atRem ?_; first | (refine G.rem rfl rfl rfl rfl Zo ?_; intro _ _ _)) | (refine G.atQuo ?_; refine G.quo rfl rfl rfl rfl Zo Zi ?_) | refine G.op rfl rfl ?_) | refine G.op rfl rfl ?_ | (refine G.atBsl ?_; refine G.buildSlice (tyy rfl) (tyy rfl) rfl rfl rfl rfl ?_; intro _) | (refine G.atApp ?_; first | (refine G.append1B rfl rfl (tyy rfl) (tyy rfl) rfl rfl Za Za rfl Zo Zo ?_; intro _)) | (refine G.atConv ?_; first | refine G.conv rfl (tyy rfl) (tyy rfl) rfl Zi ?_ | refine G.convStr rfl (tyy rfl) (tyy rfl) (tyy rfl) Za rfl ?_))
          . refine G.done2 rfl rfl rfl [] (SubH.nil _) ⟨rfl, ?_⟩
            rw [e0, headB, lenB1 (by omega), putB1]; simp only [List.append_assoc]; rfl
          . refine G.done2 rfl rfl rfl [] (SubH.nil _) ⟨rfl, ?_⟩
            rw [e0, headB, lenB2 (by omega), putB1]; simp only [List.append_assoc]; rfl
          . refine G.done2 rfl rfl rfl [] (SubH.nil _) ⟨rfl, ?_⟩
            rw [e0, headB, lenB3 (by omega), putB1, ← show ((xx.length : Int) / 256).toNat = xx.length / 256 by omega, ← show ((xx.length : Int) % 256).toNat = xx.length % 256 by omega]; simp only [List.append_assoc]; rfl
          . refine G.done2 rfl rfl rfl [] (SubH.nil _) ⟨rfl, ?_⟩
            rw [e0, headB, lenB4 (by omega), putB1, ← show ((xx.length : Int) / 65536).toNat = xx.length / 65536 by omega, ← show ((xx.length : Int) / 256 % 256).toNat = xx.length / 256 % 256 by omega, ← show ((xx.length : Int) % 256).toNat = xx.length % 256 by omega]; simp only [List.append_assoc]; rfl
    . have e0 : putM d (.mk t data ks) = if 64 < d then ([], 6) else ([], 7) := by
        rw [putM]
        by_cases c1 : 64 < d
        . rw [if_pos c1, if_pos c1]
        . rw [if_neg c1, if_neg c1, if_pos (by omega)]
      refine Spec.enter Tryd.func85 rfl rfl ?_; intro w0
      repeat' (first | (refine G.atCode ?_; first | refine G.seq ?_ | refine G.region ?_ | refine G.skip ?_ | refine G.ret ?_ | (refine G.cond rfl ?_ ?_ <;> intro hc <;> (try simp only [tests, reduceCtorEq] at hc) <;> (try exact Zf))) | refine G.endOps ?_ | (refine G.atGd ?_; first | refine G.guardYes rfl rfl ?_ | refine G.guardNoS rfl rfl rfl ?_ | (refine G.guardS rfl rfl rfl ?_ ?_ <;> intro hc <;> (try simp only [tests, reduceCtorEq] at hc) <;> (try exact Zf))) | (refine G.atBin ?_; first | refine G.op rfl rfl ?_) | refine G.op rfl rfl ?_ | (refine G.atLoad ?_; first | refine G.loadOwn1 rfl (tyy rfl) rfl rfl Za rfl rfl ?_) | (refine G.atFld ?_; first | refine G.fieldAddr rfl (tyy rfl) rfl rfl ?_) | (refine G.atBox ?_; refine G.box rfl rfl rfl ?_; intro _))
      all_goals first
        | (have e9 : putM d (.mk t data ks) = ([], 6) := (by rw [e0, if_pos (by omega)])
           exact G.done2 rfl rfl rfl [] (SubH.nil _) ⟨rfl, by rw [e9]; rfl⟩)
        | (have e9 : putM d (.mk t data ks) = ([], 7) := (by rw [e0, if_neg (by omega)])
           exact G.done2 rfl rfl rfl [] (SubH.nil _) ⟨rfl, by rw [e9]; rfl⟩)

theorem ref_Put (a : Nd) (hwt : a.wt <= 1073741824) (ra : List Value) (h : Heap) (ha : NodeC h a ra) :
    Spec Tryd.prog 55 [.agg ra.toArray] h [] (fun v _ H' => H' = [] /\ v = .tuple #[str (putM 1 a).1, .int .i64 (putM 1 a).2]) := by
  obtain ⟨t, d, A, m, c, rfl⟩ := ha.shape
  refine Spec.enter Tryd.func55 rfl rfl ?_; intro w0
  repeat' (first | (show G _ (.ops .seq _ (⟨some _, .call { callee := .value (.func 85), args := _, argTypes := _ }, _, _, _, none⟩ :: _) :: _) _ _ _; refine G.call callRput rfl rfl (ref_put a.sz a (Nat.le_refl _) hwt 1 (by omega) (by omega) _ _ ha) Ze ?_; rintro _ h3 H3 ⟨rfl, rfl⟩ hle3) | (refine G.atCode ?_; first | refine G.seq ?_ | refine G.region ?_ | refine G.ret ?_) | refine G.endOps ?_ | refine G.op rfl rfl ?_ | (refine G.atLoad ?_; first | refine G.loadOwnA rfl (tyy rfl) rfl rfl Za rfl rfl ?_) | (refine G.atBox ?_; refine G.box rfl rfl rfl ?_; intro _))
  exact G.done2 rfl rfl rfl [] (SubH.nil _) ⟨rfl, rfl⟩
end Go.Proofs.YtibkffoeioidlaaDoor
