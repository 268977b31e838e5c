/- Filters: the reader's filter; filt.Parse. -/
import Derived.Test.YtcghcdnmpjhifaaDoorFlI
namespace Go.Proofs.YtcghcdnmpjhifaaDoor
set_option linter.all false
set_option maxRecDepth 4000
open Go.RowKit

theorem callFilter : Callable Tryd.prog 20 := ⟨_, Tryd.func20, by kernel_rfl, rfl⟩
theorem callFParse : Callable Tryd.prog 9 := ⟨_, Tryd.func9, by kernel_rfl, rfl⟩
theorem FlC.shp {h : Heap} {f : Fl} {r : List Value} (hn : FlC h f r) : ∃ k a v A m c B p q, r = [.int .i64 k, str a, str v, .slice A m c, .slice B p q] := by
  obtain ⟨pv, kv, rows, rfl, h1, h2, _⟩ := hn.shape
  obtain ⟨A, c, rfl, _⟩ := h1.form
  obtain ⟨B, q, rfl, _⟩ := h2.form
  exact ⟨_, _, _, _, _, _, _, _, _, rfl⟩
theorem FlC.mono' {h h' : Heap} {n : Fl} {r : List Value} (hn : FlC h n r) (hl : Heap.le h h') : FlC h' n r := FlC.mono hl n r hn
theorem FlsC.mono' {h h' : Heap} {l : List Fl} {r : List (List Value)} (hn : FlsC h l r) (hl : Heap.le h h') : FlsC h' l r := FlsC.mono hl l r hn
def FltR (g : Nat) (u : Value) (h' : Heap) (H' : List Chunk) : FlRes -> Prop
  | .error e => u = .tuple #[zFv, .int .i64 e] /\ e ≠ 0 /\ ∃ s' n', H' = [frd g s' n']
  | .ok (f, r, n') => H' = [frd g r n'] /\ ∃ c, FlC h' f c /\ u = .tuple #[.agg c.toArray, .int .i64 0]
theorem kidsF_n {f : Nat -> List UInt8 -> FlRes} (hf : ∀ n s k r n', f n s = .ok (k, r, n') -> n' <= 1000) : ∀ (m n : Nat) (s : List UInt8) (ks : List Fl) (r : List UInt8) (n' : Nat), n <= 1000 -> kidsF f m n s = .ok (ks, r, n') -> n' <= 1000
  | 0, n, s, ks, r, n', hn, h => by simp only [kidsF, Except.ok.injEq, Prod.mk.injEq] at h; obtain ⟨_, _, rfl⟩ := h; exact hn
  | m + 1, n, s, ks, r, n', hn, h => by
    rw [kidsF] at h
    split at h
    . split at h
      . cases h
      . rename_i k r1 n1 h1
        split at h
        . cases h
        . rename_i ks2 r2 n2 h2
          simp only [Except.ok.injEq, Prod.mk.injEq] at h
          obtain ⟨_, _, rfl⟩ := h
          exact kidsF_n hf m _ _ _ _ _ (hf _ _ _ _ _ h1) h2
    . simp only [Except.ok.injEq, Prod.mk.injEq] at h; obtain ⟨_, _, rfl⟩ := h; exact hn
theorem closeM_n {k : Int} {x : Except Int (List Fl × List UInt8 × Nat)} {f : Fl} {r : List UInt8} {n : Nat} (h : closeM k x = .ok (f, r, n)) : ∃ ks s, x = .ok (ks, s, n) := by
  obtain ⟨ks, s, h1, _⟩ := closeM_ok h
  exact ⟨ks, s, h1⟩
theorem flM_n : ∀ (d n : Nat) (s : List UInt8) (f : Fl) (r : List UInt8) (n' : Nat), flM d n s = .ok (f, r, n') -> n' <= 1000
  | 0, n, s, f, r, n', h => by simp [flM] at h
  | d + 1, n, s, f, r, n', h => by
    have ih := flM_n d
    rw [flM] at h
    split at h
    . cases h
    . split at h
      . cases h
      . rename_i hn
        split at h
        . obtain ⟨ks, s1, h1⟩ := closeM_n h
          exact kidsF_n ih _ _ _ _ _ _ (by omega) h1
        . split at h
          . obtain ⟨ks, s1, h1⟩ := closeM_n h
            exact kidsF_n ih _ _ _ _ _ _ (by omega) h1
          . split at h
            . obtain ⟨ks, s1, h1⟩ := closeM_n h
              cases h2 : flM d (n + 1) (s.drop 2) with
              | error e => rw [h2] at h1; cases h1
              | ok y =>
                obtain ⟨k, r2, n2⟩ := y
                rw [h2] at h1
                simp only [oneM, Except.ok.injEq, Prod.mk.injEq] at h1
                obtain ⟨_, _, rfl⟩ := h1
                exact ih _ _ _ _ _ h2
            . split at h
              . cases h
              . simp only [Except.ok.injEq, Prod.mk.injEq] at h
                obtain ⟨_, _, rfl⟩ := h
                omega
theorem flM_err : ∀ (d n : Nat) (s : List UInt8) (e : Int), flM d n s = .error e -> e ≠ 0
  | 0, n, s, e, h => by simp only [flM, Except.error.injEq] at h; subst h; split <;> decide
  | d + 1, n, s, e, h => by
    have ih := flM_err d
    have hk : ∀ (m n : Nat) (s : List UInt8) (e : Int), kidsF (flM d) m n s = .error e -> e ≠ 0 := by
      intro m
      induction m with
      | zero => intro n s e h; simp [kidsF] at h
      | succ m ihm =>
        intro n s e h
        rw [kidsF] at h
        split at h
        . split at h
          . rename_i h1; injection h with h; subst h; exact ih _ _ _ h1
          . split at h
            . rename_i h1; injection h with h; subst h; exact ihm _ _ _ h1
            . cases h
        . cases h
    have hc : ∀ (k : Int) (x : Except Int (List Fl × List UInt8 × Nat)) (e : Int), closeM k x = .error e -> e = 4 \/ x = .error e := by
      intro k x e h
      cases x with
      | error e' => simp only [closeM, Except.error.injEq] at h; subst h; exact .inr rfl
      | ok y =>
        obtain ⟨ks, s1, n1⟩ := y
        simp only [closeM] at h
        split at h
        . cases h
        . injection h with h; exact .inl h.symm
    rw [flM] at h
    split at h
    . injection h with h; subst h; decide
    . split at h
      . injection h with h; subst h; decide
      . split at h
        . rcases hc _ _ _ h with rfl | h; decide; exact hk _ _ _ _ h
        . split at h
          . rcases hc _ _ _ h with rfl | h; decide; exact hk _ _ _ _ h
          . split at h
            . rcases hc _ _ _ h with rfl | h
              . decide
              . cases h2 : flM d (n + 1) (s.drop 2) with
                | error e' => rw [h2] at h; simp only [oneM, Except.error.injEq] at h; subst h; exact ih _ _ _ h2
                | ok y => rw [h2] at h; cases h
            . split at h
              . injection h with h; subst h; decide
              . cases h
def appK (K : List Fl) : Except Int (List Fl × List UInt8 × Nat) -> Except Int (List Fl × List UInt8 × Nat)
  | .error e => .error e
  | .ok (ks, r, n) => .ok (K ++ ks, r, n)
def opS (i : Nat) : List UInt8 := match i with
  | 0 => [38]
  | 1 => [124]
  | _ => [33]
theorem three {i : Nat} (h : i < 3) : i = 0 \/ i = 1 \/ i = 2 := by omega
theorem opS_at {i : Nat} (h : i < 3) : strAt [[38], [124], [33]] i = opS i := by rcases three h with rfl | rfl | rfl <;> rfl
theorem opS_len (i : Nat) : (opS i).length = 1 := by unfold opS; split <;> rfl
def opM (d n : Nat) (s : List UInt8) (i : Nat) : FlRes := if i = 2 then closeM 2 (oneM (flM d (n + 1) (s.drop 2))) else closeM i (kidsF (flM d) s.length (n + 1) (s.drop 2))
theorem flM_op {d n : Nat} {s : List UInt8} (h1 : preM [40] s = true) (h2 : n + 1 <= 1000) {i : Nat} (hi : i < 3) (hno : ∀ j, j < i -> preM (opS j) (s.drop 1) = false) (hy : preM (opS i) (s.drop 1) = true) : flM (d + 1) n s = opM d n s i := by
  rw [flM, if_neg (by rw [h1]; simp), if_neg (by omega)]
  unfold opM
  rcases three hi with rfl | rfl | rfl
  . simp only [opS] at hy
    rw [if_pos hy, if_neg (by decide)]; rfl
  . have h0 := hno 0 (by omega)
    simp only [opS] at h0 hy
    rw [h0, if_neg (by simp), if_pos hy, if_neg (by decide)]; rfl
  . have h0 := hno 0 (by omega)
    have h1 := hno 1 (by omega)
    simp only [opS] at h0 h1 hy
    rw [h0, h1, if_neg (by simp), if_neg (by simp), if_pos hy, if_pos rfl]
theorem flM_item {d n : Nat} {s : List UInt8} (h1 : preM [40] s = true) (h2 : n + 1 <= 1000) (hno : ∀ j, j < 3 -> preM (opS j) (s.drop 1) = false) : flM (d + 1) n s = (match itemM (s.drop 1) with
      | none => .error 4
      | some (f, r) => .ok (f, r, n + 1)) := by
  have h3 := hno 0 (by omega)
  have h4 := hno 1 (by omega)
  have h5 := hno 2 (by omega)
  simp only [opS] at h3 h4 h5
  rw [flM, if_neg (by rw [h1]; simp), if_neg (by omega), h3, h4, h5, if_neg (by simp), if_neg (by simp), if_neg (by simp)]
  cases itemM (s.drop 1) <;> rfl

set_option maxRecDepth 8000 in
set_option maxHeartbeats 4000000 in
theorem filt_filter : ∀ (d : Nat), d <= 64 -> ∀ (g : Nat) (s : List UInt8) (n : Nat), s.length <= 10000000 -> n <= 1000 -> ∀ (h : Heap), Tabs h →
    Spec Tryd.prog 20 [.pointer (some ⟨g, 0, none⟩), .int .i64 (65 - (d : Int))] h [frd g s n] (fun u h' H' => FltR g u h' H' (flM d n s)) := by
  intro d
  induction d with
  | zero =>
    intro hd g s n hs hn h hT
    cases hp : preM [40] s with
    | false =>
      have e : flM 0 n s = .error 4 := by rw [flM, hp]; rfl
      rw [e]
      unfold frd
      refine Spec.enter Tryd.func20 rfl rfl ?_; intro w0
      repeat' (first | (show G _ (.ops .seq _ (⟨some _, .call { callee := .value (.func 27), args := _, argTypes := _ }, _, _, _, none⟩ :: _) :: _) _ _ _; refine G.call callTake rfl rfl (filt_take g s [40] n (by omega) (by decide) _) Ze ?_; rintro _ h5 H5 ⟨rfl, rfl⟩ hle5; rw [hp]) | (refine G.atCode ?_; first | refine G.seq ?_ | refine G.region ?_ | refine G.ret ?_ | (refine G.cond rfl ?_ ?_ <;> intro hc <;> (try simp only [tests, reduceCtorEq] at hc) <;> (try exact Zf))) | refine G.endOps ?_ | refine G.op rfl rfl ?_ | (refine G.atSto ?_; refine G.storeOwn rfl rfl (tyy rfl) Za rfl rfl rfl rfl ?_) | (refine G.atAlc ?_; refine G.alloc (tyy rfl) rfl rfl ?_; intro _) | (refine G.atBld ?_; refine G.build (tyy rfl) rfl rfl rfl ?_))
      all_goals first | (exfalso; omega) | exact G.done (rs := [.cell 4 25, .tmp 5]) rfl (.cellA rfl (tyy rfl) rfl rfl Za rfl (.tmp rfl .nil)) rfl [frd g _ n] Zu ⟨rfl, by decide, _, _, rfl⟩
    | true =>
      have e : flM 0 n s = .error 6 := by rw [flM, hp]; rfl
      rw [e]
      unfold frd
      refine Spec.enter Tryd.func20 rfl rfl ?_; intro w0
      repeat' (first | (show G _ (.ops .seq _ (⟨some _, .call { callee := .value (.func 27), args := _, argTypes := _ }, _, _, _, none⟩ :: _) :: _) _ _ _; refine G.call callTake rfl rfl (filt_take g s [40] n (by omega) (by decide) _) Ze ?_; rintro _ h5 H5 ⟨rfl, rfl⟩ hle5; rw [hp]) | (refine G.atCode ?_; first | refine G.seq ?_ | refine G.region ?_ | refine G.skip ?_ | refine G.ret ?_ | (refine G.cond rfl ?_ ?_ <;> intro hc <;> (try simp only [tests, reduceCtorEq] at hc) <;> (try exact Zf))) | refine G.endOps ?_ | (refine G.atBin ?_; first | refine G.op rfl rfl ?_) | refine G.op rfl rfl ?_ | (refine G.atSto ?_; refine G.storeOwn rfl rfl (tyy rfl) Za rfl rfl rfl rfl ?_) | (refine G.atAlc ?_; refine G.alloc (tyy rfl) rfl rfl ?_; intro _) | (refine G.atBld ?_; refine G.build (tyy rfl) rfl rfl rfl ?_))
      all_goals first | (exfalso; omega) | exact G.done (rs := [.cell 4 25, .tmp 5]) rfl (.cellA rfl (tyy rfl) rfl rfl Za rfl (.tmp rfl .nil)) rfl [frd g _ n] Zu ⟨rfl, by decide, _, _, rfl⟩
  | succ d ih =>
    intro hd g s n hs hn h hT
    have ih := ih (by omega)
    cases hp : preM [40] s with
    | false =>
      have e : flM (d + 1) n s = .error 4 := by rw [flM, hp]; rfl
      rw [e]
      unfold frd
      refine Spec.enter Tryd.func20 rfl rfl ?_; intro w0
      repeat' (first | (show G _ (.ops .seq _ (⟨some _, .call { callee := .value (.func 27), args := _, argTypes := _ }, _, _, _, none⟩ :: _) :: _) _ _ _; refine G.call callTake rfl rfl (filt_take g s [40] n (by omega) (by decide) _) Ze ?_; rintro _ h5 H5 ⟨rfl, rfl⟩ hle5; rw [hp]) | (refine G.atCode ?_; first | refine G.seq ?_ | refine G.region ?_ | refine G.ret ?_ | (refine G.cond rfl ?_ ?_ <;> intro hc <;> (try simp only [tests, reduceCtorEq] at hc) <;> (try exact Zf))) | refine G.endOps ?_ | refine G.op rfl rfl ?_ | (refine G.atSto ?_; refine G.storeOwn rfl rfl (tyy rfl) Za rfl rfl rfl rfl ?_) | (refine G.atAlc ?_; refine G.alloc (tyy rfl) rfl rfl ?_; intro _) | (refine G.atBld ?_; refine G.build (tyy rfl) rfl rfl rfl ?_))
      all_goals first | (exfalso; omega) | exact G.done (rs := [.cell 4 25, .tmp 5]) rfl (.cellA rfl (tyy rfl) rfl rfl Za rfl (.tmp rfl .nil)) rfl [frd g _ n] Zu ⟨rfl, by decide, _, _, rfl⟩
    | true =>
    have hct : cutP [40] s = s.drop 1 := by unfold cutP; rw [hp]; rfl
    have hsl : 1 <= s.length := by obtain ⟨l, rfl⟩ := preM_one hp; simp
    have hd1 : (s.drop 1).length + 1 = s.length := by rw [List.length_drop]; omega
    by_cases hn1 : 1000 < n + 1
    . have e : flM (d + 1) n s = .error 9 := by rw [flM, hp, if_neg (by simp), if_pos hn1]
      rw [e]
      unfold frd
      refine Spec.enter Tryd.func20 rfl rfl ?_; intro w0
      repeat' (first | (show G _ (.ops .seq _ (⟨some _, .call { callee := .value (.func 27), args := _, argTypes := _ }, _, _, _, none⟩ :: _) :: _) _ _ _; refine G.call callTake rfl rfl (filt_take g s [40] n (by omega) (by decide) _) Ze ?_; rintro _ h5 H5 ⟨rfl, rfl⟩ hle5; rw [hp]) | (refine G.atCode ?_; first | refine G.seq ?_ | refine G.region ?_ | refine G.skip ?_ | refine G.ret ?_ | (refine G.cond rfl ?_ ?_ <;> intro hc <;> (try simp only [tests, reduceCtorEq] at hc) <;> (try exact Zf))) | refine G.endOps ?_ | (refine G.atBin ?_; first | (refine G.atAdd ?_; first | refine G.arith rfl rfl rfl rfl rfl Zi ?_) | refine G.op rfl rfl ?_) | refine G.op rfl rfl ?_ | (refine G.atLoad ?_; first | refine G.loadOwn1 rfl (tyy rfl) rfl rfl Za rfl rfl ?_) | (refine G.atFld ?_; first | refine G.fieldAddr rfl (tyy rfl) rfl rfl ?_) | (refine G.atSto ?_; refine G.storeOwn rfl rfl (tyy rfl) Za rfl rfl rfl rfl ?_) | (refine G.atAlc ?_; refine G.alloc (tyy rfl) rfl rfl ?_; intro _) | (refine G.atBld ?_; refine G.build (tyy rfl) rfl rfl rfl ?_))
      all_goals first | (exfalso; omega) | exact G.done (rs := [.cell 4 25, .tmp 5]) rfl (.cellA rfl (tyy rfl) rfl rfl Za rfl (.tmp rfl .nil)) rfl [frd g _ ((n : Int) + 1)] Zu ⟨rfl, by decide, _, _, rfl⟩
    unfold frd
    generalize hR0 : flM (d + 1) n s = R
    refine Spec.enter Tryd.func20 rfl rfl ?_; intro w0
    repeat' (first | (show G _ (.ops .seq _ (⟨some _, .call { callee := .value (.func 27), args := _, argTypes := _ }, _, _, _, none⟩ :: _) :: _) _ _ _; refine G.call callTake rfl rfl (filt_take g s [40] n (by omega) (by decide) _) Ze ?_; rintro _ h5 H5 ⟨rfl, rfl⟩ hle5; rw [hp, hct]) | (refine G.atCode ?_; refine G.stopLoop ?_) | (refine G.atCode ?_; first | refine G.seq ?_ | refine G.region ?_ | refine G.block ?_ | refine G.skip ?_ | (refine G.cond rfl ?_ ?_ <;> intro hc <;> (try simp only [tests, reduceCtorEq] at hc) <;> (try exact Zf))) | refine G.endOps ?_ | (refine G.atBin ?_; first | (refine G.atAdd ?_; first | refine G.arith rfl rfl rfl rfl rfl Zi ?_) | refine G.op rfl rfl ?_) | refine G.op rfl rfl ?_ | (refine G.atLen ?_; first | refine G.lenSlice rfl (tyy rfl) rfl ?_) | (refine G.atLoad ?_; first | refine G.loadOwn1 rfl (tyy rfl) rfl rfl Za rfl rfl ?_) | (refine G.atFld ?_; first | refine G.fieldAddr rfl (tyy rfl) rfl rfl ?_) | (refine G.atSto ?_; refine G.storeOwn rfl rfl (tyy rfl) Za rfl rfl rfl rfl ?_) | (refine G.atAlc ?_; refine G.alloc (tyy rfl) rfl rfl ?_; intro _) | (refine G.atBsl ?_; refine G.buildSlice (tyy rfl) (tyy rfl) rfl rfl rfl rfl ?_; intro _))
    all_goals try (exfalso; omega)
    rename_i gr _ _ gs
    refine G.freezeBlk Take.hd ?_; intro hf1 hle1 hc1; have hs1 := HSl.ofBlk1 (rows := strsR [[38], [124], [33]]) (n := 3) hc1 (rowed_strs _) rfl (by decide); clear hc1
    refine G.go ?_
    refine G.loop (σ := Nat) (fun i => [(33, .int .i64 i), (32, .int .i64 3), (31, .slice (some ⟨gs, 0, none⟩) 3 3), (0, .pointer (some ⟨g, 0, none⟩)), (1, .int .i64 (65 - ((d + 1 : Nat) : Int))), (4, .pointer (some ⟨gr, 0, none⟩))])
      (fun i => [.blk g [str (s.drop 1), .int .i64 ((n : Int) + 1)] 47, .blk gr [.int .i64 0, str [], str [], .slice none 0 0, .slice none 0 0] 25])
      (fun i _ => i <= 3 /\ ∀ j, j < i -> preM (opS j) (s.drop 1) = false) (fun i => 3 - i) 0
      ⟨rfl, rfl, rfl, rfl, rfl, rfl, trivial⟩ Zu ⟨Nat.zero_le _, fun j hj => absurd hj (by simp)⟩ ?_
    rintro i h7 hle7 ⟨hi, hno⟩
    have hs1 := hs1.mono hle7
    by_cases hlt : i < 3
    rotate_left
    . obtain rfl : i = 3 := by omega
      rw [flM_item hp (by omega) hno] at hR0
      have hcast : ((n : Int) + 1) = ((n + 1 : Nat) : Int) := by omega
      have hit := filt_item g (s.drop 1) ((n : Int) + 1) (by omega)
      cases hm : itemM (s.drop 1) with
      | none =>
        rw [hm] at hR0 hit
        simp only at hR0
        subst hR0
        repeat' (first | (show G _ (.ops .seq _ (⟨some _, .call { callee := .value (.func 29), args := _, argTypes := _ }, _, _, _, none⟩ :: _) :: _) _ _ _; refine G.call callItem rfl rfl (hit _ (hT.mono (by solve | repeat first | assumption | exact Zr _ | refine Zq ?_ Zp))) Ze ?_; rintro _ h8 H8 ⟨⟨s8, hs8, rfl⟩, rfl⟩ hle8; unfold zFv) | (refine G.atCode ?_; first | refine G.seq ?_ | refine G.region ?_ | refine G.exit rfl ?_ | refine G.ret ?_ | (refine G.cond rfl ?_ ?_ <;> intro hc <;> (try simp only [tests, reduceCtorEq] at hc) <;> (try exact Zf))) | refine G.endOps ?_ | (refine G.atBin ?_; first | refine G.op rfl rfl ?_) | refine G.op rfl rfl ?_ | (refine G.atSto ?_; refine G.storeOwn rfl rfl (tyy rfl) Za rfl rfl rfl rfl ?_))
        all_goals first | (exfalso; omega) | exact G.done (rs := [.cell 4 25, .tmp 5]) rfl (.cellA rfl (tyy rfl) rfl rfl Za rfl (.tmp rfl .nil)) rfl [frd g _ ((n : Int) + 1)] Zu ⟨rfl, by decide, _, _, rfl⟩
      | some y =>
        obtain ⟨f, r⟩ := y
        rw [hm] at hR0 hit
        simp only at hR0
        subst hR0
        repeat' (first | (show G _ (.ops .seq _ (⟨some _, .call { callee := .value (.func 29), args := _, argTypes := _ }, _, _, _, none⟩ :: _) :: _) _ _ _; refine G.call callItem rfl rfl (hit _ (hT.mono (by solve | repeat first | assumption | exact Zr _ | refine Zq ?_ Zp))) Ze ?_; rintro _ h8 H8 ⟨rfl, c8, hc8, rfl⟩ hle8; obtain ⟨k9, a9, v9, A9, m9, q9, B9, p9, r9, rfl⟩ := hc8.shp) | (refine G.atCode ?_; first | refine G.seq ?_ | refine G.region ?_ | refine G.exit rfl ?_ | refine G.ret ?_ | (refine G.cond rfl ?_ ?_ <;> intro hc <;> (try simp only [tests, reduceCtorEq] at hc) <;> (try exact Zf))) | refine G.endOps ?_ | (refine G.atBin ?_; first | refine G.op rfl rfl ?_) | refine G.op rfl rfl ?_ | (refine G.atSto ?_; refine G.storeOwn rfl rfl (tyy rfl) Za rfl rfl rfl rfl ?_))
        all_goals first | (exfalso; omega) | exact G.done (rs := [.cell 4 25, .tmp 5]) rfl (.cellA rfl (tyy rfl) rfl rfl Za rfl (.tmp rfl .nil)) rfl [frd g r ((n : Int) + 1)] Zu ⟨by rw [hcast], _, hc8, rfl⟩
    have hst := opS_at hlt
    have hol := opS_len i
    cases hy : preM (opS i) (s.drop 1) with
    | false =>
      have hcy : cutP (opS i) (s.drop 1) = s.drop 1 := by unfold cutP; rw [hy]; rfl
      repeat' (first | (show G _ (.ops .seq _ (⟨some _, .call { callee := .value (.func 27), args := _, argTypes := _ }, _, _, _, none⟩ :: _) :: _) _ _ _; rw [hst]; refine G.call callTake rfl rfl (filt_take g (s.drop 1) (opS i) _ (by omega) (by omega) _) Ze ?_; rintro _ h5 H5 ⟨rfl, rfl⟩ hle5; rw [hy, hcy]) | (refine G.atCode ?_; first | refine G.seq ?_ | refine G.region ?_ | refine G.block ?_ | refine G.skip ?_ | refine G.exit rfl ?_ | (refine G.cond rfl ?_ ?_ <;> intro hc <;> (try simp only [tests, reduceCtorEq] at hc) <;> (try exact Zf))) | refine G.endOps ?_ | (refine G.atBin ?_; first | (refine G.atAdd ?_; first | refine G.arith rfl rfl rfl rfl rfl Zi ?_) | refine G.op rfl rfl ?_) | refine G.op rfl rfl ?_ | (refine G.atLoad ?_; first | refine G.loadImm1 rfl (tyy rfl) rfl rfl Zp rfl ?_) | (refine G.atIdx ?_; first | (refine G.idxImmS rfl rfl (tyy rfl) (tyy rfl) Zl Zj rfl Zo ?_; intro _ _)))
      all_goals first | (exfalso; omega) | exact G.again (i + 1) ⟨sint (by simp), rfl, rfl, rfl, rfl, rfl, trivial⟩ Zu ⟨by omega, fun j hj => if hji : j < i then hno j hji else (show j = i by omega) ▸ hy⟩ (by solve | repeat first | assumption | exact Zr _ | refine Zq ?_ Zp) (by omega)
    | true =>
    rw [flM_op hp (by omega) hlt hno hy] at hR0
    have hcy : cutP (opS i) (s.drop 1) = s.drop 2 := by unfold cutP; rw [hy, if_pos rfl, hol, List.drop_drop]
    have hsl2 : (s.drop 2).length + 2 = s.length := by
      have := preM_le hy
      rw [List.length_drop]; omega
    repeat' (first | (show G _ (.ops .seq _ (⟨some _, .call { callee := .value (.func 27), args := _, argTypes := _ }, _, _, _, none⟩ :: _) :: _) _ _ _; rw [hst]; refine G.call callTake rfl rfl (filt_take g (s.drop 1) (opS i) _ (by omega) (by omega) _) Ze ?_; rintro _ h5 H5 ⟨rfl, rfl⟩ hle5; rw [hy, hcy]) | (refine G.atCode ?_; refine G.stopLoop ?_) | (refine G.atCode ?_; first | refine G.seq ?_ | refine G.region ?_ | refine G.block ?_ | refine G.skip ?_ | (refine G.cond rfl ?_ ?_ <;> intro hc <;> (try simp only [tests, reduceCtorEq] at hc) <;> (try exact Zf))) | refine G.endOps ?_ | (refine G.atBin ?_; first | refine G.op rfl rfl ?_) | refine G.op rfl rfl ?_ | (refine G.atLoad ?_; first | refine G.loadImm1 rfl (tyy rfl) rfl rfl Zp rfl ?_) | (refine G.atSto ?_; refine G.storeOwn rfl rfl (tyy rfl) Za rfl rfl rfl rfl ?_) | (refine G.atAlc ?_; refine G.alloc (tyy rfl) rfl rfl ?_; intro _) | (refine G.atBld ?_; refine G.build (tyy rfl) rfl rfl rfl ?_) | (refine G.atIdx ?_; first | (refine G.idxImmS rfl rfl (tyy rfl) (tyy rfl) Zl Zj rfl Zo ?_; intro _ _)))
    all_goals try (exfalso; omega)
    rename_i gf
    have hdep : (65 - ((d + 1 : Nat) : Int)) + 1 = 65 - (d : Int) := by omega
    have hTT := hT.mono (Heap.le_trans Zp (Heap.le_trans hle1 (Heap.le_trans hle7 hle5)))
    clear hno hst hol hcy hct hs1 hd1
    refine G.nilRow 25 5 ?_
    refine G.go ?_
    by_cases hi2 : i = 2
    rotate_left
    . unfold opM at hR0
      rw [if_neg hi2] at hR0
      generalize hRK : kidsF (flM d) s.length (n + 1) (s.drop 2) = RK at hR0
      have hRK0 : appK [] (kidsF (flM d) s.length (n + 1) (s.drop 2)) = RK := by rw [hRK]; cases RK <;> rfl
      clear hRK
      refine G.loop (σ := Nat × Nat × List UInt8 × List Fl × List (List Value) × Option Addr × Nat) (fun x => [(6, .int .i64 i), (8, .pointer (some ⟨gf, 0, none⟩)), (0, .pointer (some ⟨g, 0, none⟩)), (1, .int .i64 (65 - ((d + 1 : Nat) : Int))), (4, .pointer (some ⟨gr, 0, none⟩))])
        (fun x => [.blk g [str x.2.2.1, .int .i64 x.2.1] 47, .blk gf [.int .i64 i, str [], str [], .slice none 0 0, .slice x.2.2.2.2.2.1 x.2.2.2.2.1.length x.2.2.2.2.2.2] 25, .blk gr [.int .i64 0, str [], str [], .slice none 0 0, .slice none 0 0] 25, .row (.slice x.2.2.2.2.2.1 x.2.2.2.2.1.length x.2.2.2.2.2.2) 25 5 x.2.2.2.2.1])
        (fun x h' => x.2.2.1.length < x.1 /\ x.2.2.2.1.length + x.2.2.1.length <= s.length /\ x.2.1 <= 1000 /\ FlsC h' x.2.2.2.1 x.2.2.2.2.1 /\ appK x.2.2.2.1 (kidsF (flM d) x.1 x.2.1 x.2.2.1) = RK) (fun x => x.1) ⟨s.length, n + 1, s.drop 2, [], [], none, 0⟩
        ⟨rfl, rfl, rfl, rfl, rfl, trivial⟩ Zu ⟨by simp only; omega, by simp only [List.length_nil]; omega, by simp only; omega, FlsC.nil _, hRK0⟩ ?_
      rintro ⟨m, n', s', K, rows, A, c⟩ h8 hle8 ⟨hm, hKs, hn', hK, hinv⟩
      simp only at hm hKs hn' hK hinv
      have hrl := hK.len
      have hTT := hTT.mono hle8
      refine G.norm (by (try dsimp only) <;> exact rfl) (by (try dsimp only) <;> exact rfl) ?_
      obtain ⟨m, rfl⟩ : ∃ m', m = m' + 1 := ⟨m - 1, by omega⟩
      rw [kidsF] at hinv
      cases hq : preM [40] s' with
      | false =>
        rw [hq, if_neg (by simp)] at hinv
        simp only [appK, List.append_nil] at hinv
        subst hinv
        cases hz : preM [41] s' with
        | false =>
          simp only [closeM, hz] at hR0
          rw [if_neg (by simp)] at hR0
          subst hR0
          repeat' (first | (show G _ (.ops .seq _ (⟨some _, .call { callee := .value (.func 28), args := _, argTypes := _ }, _, _, _, none⟩ :: _) :: _) _ _ _; refine G.call callHasP rfl rfl (str_HasPrefix s' [40] (by omega) (by decide) _) Ze ?_; rintro _ h9 H9 ⟨rfl, rfl⟩ hle9; rw [hq]) | (show G _ (.ops .seq _ (⟨some _, .call { callee := .value (.func 27), args := _, argTypes := _ }, _, _, _, none⟩ :: _) :: _) _ _ _; refine G.call callTake rfl rfl (filt_take g s' [41] n' (by omega) (by decide) _) Ze ?_; rintro _ h5 H5 ⟨rfl, rfl⟩ hle5; rw [hz]) | (refine G.atCode ?_; first | refine G.seq ?_ | refine G.region ?_ | refine G.exit rfl ?_ | refine G.ret ?_ | (refine G.cond rfl ?_ ?_ <;> intro hc <;> (try simp only [tests, reduceCtorEq] at hc) <;> (try exact Zf))) | refine G.endOps ?_ | (refine G.atGd ?_; first | refine G.guardYes rfl rfl ?_ | refine G.guardNoS rfl rfl rfl ?_ | (refine G.guardS rfl rfl rfl ?_ ?_ <;> intro hc <;> (try simp only [tests, reduceCtorEq] at hc) <;> (try exact Zf))) | (refine G.atBin ?_; first | (refine G.atEql ?_; first | refine G.op rfl rfl ?_) | (refine G.atNeq ?_; first | refine G.op rfl rfl ?_)) | refine G.op rfl rfl ?_ | (refine G.atLoad ?_; first | refine G.loadOwn1 rfl (tyy rfl) rfl rfl Za rfl rfl ?_) | (refine G.atFld ?_; first | refine G.fieldAddr rfl (tyy rfl) rfl rfl ?_) | (refine G.atSto ?_; refine G.storeOwn rfl rfl (tyy rfl) Za rfl rfl rfl rfl ?_) | (refine G.atBld ?_; refine G.build (tyy rfl) rfl rfl rfl ?_))
          all_goals first | (exfalso; omega) | exact G.done (rs := [.cell 4 25, .tmp 5]) rfl (.cellA rfl (tyy rfl) rfl rfl Za rfl (.tmp rfl .nil)) rfl [frd g _ n'] Zu ⟨rfl, by decide, _, _, rfl⟩
        | true =>
          have hcz : cutP [41] s' = s'.drop 1 := by unfold cutP; rw [hz]; rfl
          simp only [closeM, hz] at hR0
          rw [if_pos trivial] at hR0
          subst hR0
          repeat' (first | (show G _ (.ops .seq _ (⟨some _, .call { callee := .value (.func 28), args := _, argTypes := _ }, _, _, _, none⟩ :: _) :: _) _ _ _; refine G.call callHasP rfl rfl (str_HasPrefix s' [40] (by omega) (by decide) _) Ze ?_; rintro _ h9 H9 ⟨rfl, rfl⟩ hle9; rw [hq]) | (show G _ (.ops .seq _ (⟨some _, .call { callee := .value (.func 27), args := _, argTypes := _ }, _, _, _, none⟩ :: _) :: _) _ _ _; refine G.call callTake rfl rfl (filt_take g s' [41] n' (by omega) (by decide) _) Ze ?_; rintro _ h5 H5 ⟨rfl, rfl⟩ hle5; rw [hz, hcz]) | (refine G.atCode ?_; first | refine G.seq ?_ | refine G.region ?_ | refine G.skip ?_ | refine G.exit rfl ?_ | refine G.ret ?_ | (refine G.cond rfl ?_ ?_ <;> intro hc <;> (try simp only [tests, reduceCtorEq] at hc) <;> (try exact Zf))) | refine G.endOps ?_ | (refine G.atGd ?_; first | refine G.guardYes rfl rfl ?_ | refine G.guardNoS rfl rfl rfl ?_ | (refine G.guardS rfl rfl rfl ?_ ?_ <;> intro hc <;> (try simp only [tests, reduceCtorEq] at hc) <;> (try exact Zf))) | (refine G.atBin ?_; first | (refine G.atEql ?_; first | refine G.op rfl rfl ?_) | (refine G.atNeq ?_; first | refine G.op rfl rfl ?_)) | refine G.op rfl rfl ?_ | (refine G.atLoad ?_; first | refine G.loadOwn1 rfl (tyy rfl) rfl rfl Za rfl rfl ?_ | refine G.loadOwnA rfl (tyy rfl) rfl rfl Za rfl rfl ?_) | (refine G.atFld ?_; first | refine G.fieldAddr rfl (tyy rfl) rfl rfl ?_) | (refine G.atSto ?_; refine G.storeOwn rfl rfl (tyy rfl) Za rfl rfl rfl rfl ?_))
          all_goals try (exfalso; omega)
          refine G.freezeRow (v := .slice A rows.length c) Za ?_
          intro hf9 hlf9 hs9
          exact G.done (rs := [.cell 4 25, .tmp 5]) rfl (.cellA rfl (tyy rfl) rfl rfl Za rfl (.tmp rfl .nil)) rfl [frd g (s'.drop 1) n'] Zu ⟨rfl, _, FlC.mk_ (HSl.nil _ 2) hs9 (hK.mono' (by solve | repeat first | assumption | exact Zr _ | refine Zq ?_ Zp)), rfl⟩
      | true =>
        rw [hq, if_pos rfl] at hinv
        have hcall := ih g s' n' (by omega) hn'
        cases hf : flM d n' s' with
        | error e =>
          rw [hf] at hinv hcall
          simp only [appK] at hinv
          subst hinv
          simp only [closeM] at hR0
          subst hR0
          repeat' (first | (show G _ (.ops .seq _ (⟨some _, .call { callee := .value (.func 28), args := _, argTypes := _ }, _, _, _, none⟩ :: _) :: _) _ _ _; refine G.call callHasP rfl rfl (str_HasPrefix s' [40] (by omega) (by decide) _) Ze ?_; rintro _ h9 H9 ⟨rfl, rfl⟩ hle9; rw [hq]) | (show G _ (.ops .seq _ (⟨some _, .call { callee := .value (.func 20), args := _, argTypes := _ }, _, _, _, none⟩ :: _) :: _) _ _ _; rw [hdep]; refine G.call callFilter rfl rfl (hcall _ (hTT.mono (by solve | repeat first | assumption | exact Zr _ | refine Zq ?_ Zp))) Ze ?_; rintro _ h9 H9 ⟨rfl, he0, s9, n9, rfl⟩ hle9; unfold zFv) | (refine G.atCode ?_; first | refine G.seq ?_ | refine G.region ?_ | refine G.block ?_ | refine G.skip ?_ | refine G.ret ?_ | (refine G.cond rfl ?_ ?_ <;> intro hc <;> (try simp only [tests, reduceCtorEq] at hc) <;> (try exact Zf))) | refine G.endOps ?_ | (refine G.atGd ?_; first | refine G.guardYes rfl rfl ?_ | refine G.guardNoS rfl rfl rfl ?_ | (refine G.guardS rfl rfl rfl ?_ ?_ <;> intro hc <;> (try simp only [tests, reduceCtorEq] at hc) <;> (try exact Zf))) | (refine G.atBin ?_; first | (refine G.atAdd ?_; first | refine G.arith rfl rfl rfl rfl rfl Zi ?_) | (refine G.atEql ?_; first | refine G.op rfl rfl ?_) | (refine G.atNeq ?_; first | refine G.op rfl rfl ?_)) | refine G.op rfl rfl ?_ | (refine G.atLoad ?_; first | refine G.loadOwn1 rfl (tyy rfl) rfl rfl Za rfl rfl ?_) | (refine G.atFld ?_; first | refine G.fieldAddr rfl (tyy rfl) rfl rfl ?_) | (refine G.atSto ?_; refine G.storeOwn rfl rfl (tyy rfl) Za rfl rfl rfl rfl ?_) | (refine G.atAlc ?_; refine G.alloc (tyy rfl) rfl rfl ?_; intro _) | (refine G.atBld ?_; refine G.build (tyy rfl) rfl rfl rfl ?_))
          all_goals first | (exfalso; omega) | exact G.done (rs := [.cell 4 25, .tmp 5]) rfl (.cellA rfl (tyy rfl) rfl rfl Za rfl (.tmp rfl .nil)) rfl [frd g _ _] Zu ⟨rfl, he0, _, _, rfl⟩
        | ok y =>
          obtain ⟨k, r, n2⟩ := y
          have hn2 := flM_n _ _ _ _ _ _ hf
          have hr2 := flM_len _ _ _ _ _ _ hf
          rw [hf] at hinv hcall
          simp only at hinv
          repeat' (first | (show G _ (.ops .seq _ (⟨some _, .call { callee := .value (.func 28), args := _, argTypes := _ }, _, _, _, none⟩ :: _) :: _) _ _ _; refine G.call callHasP rfl rfl (str_HasPrefix s' [40] (by omega) (by decide) _) Ze ?_; rintro _ h9 H9 ⟨rfl, rfl⟩ hle9; rw [hq]) | (show G _ (.ops .seq _ (⟨some _, .call { callee := .value (.func 20), args := _, argTypes := _ }, _, _, _, none⟩ :: _) :: _) _ _ _; rw [hdep]; refine G.call callFilter rfl rfl (hcall _ (hTT.mono (by solve | repeat first | assumption | exact Zr _ | refine Zq ?_ Zp))) Ze ?_; rintro _ h9 H9 ⟨rfl, c9, hc9, rfl⟩ hle9; obtain ⟨k9, a9, v9, A9, m9, q9, B9, p9, r9, rfl⟩ := hc9.shp) | (refine G.atCode ?_; first | refine G.seq ?_ | refine G.region ?_ | refine G.block ?_ | refine G.skip ?_ | (refine G.cond rfl ?_ ?_ <;> intro hc <;> (try simp only [tests, reduceCtorEq] at hc) <;> (try exact Zf))) | refine G.endOps ?_ | refine G.endBlk ?_ | (refine G.atGd ?_; first | refine G.guardYes rfl rfl ?_ | refine G.guardNoS rfl rfl rfl ?_ | (refine G.guardS rfl rfl rfl ?_ ?_ <;> intro hc <;> (try simp only [tests, reduceCtorEq] at hc) <;> (try exact Zf))) | (refine G.atBin ?_; first | (refine G.atAdd ?_; first | refine G.arith rfl rfl rfl rfl rfl Zi ?_) | (refine G.atEql ?_; first | refine G.op rfl rfl ?_) | (refine G.atNeq ?_; first | refine G.op rfl rfl ?_)) | refine G.op rfl rfl ?_ | (refine G.atLoad ?_; first | refine G.loadOwn1 rfl (tyy rfl) rfl rfl Za rfl rfl ?_ | refine G.loadOwnA rfl (tyy rfl) rfl rfl Za rfl rfl ?_) | (refine G.atFld ?_; first | refine G.fieldAddr rfl (tyy rfl) rfl rfl ?_) | (refine G.atSto ?_; refine G.storeOwn rfl rfl (tyy rfl) Za rfl rfl rfl rfl ?_) | (refine G.atAlc ?_; refine G.alloc (tyy rfl) rfl rfl ?_; intro _) | (refine G.atBsl ?_; refine G.buildSlice (tyy rfl) (tyy rfl) rfl rfl rfl rfl ?_; intro _) | (refine G.atApp ?_; first | (refine G.append1 rfl rfl (tyy rfl) (tyy rfl) rfl rfl Za Za rfl rfl rfl Zo ?_; intro _; refine G.rowForm Take.hd ?_; rintro _ _ rfl)))
          all_goals try (exfalso; omega)
          rename_i A' c'
          exact G.again ⟨m, n2, r, K ++ [k], rows ++ [[.int .i64 k9, str a9, str v9, .slice A9 m9 q9, .slice B9 p9 r9]], A', c'⟩ ⟨rfl, rfl, rfl, rfl, rfl, trivial⟩ Zu ⟨by simp only; omega, by simp only [List.length_append, List.length_cons, List.length_nil]; omega, hn2, (hK.mono' (by solve | repeat first | assumption | exact Zr _ | refine Zq ?_ Zp)).append (FlsC.one hc9), by rw [<- hinv]; cases kidsF (flM d) m n2 r with
            | error e => rfl
            | ok z => obtain ⟨ks, r3, n3⟩ := z; simp [appK]⟩ (by solve | repeat first | assumption | exact Zr _ | refine Zq ?_ Zp) (by simp only; omega)
    . subst hi2
      unfold opM at hR0
      rw [if_pos rfl] at hR0
      have hcall := ih g (s.drop 2) (n + 1) (by omega) (by omega)
      refine G.loop (σ := Nat × List UInt8 × List Fl × List (List Value) × Option Addr × Nat) (fun x => [(6, .int .i64 (2 : Nat)), (8, .pointer (some ⟨gf, 0, none⟩)), (0, .pointer (some ⟨g, 0, none⟩)), (1, .int .i64 (65 - ((d + 1 : Nat) : Int))), (4, .pointer (some ⟨gr, 0, none⟩))])
        (fun x => [.blk g [str x.2.1, .int .i64 x.1] 47, .blk gf [.int .i64 (2 : Nat), str [], str [], .slice none 0 0, .slice x.2.2.2.2.1 x.2.2.2.1.length x.2.2.2.2.2] 25, .blk gr [.int .i64 0, str [], str [], .slice none 0 0, .slice none 0 0] 25, .row (.slice x.2.2.2.2.1 x.2.2.2.1.length x.2.2.2.2.2) 25 5 x.2.2.2.1])
        (fun x h' => FlsC h' x.2.2.1 x.2.2.2.1 /\ ((x.2.2.1 = [] /\ x.2.1 = s.drop 2 /\ x.1 = n + 1) \/ (∃ k, x.2.2.1 = [k] /\ flM d (n + 1) (s.drop 2) = .ok (k, x.2.1, x.1)))) (fun x => 1 - x.2.2.1.length) ⟨n + 1, s.drop 2, [], [], none, 0⟩
        ⟨rfl, rfl, rfl, rfl, rfl, trivial⟩ Zu ⟨FlsC.nil _, .inl ⟨rfl, rfl, rfl⟩⟩ ?_
      rintro ⟨n', s', K, rows, A, c⟩ h8 hle8 ⟨hK, hinv⟩
      simp only at hK hinv
      have hrl := hK.len
      have hTT := hTT.mono hle8
      rcases hinv with ⟨rfl, rfl, rfl⟩ | ⟨k, rfl, hf⟩
      . have hr0 : rows = [] := List.eq_nil_of_length_eq_zero (by rw [hrl]; rfl)
        subst hr0
        refine G.norm (by (try dsimp only) <;> exact rfl) (by (try dsimp only) <;> exact rfl) ?_
        cases hf : flM d (n + 1) (s.drop 2) with
        | error e =>
          rw [hf] at hR0 hcall
          simp only [oneM, closeM] at hR0
          subst hR0
          repeat' (first | (show G _ (.ops .seq _ (⟨some _, .call { callee := .value (.func 20), args := _, argTypes := _ }, _, _, _, none⟩ :: _) :: _) _ _ _; rw [hdep]; refine G.call callFilter rfl rfl (hcall _ (hTT.mono (by solve | repeat first | assumption | exact Zr _ | refine Zq ?_ Zp))) Ze ?_; rintro _ h9 H9 ⟨rfl, he0, s9, n9, rfl⟩ hle9; unfold zFv) | (refine G.atCode ?_; first | refine G.seq ?_ | refine G.region ?_ | refine G.block ?_ | refine G.skip ?_ | refine G.ret ?_ | (refine G.cond rfl ?_ ?_ <;> intro hc <;> (try simp only [tests, reduceCtorEq] at hc) <;> (try exact Zf))) | refine G.endOps ?_ | (refine G.atGd ?_; first | refine G.guardYes rfl rfl ?_ | refine G.guardNoS rfl rfl rfl ?_ | refine G.guardU rfl rfl rfl ?_) | (refine G.atBin ?_; first | (refine G.atAdd ?_; first | refine G.arith rfl rfl rfl rfl rfl Zi ?_) | (refine G.atEql ?_; first | refine G.op rfl rfl ?_) | (refine G.atNeq ?_; first | refine G.op rfl rfl ?_)) | refine G.op rfl rfl ?_ | (refine G.atLen ?_; first | refine G.lenSlice rfl (tyy rfl) rfl ?_) | (refine G.atLoad ?_; first | refine G.loadOwn1 rfl (tyy rfl) rfl rfl Za rfl rfl ?_) | (refine G.atFld ?_; first | refine G.fieldAddr rfl (tyy rfl) rfl rfl ?_) | (refine G.atSto ?_; refine G.storeOwn rfl rfl (tyy rfl) Za rfl rfl rfl rfl ?_) | (refine G.atAlc ?_; refine G.alloc (tyy rfl) rfl rfl ?_; intro _) | (refine G.atBld ?_; refine G.build (tyy rfl) rfl rfl rfl ?_))
          all_goals first | (exfalso; omega) | exact G.done (rs := [.cell 4 25, .tmp 5]) rfl (.cellA rfl (tyy rfl) rfl rfl Za rfl (.tmp rfl .nil)) rfl [frd g _ _] Zu ⟨rfl, he0, _, _, rfl⟩
        | ok y =>
          obtain ⟨k, r, n2⟩ := y
          rw [hf] at hcall
          repeat' (first | (show G _ (.ops .seq _ (⟨some _, .call { callee := .value (.func 20), args := _, argTypes := _ }, _, _, _, none⟩ :: _) :: _) _ _ _; rw [hdep]; refine G.call callFilter rfl rfl (hcall _ (hTT.mono (by solve | repeat first | assumption | exact Zr _ | refine Zq ?_ Zp))) Ze ?_; rintro _ h9 H9 ⟨rfl, c9, hc9, rfl⟩ hle9; obtain ⟨k9, a9, v9, A9, m9, q9, B9, p9, r9, rfl⟩ := hc9.shp) | (refine G.atCode ?_; first | refine G.seq ?_ | refine G.region ?_ | refine G.block ?_ | refine G.skip ?_ | (refine G.cond rfl ?_ ?_ <;> intro hc <;> (try simp only [tests, reduceCtorEq] at hc) <;> (try exact Zf))) | refine G.endOps ?_ | refine G.endBlk ?_ | (refine G.atGd ?_; first | refine G.guardYes rfl rfl ?_ | refine G.guardNoS rfl rfl rfl ?_ | refine G.guardU rfl rfl rfl ?_) | (refine G.atBin ?_; first | (refine G.atAdd ?_; first | refine G.arith rfl rfl rfl rfl rfl Zi ?_) | (refine G.atEql ?_; first | refine G.op rfl rfl ?_) | (refine G.atNeq ?_; first | refine G.op rfl rfl ?_)) | refine G.op rfl rfl ?_ | (refine G.atLen ?_; first | refine G.lenSlice rfl (tyy rfl) rfl ?_) | (refine G.atLoad ?_; first | refine G.loadOwn1 rfl (tyy rfl) rfl rfl Za rfl rfl ?_ | refine G.loadOwnA rfl (tyy rfl) rfl rfl Za rfl rfl ?_) | (refine G.atFld ?_; first | refine G.fieldAddr rfl (tyy rfl) rfl rfl ?_) | (refine G.atSto ?_; refine G.storeOwn rfl rfl (tyy rfl) Za rfl rfl rfl rfl ?_) | (refine G.atAlc ?_; refine G.alloc (tyy rfl) rfl rfl ?_; intro _) | (refine G.atBsl ?_; refine G.buildSlice (tyy rfl) (tyy rfl) rfl rfl rfl rfl ?_; intro _) | (refine G.atApp ?_; first | (refine G.append1 rfl rfl (tyy rfl) (tyy rfl) rfl rfl Za Za rfl rfl rfl Zo ?_; intro _; refine G.rowForm Take.hd ?_; rintro _ _ rfl)))
          all_goals try (exfalso; omega)
          rename_i A' c'
          exact G.again ⟨n2, r, [k], [[.int .i64 k9, str a9, str v9, .slice A9 m9 q9, .slice B9 p9 r9]], A', c'⟩ ⟨rfl, rfl, rfl, rfl, rfl, trivial⟩ Zu ⟨FlsC.one hc9, .inr ⟨k, rfl, rfl⟩⟩ (by solve | repeat first | assumption | exact Zr _ | refine Zq ?_ Zp) (by simp)
      . have hn2 := flM_n _ _ _ _ _ _ hf
        have hr2 := flM_len _ _ _ _ _ _ hf
        rw [hf] at hR0
        have hr1 : rows.length = 1 := by rw [hrl]; rfl
        refine G.norm (by (try dsimp only) <;> exact rfl) (by (try dsimp only) <;> exact rfl) ?_
        cases hz : preM [41] s' with
        | false =>
          simp only [oneM, closeM, hz] at hR0
          rw [if_neg (by simp)] at hR0
          subst hR0
          repeat' (first | (show G _ (.ops .seq _ (⟨some _, .call { callee := .value (.func 27), args := _, argTypes := _ }, _, _, _, none⟩ :: _) :: _) _ _ _; refine G.call callTake rfl rfl (filt_take g s' [41] n' (by omega) (by decide) _) Ze ?_; rintro _ h5 H5 ⟨rfl, rfl⟩ hle5; rw [hz]) | (refine G.atCode ?_; first | refine G.seq ?_ | refine G.region ?_ | refine G.exit rfl ?_ | refine G.ret ?_ | (refine G.cond rfl ?_ ?_ <;> intro hc <;> (try simp only [tests, reduceCtorEq] at hc) <;> (try exact Zf))) | refine G.endOps ?_ | (refine G.atGd ?_; first | refine G.guardYes rfl rfl ?_ | refine G.guardNoS rfl rfl rfl ?_ | (refine G.guardS rfl rfl rfl ?_ ?_ <;> intro hc <;> (try simp only [tests, reduceCtorEq] at hc) <;> (try exact Zf))) | (refine G.atBin ?_; first | (refine G.atEql ?_; first | refine G.op rfl rfl ?_) | (refine G.atNeq ?_; first | refine G.op rfl rfl ?_)) | refine G.op rfl rfl ?_ | (refine G.atLen ?_; first | refine G.lenSlice rfl (tyy rfl) rfl ?_) | (refine G.atLoad ?_; first | refine G.loadOwn1 rfl (tyy rfl) rfl rfl Za rfl rfl ?_) | (refine G.atFld ?_; first | refine G.fieldAddr rfl (tyy rfl) rfl rfl ?_) | (refine G.atSto ?_; refine G.storeOwn rfl rfl (tyy rfl) Za rfl rfl rfl rfl ?_) | (refine G.atBld ?_; refine G.build (tyy rfl) rfl rfl rfl ?_))
          all_goals first | (exfalso; omega) | exact G.done (rs := [.cell 4 25, .tmp 5]) rfl (.cellA rfl (tyy rfl) rfl rfl Za rfl (.tmp rfl .nil)) rfl [frd g _ n'] Zu ⟨rfl, by decide, _, _, rfl⟩
        | true =>
          have hcz : cutP [41] s' = s'.drop 1 := by unfold cutP; rw [hz]; rfl
          simp only [oneM, closeM, hz] at hR0
          rw [if_pos trivial] at hR0
          subst hR0
          repeat' (first | (show G _ (.ops .seq _ (⟨some _, .call { callee := .value (.func 27), args := _, argTypes := _ }, _, _, _, none⟩ :: _) :: _) _ _ _; refine G.call callTake rfl rfl (filt_take g s' [41] n' (by omega) (by decide) _) Ze ?_; rintro _ h5 H5 ⟨rfl, rfl⟩ hle5; rw [hz, hcz]) | (refine G.atCode ?_; first | refine G.seq ?_ | refine G.region ?_ | refine G.skip ?_ | refine G.exit rfl ?_ | refine G.ret ?_ | (refine G.cond rfl ?_ ?_ <;> intro hc <;> (try simp only [tests, reduceCtorEq] at hc) <;> (try exact Zf))) | refine G.endOps ?_ | (refine G.atGd ?_; first | refine G.guardYes rfl rfl ?_ | refine G.guardNoS rfl rfl rfl ?_ | (refine G.guardS rfl rfl rfl ?_ ?_ <;> intro hc <;> (try simp only [tests, reduceCtorEq] at hc) <;> (try exact Zf))) | (refine G.atBin ?_; first | (refine G.atEql ?_; first | refine G.op rfl rfl ?_) | (refine G.atNeq ?_; first | refine G.op rfl rfl ?_)) | refine G.op rfl rfl ?_ | (refine G.atLen ?_; first | refine G.lenSlice rfl (tyy rfl) rfl ?_) | (refine G.atLoad ?_; first | refine G.loadOwn1 rfl (tyy rfl) rfl rfl Za rfl rfl ?_ | refine G.loadOwnA rfl (tyy rfl) rfl rfl Za rfl rfl ?_) | (refine G.atFld ?_; first | refine G.fieldAddr rfl (tyy rfl) rfl rfl ?_) | (refine G.atSto ?_; refine G.storeOwn rfl rfl (tyy rfl) Za rfl rfl rfl rfl ?_))
          all_goals try (exfalso; omega)
          refine G.freezeRow (v := .slice A rows.length c) Za ?_
          intro hf9 hlf9 hs9
          exact G.done (rs := [.cell 4 25, .tmp 5]) rfl (.cellA rfl (tyy rfl) rfl rfl Za rfl (.tmp rfl .nil)) rfl [frd g (s'.drop 1) n'] Zu ⟨rfl, _, FlC.mk_ (HSl.nil _ 2) hs9 (hK.mono' (by solve | repeat first | assumption | exact Zr _ | refine Zq ?_ Zp)), rfl⟩
def FParR (h : Heap) (m : Except Int Fl) (u : Value) : Prop := match m with
  | .ok f => ∃ c, FlC h f c /\ u = .tuple #[.agg c.toArray, .int .i64 0]
  | .error e => u = .tuple #[zFv, .int .i64 e]
set_option maxRecDepth 8000 in
set_option maxHeartbeats 1000000 in
theorem filt_Parse (s : List UInt8) (hs : s.length <= 9223372036854775807) (h : Heap) (hT : Tabs h) : Spec Tryd.prog 9 [str s] h [] (fun u h' H' => FParR h' (flParse s) u /\ H' = []) := by
  by_cases hlong : s.length > 4096
  . have e : flParse s = .error 5 := by unfold flParse; rw [if_pos hlong]
    rw [e]
    refine Spec.enter Tryd.func9 rfl rfl ?_; intro w0
    repeat' (first | (refine G.atCode ?_; first | refine G.seq ?_ | refine G.region ?_ | refine G.ret ?_ | (refine G.cond rfl ?_ ?_ <;> intro hc <;> (try simp only [tests, reduceCtorEq] at hc) <;> (try exact Zf))) | refine G.endOps ?_ | (refine G.atBin ?_; first | refine G.op rfl rfl ?_) | refine G.op rfl rfl ?_ | (refine G.atLen ?_; first | refine G.lenStr rfl (tyy rfl) rfl ?_) | (refine G.atSto ?_; refine G.storeOwn rfl rfl (tyy rfl) Za rfl rfl rfl rfl ?_) | (refine G.atAlc ?_; refine G.alloc (tyy rfl) rfl rfl ?_; intro _) | (refine G.atBld ?_; refine G.build (tyy rfl) rfl rfl rfl ?_))
    all_goals first | (exfalso; omega) | exact G.done (rs := [.cell 2 25, .tmp 3]) rfl (.cellA rfl (tyy rfl) rfl rfl Za rfl (.tmp rfl .nil)) rfl [] (SubH.nil _) ⟨rfl, rfl⟩
  have hs : s.length <= 10000000 := by omega
  have hcall := fun g h hT => filt_filter 64 (by omega) g s 0 hs (by omega) h hT
  cases hf : flM 64 0 s with
  | error e =>
    rw [hf] at hcall
    rw [show flParse s = .error e by unfold flParse; rw [if_neg hlong, hf]]
    refine Spec.enter Tryd.func9 rfl rfl ?_; intro w0
    repeat' (first | (show G _ (.ops .seq _ (⟨some _, .call { callee := .value (.func 20), args := _, argTypes := _ }, _, _, _, none⟩ :: _) :: _) _ _ _; refine G.call callFilter rfl rfl (hcall _ _ (hT.mono (by solve | repeat first | assumption | exact Zr _ | refine Zq ?_ Zp))) Ze ?_; rintro _ h9 H9 ⟨rfl, he0, s9, n9, rfl⟩ hle9; unfold zFv) | (refine G.atCode ?_; first | refine G.seq ?_ | refine G.region ?_ | refine G.skip ?_ | refine G.ret ?_ | (refine G.cond rfl ?_ ?_ <;> intro hc <;> (try simp only [tests, reduceCtorEq] at hc) <;> (try exact Zf))) | refine G.endOps ?_ | (refine G.atGd ?_; first | refine G.guardNoS rfl rfl rfl ?_ | (refine G.guardS rfl rfl rfl ?_ ?_ <;> intro hc <;> (try simp only [tests, reduceCtorEq] at hc) <;> (try exact Zf))) | (refine G.atBin ?_; first | (refine G.atEql ?_; first | refine G.op rfl rfl ?_) | (refine G.atNeq ?_; first | refine G.op rfl rfl ?_) | refine G.op rfl rfl ?_) | refine G.op rfl rfl ?_ | (refine G.atLen ?_; first | refine G.lenStr rfl (tyy rfl) rfl ?_) | (refine G.atSto ?_; refine G.storeOwn rfl rfl (tyy rfl) Za rfl rfl rfl rfl ?_) | (refine G.atAlc ?_; refine G.alloc (tyy rfl) rfl rfl ?_; intro _) | (refine G.atBox ?_; refine G.box rfl rfl rfl ?_; intro _) | (refine G.atBld ?_; refine G.build (tyy rfl) rfl rfl rfl ?_))
    all_goals first | (exfalso; omega) | exact G.done (rs := [.cell 2 25, .tmp 3]) rfl (.cellA rfl (tyy rfl) rfl rfl Za rfl (.tmp rfl .nil)) rfl [] (SubH.nil _) ⟨rfl, rfl⟩
  | ok y =>
    obtain ⟨f, r, n⟩ := y
    rw [hf] at hcall
    by_cases hr : r = []
    . rw [show flParse s = .ok f by unfold flParse; rw [if_neg hlong, hf]; exact if_pos hr]
      subst hr
      refine Spec.enter Tryd.func9 rfl rfl ?_; intro w0
      repeat' (first | (show G _ (.ops .seq _ (⟨some _, .call { callee := .value (.func 20), args := _, argTypes := _ }, _, _, _, none⟩ :: _) :: _) _ _ _; refine G.call callFilter rfl rfl (hcall _ _ (hT.mono (by solve | repeat first | assumption | exact Zr _ | refine Zq ?_ Zp))) Ze ?_; rintro _ h9 H9 ⟨rfl, c9, hc9, rfl⟩ hle9; obtain ⟨k9, a9, v9, A9, m9, q9, B9, p9, r9, rfl⟩ := hc9.shp) | (refine G.atCode ?_; first | refine G.seq ?_ | refine G.region ?_ | refine G.skip ?_ | refine G.ret ?_ | (refine G.cond rfl ?_ ?_ <;> intro hc <;> (try simp only [tests, reduceCtorEq] at hc) <;> (try exact Zf))) | refine G.endOps ?_ | (refine G.atGd ?_; first | refine G.guardYes rfl rfl ?_) | (refine G.atBin ?_; first | (refine G.atEql ?_; first | refine G.op rfl rfl ?_) | (refine G.atNeq ?_; first | refine G.op rfl rfl ?_ | refine G.neStr0 rfl rfl rfl ?_) | refine G.op rfl rfl ?_) | refine G.op rfl rfl ?_ | (refine G.atLen ?_; first | refine G.lenStr rfl (tyy rfl) rfl ?_) | (refine G.atLoad ?_; first | refine G.loadOwn1 rfl (tyy rfl) rfl rfl Za rfl rfl ?_ | refine G.loadOwnA rfl (tyy rfl) rfl rfl Za rfl rfl ?_) | (refine G.atFld ?_; first | refine G.fieldAddr rfl (tyy rfl) rfl rfl ?_) | (refine G.atSto ?_; refine G.storeOwn rfl rfl (tyy rfl) Za rfl rfl rfl rfl ?_) | (refine G.atAlc ?_; refine G.alloc (tyy rfl) rfl rfl ?_; intro _) | (refine G.atBox ?_; refine G.box rfl rfl rfl ?_; intro _) | (refine G.atBld ?_; refine G.build (tyy rfl) rfl rfl rfl ?_))
      all_goals first | (exfalso; omega) | (exfalso; simp_all; done) | exact G.done (rs := [.cell 2 25, .tmp 3]) rfl (.cellA rfl (tyy rfl) rfl rfl Za rfl (.tmp rfl .nil)) rfl [] (SubH.nil _) ⟨⟨_, hc9, rfl⟩, rfl⟩
    . rw [show flParse s = .error 4 by unfold flParse; rw [if_neg hlong, hf]; exact if_neg hr]
      have hrl : ¬ r.length = 0 := fun e => hr (List.eq_nil_of_length_eq_zero e)
      refine Spec.enter Tryd.func9 rfl rfl ?_; intro w0
      repeat' (first | (show G _ (.ops .seq _ (⟨some _, .call { callee := .value (.func 20), args := _, argTypes := _ }, _, _, _, none⟩ :: _) :: _) _ _ _; refine G.call callFilter rfl rfl (hcall _ _ (hT.mono (by solve | repeat first | assumption | exact Zr _ | refine Zq ?_ Zp))) Ze ?_; rintro _ h9 H9 ⟨rfl, c9, hc9, rfl⟩ hle9; obtain ⟨k9, a9, v9, A9, m9, q9, B9, p9, r9, rfl⟩ := hc9.shp) | (refine G.atCode ?_; first | refine G.seq ?_ | refine G.region ?_ | refine G.skip ?_ | refine G.ret ?_ | (refine G.cond rfl ?_ ?_ <;> intro hc <;> (try simp only [tests, reduceCtorEq] at hc) <;> (try exact Zf))) | refine G.endOps ?_ | (refine G.atGd ?_; first | refine G.guardYes rfl rfl ?_) | (refine G.atBin ?_; first | (refine G.atEql ?_; first | refine G.op rfl rfl ?_) | (refine G.atNeq ?_; first | refine G.op rfl rfl ?_ | refine G.neStr0 rfl rfl rfl ?_) | refine G.op rfl rfl ?_) | refine G.op rfl rfl ?_ | (refine G.atLen ?_; first | refine G.lenStr rfl (tyy rfl) rfl ?_) | (refine G.atLoad ?_; first | refine G.loadOwn1 rfl (tyy rfl) rfl rfl Za rfl rfl ?_) | (refine G.atFld ?_; first | refine G.fieldAddr rfl (tyy rfl) rfl rfl ?_) | (refine G.atSto ?_; refine G.storeOwn rfl rfl (tyy rfl) Za rfl rfl rfl rfl ?_) | (refine G.atAlc ?_; refine G.alloc (tyy rfl) rfl rfl ?_; intro _) | (refine G.atBox ?_; refine G.box rfl rfl rfl ?_; intro _) | (refine G.atBld ?_; refine G.build (tyy rfl) rfl rfl rfl ?_))
      all_goals first | (exfalso; omega) | exact G.done (rs := [.cell 2 25, .tmp 3]) rfl (.cellA rfl (tyy rfl) rfl rfl Za rfl (.tmp rfl .nil)) rfl [] (SubH.nil _) ⟨rfl, rfl⟩
end Go.Proofs.YtcghcdnmpjhifaaDoor
