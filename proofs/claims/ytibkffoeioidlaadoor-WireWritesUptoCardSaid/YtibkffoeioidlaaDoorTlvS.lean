/- tlv.length, tlv.put, tlv.Put. -/
import Derived.Test.YtibkffoeioidlaaDoorTlvQ
import Derived.Test.YtibkffoeioidlaaDoorTlvB
namespace Go.Proofs.YtibkffoeioidlaaDoor
set_option linter.all false
set_option maxRecDepth 4000
open Go.RowKit

theorem callTPut : Callable Tryd.prog 76 := ⟨_, Tryd.func76, by kernel_rfl, rfl⟩
theorem callTPut1 : Callable Tryd.prog 49 := ⟨_, Tryd.func49, by kernel_rfl, rfl⟩

def lenB (n : Nat) : List UInt8 := if n < 128 then putB n 1 else if n < 256 then putB 129 1 ++ putB n 1 else if n < 65536 then putB 130 1 ++ putB n 2 else putB 131 1 ++ putB n 3
theorem lenB_len (n : Nat) : (lenB n).length <= 4 := by
  unfold lenB
  split
  . simp [putB_length]
  . split
    . simp [putB_length]
    . split <;> simp [putB_length]
def headB (t : Int) (n : Nat) : List UInt8 := putB t.toNat 1 ++ lenB n
theorem headB_len (t : Int) (n : Nat) : (headB t n).length <= 5 := by
  have := lenB_len n
  unfold headB
  rw [List.length_append, putB_length]; omega

mutual
def putM : Int -> Nd -> List UInt8 × Int
  | d, .mk t data ks =>
    if 64 < d then ([], 6) else if t < 0 \/ 255 < t \/ ((t.toNat &&& 31 : Nat) : Int) = 31 then ([], 7) else
    if (((t.toNat &&& 32 : Nat) : Int) ≠ 0 /\ data.length ≠ 0) \/ (((t.toNat &&& 32 : Nat) : Int) = 0 /\ ks.length ≠ 0) then ([], 4) else
    if (putsM (d + 1) ks).2 ≠ 0 then ([], (putsM (d + 1) ks).2) else
    if 1048576 < (data ++ (putsM (d + 1) ks).1).length then ([], 5) else (headB t (data ++ (putsM (d + 1) ks).1).length ++ (data ++ (putsM (d + 1) ks).1), 0)
def putsM : Int -> List Nd -> List UInt8 × Int
  | _, [] => ([], 0)
  | d, k :: ks => if (putM d k).2 ≠ 0 then ([], (putM d k).2) else if (putsM d ks).2 ≠ 0 then ([], (putsM d ks).2) else ((putM d k).1 ++ (putsM d ks).1, 0)
end
mutual
def Nd.wt : Nd -> Nat
  | .mk _ data ks => 1 + data.length + wts ks
def wts : List Nd -> Nat
  | [] => 0
  | k :: ks => Nd.wt k + wts ks
end
mutual
theorem putM_len : ∀ (d : Int) (n : Nd), (putM d n).1.length <= 6 * n.wt
  | d, .mk t data ks => by
    have h1 := putsM_len (d + 1) ks
    have h2 := headB_len t (data ++ (putsM (d + 1) ks).1).length
    rw [putM]
    simp only [Nd.wt]
    split
    . simp
    . split
      . simp
      . split
        . simp
        . split
          . simp
          . split
            . simp
            . simp only [List.length_append] at *; omega
theorem putsM_len : ∀ (d : Int) (l : List Nd), (putsM d l).1.length <= 6 * wts l
  | _, [] => by simp [putsM]
  | d, k :: ks => by
    have h1 := putM_len d k
    have h2 := putsM_len d ks
    rw [putsM]
    simp only [wts]
    split
    . simp
    . split
      . simp
      . simp only [List.length_append]; omega
end
theorem putsM_snoc {d : Int} {k : Nd} : ∀ {l : List Nd}, (putsM d l).2 = 0 -> (putM d k).2 = 0 -> putsM d (l ++ [k]) = ((putsM d l).1 ++ (putM d k).1, 0)
  | [], _, h2 => by
    simp only [List.nil_append]
    simp [putsM, h2]
  | q :: l, h1, h2 => by
    rw [putsM] at h1
    split at h1
    . rename_i h; exact absurd h1 h
    . rename_i h
      split at h1
      . rename_i h3; exact absurd h1 h3
      . rename_i h3
        have ih := putsM_snoc (l := l) (by simpa using h3) h2
        rw [List.cons_append, putsM, if_neg h, ih, putsM, if_neg h, if_neg h3]
        simp
theorem putsM_bad {d : Int} {k : Nd} {r : List Nd} : ∀ {l : List Nd}, (putsM d l).2 = 0 -> (putM d k).2 ≠ 0 -> putsM d (l ++ k :: r) = ([], (putM d k).2)
  | [], _, h2 => by
    simp only [List.nil_append]
    rw [putsM, if_pos h2]
  | q :: l, h1, h2 => by
    rw [putsM] at h1
    split at h1
    . rename_i h; exact absurd h1 h
    . rename_i h
      split at h1
      . rename_i h3; exact absurd h1 h3
      . rename_i h3
        have ih := putsM_bad (r := r) (l := l) (by simpa using h3) h2
        rw [List.cons_append, putsM, if_neg h, ih, if_pos h2]
theorem KidsC.at_ {h : Heap} : ∀ {a : List Nd} {ra : List (List Value)} {i : Nat} {r : List Value}, KidsC h a ra -> ra[i]? = some r -> ∃ n, a[i]? = some n /\ NodeC h n r
  | [], ra, i, r, hk, hi => by simp only [KidsC] at hk; subst hk; simp at hi
  | k :: ks, ra, i, r, hk, hi => by
    simp only [KidsC] at hk
    obtain ⟨r1, rs, rfl, h1, h2⟩ := hk
    cases i with
    | zero => simp at hi; subst hi; exact ⟨k, rfl, h1⟩
    | succ i => simp at hi; obtain ⟨n, h3, h4⟩ := KidsC.at_ h2 hi; exact ⟨n, by simpa using h3, h4⟩
theorem wt_mem : ∀ {ks : List Nd} {k : Nd}, k ∈ ks -> k.wt <= wts ks
  | [], _, h => by cases h
  | q :: ks, k, h => by
    simp only [wts]
    rcases List.mem_cons.1 h with rfl | h
    . omega
    . have := wt_mem h; omega
theorem wts_append : ∀ (a b : List Nd), wts (a ++ b) = wts a + wts b
  | [], b => by simp [wts]
  | k :: a, b => by have := wts_append a b; simp only [List.cons_append, wts]; omega
theorem wts_take : ∀ (ks : List Nd) (i : Nat), wts (ks.take i) <= wts ks
  | [], i => by simp
  | k :: ks, 0 => by simp [wts]
  | k :: ks, i + 1 => by have := wts_take ks i; simp only [List.take_succ_cons, wts]; omega

set_option maxRecDepth 8000 in
theorem tlv_length (n : Nat) (hn : n <= 1048576) (h : Heap) : Spec Tryd.prog 103 [.int .i64 n] h [] (fun v _ H' => H' = [] /\ v = str (lenB n)) := by
  by_cases h1 : n < 128
  . have e : lenB n = putB n 1 := by unfold lenB; repeat (first | rw [if_pos (by omega)] | rw [if_neg (by omega)] | rw [if_pos Zp] | rw [if_neg Zp] | rw [if_neg (by simp only [*]; decide)] | rw [if_neg (show ¬ (true = false) from fun e => by cases e)])
    refine Spec.enter Tryd.func103 rfl rfl ?_; intro w0
    repeat' (first | (show G _ (.ops .seq _ (⟨some _, .call { callee := .value (.func 102), args := _, argTypes := _ }, _, _, _, none⟩ :: _) :: _) _ _ _; refine G.call callPut7 rfl rfl (octet_PutI _ (by omega) _ (by omega) _) Ze ?_; rintro _ h2 H2 ⟨rfl, rfl⟩ hle2) | (refine G.atCode ?_; first | refine G.seq ?_ | refine G.region ?_ | refine G.ret ?_ | (refine G.cond rfl ?_ ?_ <;> intro hc <;> (try simp only [tests, reduceCtorEq] at hc) <;> (try exact Zf))) | refine G.endOps ?_ | (refine G.atBin ?_; first | refine G.op rfl rfl ?_) | refine G.op rfl rfl ?_ | (refine G.atConv ?_; first | refine G.conv rfl (tyy rfl) (tyy rfl) rfl Zi ?_))
    exact G.done1 rfl rfl [] (SubH.nil _) ⟨rfl, by rw [e]; rfl⟩
  . obtain ⟨k, hk1, hk3, hkn, hlow, e⟩ : ∃ k : Nat, 1 <= k /\ k <= 3 /\ n < 256 ^ k /\ (∀ j, 1 <= j -> j < k -> 256 ^ j <= n) /\ lenB n = putB (128 + k) 1 ++ putB n k := by
      unfold lenB
      by_cases h2 : n < 256
      . exact ⟨1, by omega, by omega, by omega, fun j _ _ => by omega, by repeat (first | rw [if_pos (by omega)] | rw [if_neg (by omega)] | rw [if_pos Zp] | rw [if_neg Zp] | rw [if_neg (by simp only [*]; decide)] | rw [if_neg (show ¬ (true = false) from fun e => by cases e)])⟩
      . by_cases h3 : n < 65536
        . exact ⟨2, by omega, by omega, by omega, fun j _ _ => by obtain rfl : j = 1 := by omega
                                                                  omega, by repeat (first | rw [if_pos (by omega)] | rw [if_neg (by omega)] | rw [if_pos Zp] | rw [if_neg Zp] | rw [if_neg (by simp only [*]; decide)] | rw [if_neg (show ¬ (true = false) from fun e => by cases e)])⟩
        . refine ⟨3, by omega, by omega, by omega, fun j hj1 hj3 => ?_, by repeat (first | rw [if_pos (by omega)] | rw [if_neg (by omega)] | rw [if_pos Zp] | rw [if_neg Zp] | rw [if_neg (by simp only [*]; decide)] | rw [if_neg (show ¬ (true = false) from fun e => by cases e)])⟩
          have : j = 1 \/ j = 2 := by omega
          rcases this with rfl | rfl <;> omega
    refine Spec.enter Tryd.func103 rfl rfl ?_; intro w0
    repeat' (first | (refine G.atCode ?_; first | refine G.seq ?_ | refine G.region ?_ | refine G.block ?_ | refine G.skip ?_ | (refine G.cond rfl ?_ ?_ <;> intro hc <;> (try simp only [tests, reduceCtorEq] at hc) <;> (try exact Zf))) | refine G.endOps ?_ | (refine G.atBin ?_; first | refine G.op rfl rfl ?_) | refine G.op rfl rfl ?_)
    refine G.loop (σ := Nat) (fun j => [(3, .int .i64 j), (0, .int .i64 n)]) (fun _ => []) (fun j _ => 1 <= j /\ j <= k) (fun j => k - j) 1 ⟨rfl, rfl, trivial⟩ (SubH.nil _) ⟨by omega, hk1⟩ ?_
    rintro j h2 hle2 ⟨hj1, hjk⟩
    have hp : j = k -> (n : Int) / 2 ^ (8 * (j : Int)).toNat = 0 := fun ej => by
      rw [ej, show (8 * (k : Int)).toNat = 8 * k by omega]
      have : k = 1 \/ k = 2 \/ k = 3 := by omega
      rcases this with rfl | rfl | rfl <;> simp only [Nat.reducePow, Nat.reduceMul, Int.reducePow] at hkn ⊢ <;> omega
    have hq : j < k -> 0 < (n : Int) / 2 ^ (8 * (j : Int)).toNat := fun hjk => by
      have hl := hlow j hj1 hjk
      rw [show (8 * (j : Int)).toNat = 8 * j by omega]
      have : j = 1 \/ j = 2 := by omega
      rcases this with rfl | rfl <;> simp only [Nat.reducePow, Nat.reduceMul, Int.reducePow] at hl ⊢ <;> omega
    clear hlow
    repeat' (first | (refine G.atAdd ?_; refine G.catStr rfl rfl rfl (by simp only [List.length_append, putB_length]; omega) ?_) | (show G _ (.ops .seq _ (⟨some _, .call { callee := .value (.func 102), args := _, argTypes := _ }, _, _, _, none⟩ :: _) :: _) _ _ _; refine G.call callPut7 rfl rfl (octet_PutI _ (by omega) _ (by omega) _) Ze ?_; rintro _ h2 H2 ⟨rfl, rfl⟩ hle2) | (refine G.atCode ?_; first | refine G.seq ?_ | refine G.region ?_ | refine G.block ?_ | refine G.skip ?_ | refine G.exit rfl ?_ | refine G.ret ?_ | (refine G.cond rfl ?_ ?_ <;> intro hc <;> (try simp only [tests, reduceCtorEq] at hc) <;> (try exact Zf))) | refine G.endOps ?_ | refine G.endBlk ?_ | (refine G.atBin ?_; first | (refine G.atAdd ?_; first | refine G.arith rfl rfl rfl rfl rfl Zi ?_) | (refine G.atMul ?_; first | refine G.arith rfl rfl rfl rfl rfl Zi ?_) | (refine G.atShr ?_; refine G.shr rfl rfl Zj rfl (by simp only [IntKind.bits]; omega) rfl ?_) | refine G.op rfl rfl ?_) | refine G.op rfl rfl ?_ | (refine G.atConv ?_; first | refine G.conv rfl (tyy rfl) (tyy rfl) rfl Zi ?_))
    . have hjk2 : ¬ j = k := fun ej => by have := hp ej; omega
      exact G.again (j + 1) ⟨rfl, rfl, trivial⟩ (SubH.nil _) ⟨by omega, by omega⟩ (Heap.le_refl _) (by omega)
    . have hjk2 : j = k := by
        rcases Nat.lt_or_ge j k with h9 | h9
        . have := hq h9; omega
        . omega
      subst hjk2
      refine G.done1 rfl rfl [] (SubH.nil _) ⟨rfl, ?_⟩
      rw [e, show (128 + (j : Int)).toNat = 128 + j by omega]; rfl

set_option maxRecDepth 8000 in
set_option maxHeartbeats 2000000 in
theorem tlv_put : ∀ (n : Nat) (a : Nd), a.sz <= n -> a.wt <= 1073741824 -> ∀ (d : Int), 1 <= d -> d <= 65 -> ∀ (ra : List Value) (h : Heap), NodeC h a ra →
    Spec Tryd.prog 76 [.agg ra.toArray, .int .i64 d] h [] (fun v _ H' => H' = [] /\ v = .tuple #[str (putM d a).1, .int .i64 (putM d a).2])
  | 0, .mk t d ks, hn, _, _, _, _, _, _, _ => by simp only [Nd.sz] at hn; omega
  | n + 1, a, hn, hwt, d, hd1, hd2, ra, h, ha => by
    have ih := tlv_put n
    obtain ⟨t, data, ks, A, m, c, rows, rfl, rfl, sa, kca⟩ := ha.box
    have la := kca.len
    have ma' : m = rows.length := by obtain ⟨A', c', h1, _⟩ := sa.form; injection h1
    have hw1 : 1 + data.length + wts ks <= 1073741824 := by simpa only [Nd.wt] using hwt
    have hkl := putsM_len (d + 1) ks
    have hlr := sa.len
    subst ma'
    clear ha
    refine Spec.enter Tryd.func76 rfl rfl ?_; intro w0
    repeat' (first | (refine G.atCode ?_; refine G.stopBlk 0 ?_) | (refine G.atCode ?_; first | refine G.seq ?_ | refine G.region ?_) | refine G.endOps ?_ | refine G.op rfl rfl ?_ | (refine G.atBox ?_; refine G.box rfl rfl rfl ?_; intro _))
    rename_i g2
    refine G.go ?_
    refine G.meet (σ := Unit) (fun _ => [(2, .pointer (some ⟨g2, 0, none⟩)), (1, .int .i64 d)]) (fun _ => [.blk g2 [.int .i64 t, str data, .slice A rows.length c] 90])
      (fun _ _ => ¬ 64 < d /\ ¬ (t < 0 \/ 255 < t \/ ((t.toNat &&& 31 : Nat) : Int) = 31) /\ ¬ ((((t.toNat &&& 32 : Nat) : Int) ≠ 0 /\ data.length ≠ 0) \/ (((t.toNat &&& 32 : Nat) : Int) = 0 /\ ks.length ≠ 0))) ?_ ?_
    . repeat' (first | (refine G.atCode ?_; first | refine G.seq ?_ | refine G.region ?_ | refine G.block ?_ | refine G.skip ?_ | refine G.ret ?_ | (refine G.cond rfl ?_ ?_ <;> intro hc <;> (try simp only [tests, reduceCtorEq] at hc) <;> (try exact Zf))) | refine G.endOps ?_ | refine G.endBlk ?_ | (refine G.atGd ?_; first | refine G.guardYes rfl rfl ?_ | refine G.guardNoS rfl rfl rfl ?_ | refine G.guardU rfl rfl rfl ?_ | (refine G.guardS rfl rfl rfl ?_ ?_ <;> intro hc <;> (try simp only [tests, reduceCtorEq] at hc) <;> (try exact Zf))) | (refine G.atBin ?_; first | (refine G.atEql ?_; first | refine G.op rfl rfl ?_) | (refine G.atNeq ?_; first | refine G.op rfl rfl ?_ | refine G.neStr0 rfl rfl rfl ?_) | refine G.op rfl rfl ?_ | refine G.bit rfl rfl rfl Zj Zj rfl rfl (by simp only [lim]; omega) (by simp only [lim]; omega) ?_) | refine G.op rfl rfl ?_ | (refine G.atLen ?_; first | refine G.lenSlice rfl (tyy rfl) rfl ?_) | (refine G.atLoad ?_; first | refine G.loadOwn1 rfl (tyy rfl) rfl rfl Za rfl rfl ?_) | (refine G.atFld ?_; first | refine G.fieldAddr rfl (tyy rfl) rfl rfl ?_))
      all_goals first
        | exact G.met () ⟨rfl, rfl, trivial⟩ Zu (Heap.le_refl _) ⟨by omega, by omega, by omega⟩
        | (have e : putM d (.mk t data ks) = ([], 6) := (by rw [putM, if_pos (by omega)])
           exact G.done2 rfl rfl rfl [] (SubH.nil _) ⟨rfl, by rw [e]; rfl⟩)
        | (have e : putM d (.mk t data ks) = ([], 7) := (by rw [putM, if_neg (by omega), if_pos (by omega)])
           exact G.done2 rfl rfl rfl [] (SubH.nil _) ⟨rfl, by rw [e]; rfl⟩)
        | (have e : putM d (.mk t data ks) = ([], 4) := (by rw [putM, if_neg (by omega), if_neg (by omega), if_pos (by omega)])
           exact G.done2 rfl rfl rfl [] (SubH.nil _) ⟨rfl, by rw [e]; rfl⟩)
    . rintro ⟨⟩ h1 hle1 ⟨c1, c2, c3⟩
      have sa1 := sa.mono hle1
      have kca1 := kca.mono' hle1
      clear sa kca
      have e0 : putM d (.mk t data ks) = if (putsM (d + 1) ks).2 ≠ 0 then ([], (putsM (d + 1) ks).2) else
        if 1048576 < (data ++ (putsM (d + 1) ks).1).length then ([], 5) else (headB t (data ++ (putsM (d + 1) ks).1).length ++ (data ++ (putsM (d + 1) ks).1), 0) := by rw [putM, if_neg c1, if_neg c2, if_neg c3]
      have ht : 0 <= t /\ t <= 255 := by omega
      clear c2 c3
      repeat' (first | (refine G.atCode ?_; refine G.stopLoop ?_) | (refine G.atCode ?_; first | refine G.seq ?_ | refine G.region ?_ | refine G.block ?_) | refine G.endOps ?_ | refine G.op rfl rfl ?_ | (refine G.atLen ?_; first | refine G.lenSlice rfl (tyy rfl) rfl ?_) | (refine G.atLoad ?_; first | refine G.loadOwn1 rfl (tyy rfl) rfl rfl Za rfl rfl ?_) | (refine G.atFld ?_; first | refine G.fieldAddr rfl (tyy rfl) rfl rfl ?_) | (refine G.atConv ?_; first | (refine G.convBytes rfl (tyy rfl) (tyy rfl) (tyy rfl) rfl Zo ?_; intro _)))
      rename_i v0
      refine G.go ?_
      refine G.loop (σ := Nat × Value) (fun x => [(57, .int .i64 x.1), (56, .int .i64 rows.length), (55, .slice A rows.length c), (6, x.2), (2, .pointer (some ⟨g2, 0, none⟩)), (1, .int .i64 d)])
        (fun x => [.row x.2 5 1 (bytesR (data ++ (putsM (d + 1) (ks.take x.1)).1)), .blk g2 [.int .i64 t, str data, .slice A rows.length c] 90])
        (fun x _ => x.1 <= ks.length /\ (putsM (d + 1) (ks.take x.1)).2 = 0) (fun x => ks.length - x.1) ⟨0, v0⟩ ⟨rfl, rfl, rfl, rfl, rfl, rfl, trivial⟩ (by simp only [List.take_zero, putsM, List.append_nil]; exact Zu) ⟨Nat.zero_le _, by simp only [List.take_zero, putsM]⟩ ?_
      rintro ⟨i, v⟩ h2 hle2 ⟨hi, hok⟩
      simp only at hi hok
      have sa2 := sa1.mono hle2
      have kca2 := kca1.mono' hle2
      have hli := putsM_len (d + 1) (ks.take i)
      have hwi := wts_take ks i
      clear sa1 kca1
      refine G.norm (by (try dsimp only) <;> exact rfl) (by (try dsimp only) <;> exact rfl) ?_
      repeat' (first | (refine G.atIdx ?_; refine G.idxImmN rfl rfl (tyy rfl) (tyy rfl) Zp Zj rfl Zo ?_; intro p r hr hl hp; obtain ⟨nk, hnk, hn1⟩ := kca2.at_ hr; obtain ⟨nt, nd, nA, nm, nc, rfl⟩ := NodeC.shape hn1) | (refine G.atCode ?_; first | refine G.seq ?_ | refine G.region ?_ | refine G.block ?_ | refine G.skip ?_ | refine G.anyIn mixedOk ?_ | refine G.exit rfl ?_ | refine G.ret ?_ | (refine G.cond rfl ?_ ?_ <;> intro hc <;> (try simp only [tests, reduceCtorEq] at hc) <;> (try exact Zf))) | refine G.endOps ?_ | refine G.endHeld ?_ | refine G.back ?_ | (refine G.atAny ?_; first | refine G.anyAutoX slB rfl rfl Zw Zg Zd ?_ | refine G.anyOne rfl Zw Zg Zu ?_) | (refine G.atBin ?_; first | (refine G.atAdd ?_; first | refine G.arith rfl rfl rfl rfl rfl Zi ?_) | refine G.op rfl rfl ?_) | refine G.op rfl rfl ?_ | (refine G.atLen ?_; first | refine G.lenRowB rfl (tyy rfl) Za rfl ?_) | (refine G.atLoad ?_; first | refine G.loadOwn1 rfl (tyy rfl) rfl rfl Za rfl rfl ?_ | refine G.loadOwnA rfl (tyy rfl) rfl rfl Za rfl rfl ?_ | refine G.loadImmA rfl (tyy rfl) rfl rfl Zp Zp rfl ?_) | (refine G.atFld ?_; first | refine G.fieldAddr rfl (tyy rfl) rfl rfl ?_) | (refine G.atSto ?_; refine G.storeOwn rfl rfl (tyy rfl) Za rfl rfl rfl rfl ?_) | (refine G.atAlc ?_; refine G.alloc (tyy rfl) rfl rfl ?_; intro _) | (refine G.atConv ?_; first | refine G.conv rfl (tyy rfl) (tyy rfl) rfl Zi ?_ | refine G.convStr rfl (tyy rfl) (tyy rfl) (tyy rfl) Za rfl ?_))
      . have hik : i < ks.length := by omega
        have hnk2 : nk = ks[i] := by rw [List.getElem?_eq_getElem hik] at hnk; injection hnk with e; exact e.symm
        subst hnk2
        have hks : ks = ks.take i ++ ks[i] :: ks.drop (i + 1) := by rw [<- List.drop_eq_getElem_cons hik, List.take_append_drop]
        have hsz := sz_kid (t := t) (d := data) hnk
        have hw3 := wt_mem (List.getElem_mem hik)
        have hpl := putM_len (d + 1) ks[i]
        have hts : wts (ks.take i) + ks[i].wt <= wts ks := by
          have := wts_take ks (i + 1)
          rw [List.take_succ_eq_append_getElem hik, wts_append] at this
          simpa only [wts, Nat.add_zero] using this
        repeat' (first | (show G _ (.ops .seq _ (⟨some _, .call { callee := .value (.func 76), args := _, argTypes := _ }, _, _, _, none⟩ :: _) :: _) _ _ _; refine G.call callTPut rfl rfl (ih _ (by omega) (by omega) _ (by omega) (by omega) _ _ hn1) Ze ?_; rintro _ h3 H3 ⟨rfl, rfl⟩ hle3) | (refine G.atCode ?_; first | refine G.seq ?_ | refine G.region ?_ | refine G.skip ?_ | refine G.ret ?_ | (refine G.cond rfl ?_ ?_ <;> intro hc <;> (try simp only [tests, reduceCtorEq] at hc) <;> (try exact Zf))) | refine G.endOps ?_ | refine G.endBlk ?_ | (refine G.atBin ?_; first | (refine G.atAdd ?_; first | refine G.arith rfl rfl rfl rfl rfl Zi ?_) | (refine G.atNeq ?_; first | refine G.op rfl rfl ?_)) | refine G.op rfl rfl ?_ | (refine G.atApp ?_; first | (refine G.appendStr rfl rfl (tyy rfl) (tyy rfl) (tyy rfl) rfl rfl Za rfl Zo ?_; intro _)))
        . have hbad := putsM_bad (r := ks.drop (i + 1)) hok (by assumption : ¬ (putM (d + 1) ks[i]).2 = 0)
          rw [<- hks] at hbad
          rw [hbad] at e0
          refine G.done2 rfl rfl rfl [] (SubH.nil _) ⟨rfl, ?_⟩
          rw [e0, if_pos Zp]; rfl
        . have hsn := putsM_snoc hok (by assumption : (putM (d + 1) ks[i]).2 = 0)
          have htk : ks.take (i + 1) = ks.take i ++ [ks[i]] := List.take_succ_eq_append_getElem hik
          refine G.again ⟨i + 1, _⟩ ⟨sint (by simp), rfl, rfl, rfl, rfl, rfl, trivial⟩ (by simp only [htk, hsn]; rw [<- List.append_assoc]; exact Zu) ⟨by simp only; omega, by simp only [htk, hsn]⟩ hle3 (by simp only; omega)
      all_goals
        have hik : ks.take i = ks := List.take_of_length_le (by omega)
        rw [hik] at hok
        simp only [hik] at *
      . rw [if_neg (by simpa using hok), if_pos (by omega)] at e0
        exact G.done2 rfl rfl rfl [] (SubH.nil _) ⟨rfl, by rw [e0]; rfl⟩
      . rw [if_neg (by simpa using hok), if_neg (by omega)] at e0
        generalize hxx : data ++ (putsM (d + 1) ks).1 = xx at *
        repeat' (first | (refine G.atAdd ?_; refine G.catStr rfl rfl rfl (by have := lenB_len xx.length; simp only [List.length_append, putB_length]; omega) ?_) | (show G _ (.ops .seq _ (⟨some _, .call { callee := .value (.func 102), args := _, argTypes := _ }, _, _, _, none⟩ :: _) :: _) _ _ _; refine G.call callPut7 rfl rfl (octet_PutI _ (by omega) _ (by omega) _) Ze ?_; rintro _ h3 H3 ⟨rfl, rfl⟩ hle3) | (show G _ (.ops .seq _ (⟨some _, .call { callee := .value (.func 103), args := _, argTypes := _ }, _, _, _, none⟩ :: _) :: _) _ _ _; refine G.call callLength rfl rfl (tlv_length _ (by omega) _) Ze ?_; rintro _ h3 H3 ⟨rfl, rfl⟩ hle3) | (refine G.atCode ?_; first | refine G.ret ?_) | refine G.endOps ?_ | (refine G.atAny ?_; first | refine G.anyOne rfl Zw Zg Zu ?_ | refine G.anyEndX Zw ?_) | refine G.op rfl rfl ?_)
        refine G.done2 rfl rfl rfl [] (SubH.nil _) ⟨rfl, ?_⟩
        rw [e0]; rfl

theorem tlv_Put (a : Nd) (hwt : a.wt <= 1073741824) (ra : List Value) (h : Heap) (ha : NodeC h a ra) :
    Spec Tryd.prog 49 [.agg ra.toArray] h [] (fun v _ H' => H' = [] /\ v = .tuple #[str (putM 1 a).1, .int .i64 (putM 1 a).2]) := by
  obtain ⟨t, d, A, m, c, rfl⟩ := ha.shape
  refine Spec.enter Tryd.func49 rfl rfl ?_; intro w0
  repeat' (first | (show G _ (.ops .seq _ (⟨some _, .call { callee := .value (.func 76), args := _, argTypes := _ }, _, _, _, none⟩ :: _) :: _) _ _ _; refine G.call callTPut rfl rfl (tlv_put a.sz a (Nat.le_refl _) hwt 1 (by omega) (by omega) _ _ ha) Ze ?_; rintro _ h3 H3 ⟨rfl, rfl⟩ hle3) | (refine G.atCode ?_; first | refine G.seq ?_ | refine G.region ?_ | refine G.ret ?_) | refine G.endOps ?_ | refine G.op rfl rfl ?_ | (refine G.atLoad ?_; first | refine G.loadOwnA rfl (tyy rfl) rfl rfl Za rfl rfl ?_) | (refine G.atBox ?_; refine G.box rfl rfl rfl ?_; intro _))
  exact G.done2 rfl rfl rfl [] (SubH.nil _) ⟨rfl, rfl⟩
end Go.Proofs.YtibkffoeioidlaaDoor
