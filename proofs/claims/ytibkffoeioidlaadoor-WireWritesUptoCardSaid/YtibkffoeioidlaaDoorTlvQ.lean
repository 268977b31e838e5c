/- tlv.parse: the walk. -/
import Derived.Test.YtibkffoeioidlaaDoorNd
import Derived.Test.YtibkffoeioidlaaDoorTlvB
namespace Go.Proofs.YtibkffoeioidlaaDoor
set_option linter.all false
set_option maxRecDepth 4000
open Go.RowKit

def kidsM (p : List UInt8 -> Nd × List UInt8 × Int) : Nat -> List UInt8 -> List Nd × Int
  | 0, _ => ([], 0)
  | n + 1, s => if s.length = 0 then ([], 0) else
    if (p s).2.2 ≠ 0 then ([], (p s).2.2) else
    if (kidsM p n (p s).2.1).2 ≠ 0 then ([], (kidsM p n (p s).2.1).2) else ((p s).1 :: (kidsM p n (p s).2.1).1, 0)
def lenE (s : List UInt8) : Int := if (bndM s).2.2 = 0 /\ (s.length : Int) - (bndM s).2.1 < (bndM s).1 then 3 else (bndM s).2.2
def innM (s : List UInt8) : List UInt8 := (s.drop (bndM s).2.1.toNat).take (((bndM s).2.1 + (bndM s).1).toNat - (bndM s).2.1.toNat)
def restM (s : List UInt8) : List UInt8 := s.drop ((bndM s).2.1 + (bndM s).1).toNat
theorem bndM_range (s : List UInt8) : 0 <= (bndM s).1 /\ (bndM s).1 <= 1048576 /\ 0 <= (bndM s).2.1 /\ (bndM s).2.1 <= 6 /\ 0 <= (bndM s).2.2 /\ (bndM s).2.2 <= 8 /\ ((bndM s).2.2 = 0 -> 2 <= (bndM s).2.1 /\ (bndM s).2.1 <= s.length) := by
  have hb := byteAt_lt s 1
  unfold bndM
  simp only
  split
  . simp
  . split
    . simp only; omega
    . split
      . simp
      . split
        . simp
        . split
          . simp
          . rename_i h1 h2 h3 h4 h5
            have : getOk s 2 (↑(byteAt s 1) - 128) = true := by simpa using h4
            unfold getOk at this
            simp only [decide_eq_true_eq] at this
            simp only
            omega
def parM : Nat -> List UInt8 -> Nd × List UInt8 × Int
  | 0, _ => (zN, [], 6)
  | f + 1, s =>
    if s.length = 0 then (zN, [], 3) else if ((byteAt s 0 &&& 31 : Nat) : Int) = 31 then (zN, [], 7) else
    if lenE s ≠ 0 then (zN, [], lenE s) else
    if ((byteAt s 0 &&& 32 : Nat) : Int) = 0 then (.mk (byteAt s 0) (innM s) [], restM s, 0) else
    if (kidsM (parM f) (innM s).length (innM s)).2 ≠ 0 then (zN, [], (kidsM (parM f) (innM s).length (innM s)).2) else (.mk (byteAt s 0) [] (kidsM (parM f) (innM s).length (innM s)).1, restM s, 0)
theorem kidsM_err {p : List UInt8 -> Nd × List UInt8 × Int} : ∀ {n : Nat} {s : List UInt8}, (kidsM p n s).2 ≠ 0 -> (kidsM p n s).1 = []
  | 0, s, h => rfl
  | n + 1, s, h => by
    simp only [kidsM] at h ⊢
    split
    . rfl
    . rename_i h0
      rw [if_neg h0] at h
      split
      . rfl
      . rename_i h1
        rw [if_neg h1] at h
        split
        . rfl
        . rename_i h2
          rw [if_neg h2] at h
          exact absurd rfl h
theorem kidsM_err1 {p : List UInt8 -> Nd × List UInt8 × Int} {n : Nat} {s : List UInt8} (h0 : ¬ s.length = 0) (h1 : ¬ (p s).2.2 = 0) : kidsM p (n + 1) s = ([], (p s).2.2) := by
  rw [kidsM, if_neg h0, if_pos h1]
theorem kidsM_ok1 {p : List UInt8 -> Nd × List UInt8 × Int} {n : Nat} {s : List UInt8} (h0 : ¬ s.length = 0) (h1 : (p s).2.2 = 0) :
    kidsM p (n + 1) s = if (kidsM p n (p s).2.1).2 ≠ 0 then ([], (kidsM p n (p s).2.1).2) else ((p s).1 :: (kidsM p n (p s).2.1).1, 0) := by
  rw [kidsM, if_neg h0, if_neg (by simpa using h1)]
theorem kidsM_nil {p : List UInt8 -> Nd × List UInt8 × Int} {n : Nat} {s : List UInt8} (h0 : s.length = 0) : kidsM p n s = ([], 0) := by
  cases n with
  | zero => rfl
  | succ n => rw [kidsM, if_pos h0]
theorem lenE_ok {s : List UInt8} (h : lenE s = 0) : 2 <= (bndM s).2.1 /\ (bndM s).2.1 + (bndM s).1 <= s.length /\ 0 <= (bndM s).1 := by
  have hr := bndM_range s
  unfold lenE at h
  split at h
  . cases h
  . rename_i hc
    have := hr.2.2.2.2.2.2 h
    omega
theorem innM_len {s : List UInt8} (h : lenE s = 0) : (innM s).length = (bndM s).1.toNat := by
  have := lenE_ok h
  unfold innM
  simp only [List.length_take, List.length_drop]
  omega
theorem parM_lt : ∀ (f : Nat) (s : List UInt8), (parM f s).2.2 = 0 -> (parM f s).2.1.length < s.length
  | 0, s, h => by simp [parM] at h
  | f + 1, s, h => by
    have key : lenE s = 0 -> ¬ s.length = 0 -> (restM s).length < s.length := fun h1 h2 => by
      have := lenE_ok h1
      unfold restM
      rw [List.length_drop]; omega
    rw [parM] at h ⊢
    split at h
    . cases h
    . rename_i h0
      rw [if_neg h0]
      split at h
      . cases h
      . rename_i h1
        rw [if_neg h1]
        split at h
        . rename_i h2; exact absurd h h2
        . rename_i h2
          have h2' : lenE s = 0 := by simpa using h2
          rw [if_neg h2]
          split at h
          . rename_i h3; rw [if_pos h3]; exact key h2' h0
          . rename_i h3
            rw [if_neg h3]
            split at h
            . rename_i h4; exact absurd h h4
            . rename_i h4; rw [if_neg h4]; exact key h2' h0
theorem KidsC.mono' {h h' : Heap} {l : List Nd} {rows : List (List Value)} (hk : KidsC h l rows) (hl : Heap.le h h') : KidsC h' l rows := KidsC.mono hl l rows hk
theorem NodeC.shape {h : Heap} : ∀ {n : Nd} {r : List Value}, NodeC h n r -> ∃ t d A m c, r = [.int .i64 t, str d, .slice A m c]
  | .mk t d ks, r, hn => by
    obtain ⟨v, rows, rfl, hs, _⟩ := NodeC.open_ hn
    obtain ⟨A, c, rfl, _⟩ := hs.form
    exact ⟨t, d, A, _, c, rfl⟩

theorem callParse : Callable Tryd.prog 105 := ⟨_, Tryd.func105, by kernel_rfl, rfl⟩

structure PSt where
  ks : List Nd
  rows : List (List Value)
  A : Option Addr
  c : Nat
  r : List UInt8
  n : Nat

set_option maxRecDepth 8000 in
set_option maxHeartbeats 2000000 in
theorem tlv_parse : ∀ (f : Nat) (s : List UInt8), s.length <= 9223372036854775807 -> ∀ (d : Int), (f : Int) = 65 - d -> 1 <= d -> ∀ h : Heap,
    Spec Tryd.prog 105 [str s, .int .i64 d] h [] (fun v h' H' => H' = [] /\ ∃ r, NodeC h' (parM f s).1 r /\ v = .tuple #[.agg r.toArray, str (parM f s).2.1, .int .i64 (parM f s).2.2])
  | 0, s, hs, d, hf, hd, h => by
    refine Spec.enter Tryd.func105 rfl rfl ?_; intro w0
    repeat' (first | (refine G.atCode ?_; first | refine G.seq ?_ | refine G.region ?_ | refine G.block ?_ | refine G.ret ?_ | (refine G.cond rfl ?_ ?_ <;> intro hc <;> (try simp only [tests, reduceCtorEq] at hc) <;> (try exact Zf))) | refine G.endOps ?_ | (refine G.atBin ?_; first | refine G.op rfl rfl ?_) | refine G.op rfl rfl ?_ | (refine G.atSto ?_; refine G.storeOwn rfl rfl (tyy rfl) Za rfl rfl rfl rfl ?_) | (refine G.atAlc ?_; refine G.alloc (tyy rfl) rfl rfl ?_; intro _) | (refine G.atBld ?_; refine G.build (tyy rfl) rfl rfl rfl ?_))
    refine G.done (rs := [.cell 4 90, .tmp 5, .tmp 6]) rfl (.cellA rfl (tyy rfl) rfl rfl Take.hd rfl (.tmp rfl (.tmp rfl .nil))) rfl [] (SubH.nil _) ⟨rfl, _, zN_C _, ?_⟩
    rfl
  | f + 1, s, hs, d, hf, hd, h => by
    have ih := tlv_parse f
    refine Spec.enter Tryd.func105 rfl rfl ?_; intro w0
    have hr := bndM_range s
    repeat' (first | (show G _ (.ops .seq _ (⟨some _, .call { callee := .value (.func 113), args := _, argTypes := _ }, _, _, _, none⟩ :: _) :: _) _ _ _; refine G.call callBounds rfl rfl (tlv_bounds _ (by omega) _) Ze ?_; rintro _ h1 H1 ⟨rfl, rfl⟩ hle) | (refine G.atCode ?_; first | refine G.seq ?_ | refine G.region ?_ | refine G.block ?_ | refine G.skip ?_ | refine G.anyIn mixedOk ?_ | refine G.ret ?_ | (refine G.cond rfl ?_ ?_ <;> intro hc <;> (try simp only [tests, reduceCtorEq] at hc) <;> (try exact Zf))) | refine G.endOps ?_ | refine G.endHeld ?_ | refine G.back ?_ | refine G.endBlk ?_ | (refine G.atAny ?_; first | refine G.anyAutoX slB rfl rfl Zw Zg Zd ?_ | refine G.anyOne rfl Zw Zg Zu ?_ | refine G.anyEndX Zw ?_) | (refine G.atGd ?_; first | refine G.guardYes rfl rfl ?_ | refine G.guardNoS rfl rfl rfl ?_ | (refine G.guardS rfl rfl rfl ?_ ?_ <;> intro hc <;> (try simp only [tests, reduceCtorEq] at hc) <;> (try exact Zf))) | (refine G.atBin ?_; first | (refine G.atAdd ?_; first | refine G.arith rfl rfl rfl rfl rfl Zi ?_) | (refine G.atSub ?_; first | refine G.arith rfl rfl rfl rfl rfl Zi ?_) | (refine G.atEql ?_; first | refine G.op rfl rfl ?_ | refine G.eqStr0 rfl rfl rfl ?_) | (refine G.atNeq ?_; first | refine G.op rfl rfl ?_) | refine G.op rfl rfl ?_ | refine G.bit rfl rfl rfl Zj Zj rfl rfl (by simp only [lim]; omega) (by simp only [lim]; omega) ?_) | refine G.op rfl rfl ?_ | (refine G.atLen ?_; first | refine G.lenStr rfl (tyy rfl) rfl ?_) | (refine G.atLoad ?_; first | refine G.loadOwnA rfl (tyy rfl) rfl rfl Za rfl rfl ?_) | (refine G.atFld ?_; first | refine G.fieldAddr rfl (tyy rfl) rfl rfl ?_) | (refine G.atSto ?_; refine G.storeOwn rfl rfl (tyy rfl) Za rfl rfl rfl rfl ?_) | (refine G.atAlc ?_; refine G.alloc (tyy rfl) rfl rfl ?_; intro _) | (refine G.atBld ?_; refine G.build (tyy rfl) rfl rfl rfl ?_) | (refine G.atInd ?_; refine G.idxStr rfl rfl (tyy rfl) rfl Zj Zo ?_; intro _) | (refine G.atConv ?_; first | refine G.conv rfl (tyy rfl) (tyy rfl) rfl Zi ?_) | (refine G.atSlc ?_; first | refine G.dropStr rfl rfl (tyy rfl) rfl Zj Zo ?_ | refine G.sliceStr rfl rfl rfl (tyy rfl) rfl Zj Zj Zo rfl ?_))
    --STOP
    . have e : parM (f + 1) s = (zN, [], 3) := by rw [parM]; repeat (first | rw [if_pos (by omega)] | rw [if_neg (by omega)] | rw [if_pos Zp] | rw [if_neg Zp] | rw [if_neg (by simp only [*]; decide)] | rw [if_neg (show ¬ (true = false) from fun e => by cases e)])
      refine G.done (rs := [.cell 4 90, .tmp 5, .tmp 6]) rfl (.cellA rfl (tyy rfl) rfl rfl Take.hd rfl (.tmp rfl (.tmp rfl .nil))) rfl [] (SubH.nil _) ?_
      rw [e]; exact ⟨rfl, _, zN_C _, rfl⟩
    . have e : parM (f + 1) s = (zN, [], 7) := by rw [parM]; repeat (first | rw [if_pos (by omega)] | rw [if_neg (by omega)] | rw [if_pos Zp] | rw [if_neg Zp] | rw [if_neg (by simp only [*]; decide)] | rw [if_neg (show ¬ (true = false) from fun e => by cases e)])
      refine G.done (rs := [.cell 4 90, .tmp 5, .tmp 6]) rfl (.cellA rfl (tyy rfl) rfl rfl Take.hd rfl (.tmp rfl (.tmp rfl .nil))) rfl [] (SubH.nil _) ?_
      rw [e]; exact ⟨rfl, _, zN_C _, rfl⟩
    . have e0 : lenE s = 3 := by unfold lenE; repeat (first | rw [if_pos (by omega)] | rw [if_neg (by omega)] | rw [if_pos Zp] | rw [if_neg Zp] | rw [if_neg (by simp only [*]; decide)] | rw [if_neg (show ¬ (true = false) from fun e => by cases e)])
      have e : parM (f + 1) s = (zN, [], 3) := by rw [parM, e0]; repeat (first | rw [if_pos (by omega)] | rw [if_neg (by omega)] | rw [if_pos Zp] | rw [if_neg Zp] | rw [if_neg (by simp only [*]; decide)] | rw [if_neg (show ¬ (true = false) from fun e => by cases e)])
      refine G.done (rs := [.cell 4 90, .tmp 5, .tmp 6]) rfl (.cellA rfl (tyy rfl) rfl rfl Take.hd rfl (.tmp rfl (.tmp rfl .nil))) rfl [] (SubH.nil _) ?_
      rw [e]; exact ⟨rfl, _, zN_C _, rfl⟩
    . have e0 : lenE s = 0 := by unfold lenE; repeat (first | rw [if_pos (by omega)] | rw [if_neg (by omega)] | rw [if_pos Zp] | rw [if_neg Zp] | rw [if_neg (by simp only [*]; decide)] | rw [if_neg (show ¬ (true = false) from fun e => by cases e)]); assumption
      have e : parM (f + 1) s = (.mk (byteAt s 0) (innM s) [], restM s, 0) := by rw [parM, e0]; repeat (first | rw [if_pos (by omega)] | rw [if_neg (by omega)] | rw [if_pos Zp] | rw [if_neg Zp] | rw [if_neg (by simp only [*]; decide)] | rw [if_neg (show ¬ (true = false) from fun e => by cases e)])
      refine G.done (rs := [.cell 4 90, .tmp 5, .tmp 6]) rfl (.cellA rfl (tyy rfl) rfl rfl Take.hd rfl (.tmp rfl (.tmp rfl .nil))) rfl [] (SubH.nil _) ?_
      rw [e]; exact ⟨rfl, _, NodeC.mk_ (HSl.nil _ 3) (by simp only [KidsC]), rfl⟩
    . have e0 : lenE s = 0 := by unfold lenE; repeat (first | rw [if_pos (by omega)] | rw [if_neg (by omega)] | rw [if_pos Zp] | rw [if_neg Zp] | rw [if_neg (by simp only [*]; decide)] | rw [if_neg (show ¬ (true = false) from fun e => by cases e)]); assumption
      have hok := lenE_ok e0
      have hil := innM_len e0
      have e : parM (f + 1) s = if (kidsM (parM f) (innM s).length (innM s)).2 ≠ 0 then (zN, [], (kidsM (parM f) (innM s).length (innM s)).2) else (.mk (byteAt s 0) [] (kidsM (parM f) (innM s).length (innM s)).1, restM s, 0) := by
        rw [parM, e0]; repeat (first | rw [if_pos (by omega)] | rw [if_neg (by omega)] | rw [if_pos Zp] | rw [if_neg Zp] | rw [if_neg (by simp only [*]; decide)] | rw [if_neg (show ¬ (true = false) from fun e => by cases e)])
      rename_i g1 _ _ _ _ _ _ _ _ g2 _
      refine G.nilRow 90 3 ?_
      refine G.loop (σ := PSt) (fun x => [(11, str x.r), (10, .pointer (some ⟨g2, 0, none⟩)), (8, .int .i64 (bndM s).2.1), (7, .int .i64 (bndM s).1), (4, .pointer (some ⟨g1, 0, none⟩)), (1, .int .i64 d), (0, str s)])
        (fun x => [.blk g1 [.int .i64 0, str [], .slice none 0 0] 90, .blk g2 [.int .i64 (byteAt s 0), str [], .slice x.A x.rows.length x.c] 90, .row (.slice x.A x.rows.length x.c) 90 3 x.rows])
        (fun x h' => KidsC h' x.ks x.rows /\ x.r.length <= x.n /\ x.r.length + x.rows.length <= 1048576 /\ kidsM (parM f) (innM s).length (innM s) = if (kidsM (parM f) x.n x.r).2 ≠ 0 then ([], (kidsM (parM f) x.n x.r).2) else (x.ks ++ (kidsM (parM f) x.n x.r).1, 0))
        (fun x => x.r.length) ⟨[], [], none, 0, innM s, (innM s).length⟩ ⟨rfl, rfl, rfl, rfl, rfl, rfl, rfl, trivial⟩ Zu ⟨by simp only [KidsC], Nat.le_refl _, by simp only [List.length_nil]; omega, ?_⟩ ?_
      . by_cases hk : (kidsM (parM f) (innM s).length (innM s)).2 = 0
        . rw [if_neg (by simpa using hk), List.nil_append, ← hk]
        . rw [if_pos hk]
          have : (kidsM (parM f) (innM s).length (innM s)).1 = [] := kidsM_err hk
          rw [<- this]
      . rintro ⟨ks, rows, A, c, r, n⟩ h2 hle2 ⟨i1, i2, i3, i4⟩
        simp only at i1 i2 i3 i4
        refine G.norm (by (try dsimp only) <;> exact rfl) (by (try dsimp only) <;> exact rfl) ?_
        repeat' (first | (show G _ (.ops .seq _ (⟨some _, .call { callee := .value (.func 105), args := _, argTypes := _ }, _, _, _, none⟩ :: _) :: _) _ _ _; refine G.call callParse rfl rfl (ih _ (by omega) _ (by omega) (by omega) _) Ze ?_; rintro _ h3 H3 ⟨rfl, rr, hn, rfl⟩ hle3; obtain ⟨nt, nd, nA, nm, nc, rfl⟩ := NodeC.shape hn) | (refine G.atCode ?_; first | refine G.seq ?_ | refine G.region ?_ | refine G.block ?_ | refine G.skip ?_ | refine G.anyIn mixedOk ?_ | refine G.exit rfl ?_ | refine G.ret ?_ | (refine G.cond rfl ?_ ?_ <;> intro hc <;> (try simp only [tests, reduceCtorEq] at hc) <;> (try exact Zf))) | refine G.endOps ?_ | refine G.endHeld ?_ | refine G.back ?_ | refine G.endBlk ?_ | (refine G.atAny ?_; first | refine G.anyAutoX slB rfl rfl Zw Zg Zd ?_ | refine G.anyOne rfl Zw Zg Zu ?_ | refine G.anyEndX Zw ?_) | (refine G.atBin ?_; first | (refine G.atAdd ?_; first | refine G.arith rfl rfl rfl rfl rfl Zi ?_) | (refine G.atNeq ?_; first | refine G.op rfl rfl ?_ | refine G.neStr0 rfl rfl rfl ?_)) | refine G.op rfl rfl ?_ | (refine G.atLoad ?_; first | refine G.loadOwn1 rfl (tyy rfl) rfl rfl Za rfl rfl ?_ | refine G.loadOwnA rfl (tyy rfl) rfl rfl Za rfl rfl ?_) | (refine G.atFld ?_; first | refine G.fieldAddr rfl (tyy rfl) rfl rfl ?_) | (refine G.atSto ?_; refine G.storeOwn rfl rfl (tyy rfl) Za rfl rfl rfl rfl ?_) | (refine G.atAlc ?_; refine G.alloc (tyy rfl) rfl rfl ?_; intro _) | (refine G.atBld ?_; refine G.build (tyy rfl) rfl rfl rfl ?_) | (refine G.atBsl ?_; refine G.buildSlice (tyy rfl) (tyy rfl) rfl rfl rfl rfl ?_; intro _) | (refine G.atApp ?_; first | (refine G.append1 rfl rfl (tyy rfl) (tyy rfl) rfl rfl Za Za rfl rfl rfl Zo ?_; intro _; refine G.rowForm Take.hd ?_; rintro _ _ rfl)) | (refine G.atSlc ?_; first | refine G.dropStr rfl rfl (tyy rfl) rfl Zj Zo ?_))
        . have hp : (kidsM (parM f) n r).2 = (parM f r).2.2 /\ (kidsM (parM f) n r).2 ≠ 0 := by
            cases n with
            | zero => exfalso; omega
            | succ n => rw [kidsM_err1 Zp Zp]; exact ⟨rfl, by assumption⟩
          rw [if_pos hp.2] at i4
          have e9 : parM (f + 1) s = (zN, [], (parM f r).2.2) := by
            rw [e, i4]; simp only; rw [if_pos hp.2, hp.1]
          refine G.done (rs := [.cell 4 90, .tmp 5, .tmp 6]) rfl (.cellA rfl (tyy rfl) rfl rfl Take.hd rfl (.tmp rfl (.tmp rfl .nil))) rfl [] (SubH.nil _) ?_
          rw [e9]; exact ⟨rfl, _, zN_C _, rfl⟩
        . rename_i A' c'
          have hlt := parM_lt f r Zp
          cases n with
          | zero => exfalso; omega
          | succ n =>
            refine G.again ⟨ks ++ [(parM f r).1], rows ++ [[.int .i64 nt, str nd, .slice nA nm nc]], A', c', (parM f r).2.1, n⟩ ⟨rfl, rfl, rfl, rfl, rfl, rfl, rfl, trivial⟩ Zu
              ⟨(i1.mono' hle3).append (KidsC.one hn), by simp only; omega, by simp only [List.length_append, List.length_cons, List.length_nil]; omega, ?_⟩ hle3 hlt
            rw [i4]
            rw [kidsM_ok1 Zp Zp]
            by_cases hk : (kidsM (parM f) n (parM f r).2.1).2 = 0
            . simp [hk]
            . simp [hk]
        . have hk : kidsM (parM f) n r = ([], 0) := kidsM_nil Zp
          rw [hk] at i4
          have e9 : parM (f + 1) s = (.mk (byteAt s 0) [] ks, restM s, 0) := by
            rw [e, i4]; simp
          refine G.freezeRow Za ?_
          intro h9 hle9 hs9
          refine G.done (rs := [.cell 4 90, .tmp 5, .tmp 6]) rfl (.cellA rfl (tyy rfl) rfl rfl Take.hd rfl (.tmp rfl (.tmp rfl .nil))) rfl [] (SubH.nil _) ?_
          rw [e9]; exact ⟨rfl, _, NodeC.mk_ hs9 (i1.mono' hle9), rfl⟩
    . have h0 : lenE s = (bndM s).2.2 := by unfold lenE; repeat (first | rw [if_pos (by omega)] | rw [if_neg (by omega)] | rw [if_pos Zp] | rw [if_neg Zp] | rw [if_neg (by simp only [*]; decide)] | rw [if_neg (show ¬ (true = false) from fun e => by cases e)])
      have h8 : ¬ (bndM s).2.2 = 0 := by assumption
      have e : parM (f + 1) s = (zN, [], (bndM s).2.2) := by rw [parM, h0]; repeat (first | rw [if_pos (by omega)] | rw [if_neg (by omega)] | rw [if_pos Zp] | rw [if_neg Zp] | rw [if_neg (by simp only [*]; decide)] | rw [if_neg (show ¬ (true = false) from fun e => by cases e)])
      refine G.done (rs := [.cell 4 90, .tmp 5, .tmp 6]) rfl (.cellA rfl (tyy rfl) rfl rfl Take.hd rfl (.tmp rfl (.tmp rfl .nil))) rfl [] (SubH.nil _) ?_
      rw [e]; exact ⟨rfl, _, zN_C _, rfl⟩
end Go.Proofs.YtibkffoeioidlaaDoor
namespace Go.Proofs.YtibkffoeioidlaaDoor
set_option linter.all false
set_option maxRecDepth 4000
open Go.RowKit

def par (s : List UInt8) : Nd × List UInt8 × Int := parM 64 s
def who (s : List UInt8) : Nd × Int := if (par s).2.2 ≠ 0 then (zN, (par s).2.2) else if (par s).2.1.length ≠ 0 then (zN, 4) else ((par s).1, 0)
theorem par_eq (s : List UInt8) : par s = parM 64 s := rfl
attribute [irreducible] par

theorem callParse1 : Callable Tryd.prog 86 := ⟨_, Tryd.func86, by kernel_rfl, rfl⟩
theorem callWhole : Callable Tryd.prog 59 := ⟨_, Tryd.func59, by kernel_rfl, rfl⟩
theorem tlv_parse1 (s : List UInt8) (hs : s.length <= 9223372036854775807) (h : Heap) :
    Spec Tryd.prog 105 [str s, .int .i64 1] h [] (fun v h' H' => H' = [] /\ ∃ r, NodeC h' (par s).1 r /\ v = .tuple #[.agg r.toArray, str (par s).2.1, .int .i64 (par s).2.2]) := by
  rw [par_eq]; exact tlv_parse 64 s hs 1 (by omega) (by omega) h

theorem tlv_Parse (s : List UInt8) (hs : s.length <= 9223372036854775807) (h : Heap) :
    Spec Tryd.prog 86 [str s] h [] (fun v h' H' => H' = [] /\ ∃ r, NodeC h' (par s).1 r /\ v = .tuple #[.agg r.toArray, str (par s).2.1, .int .i64 (par s).2.2]) := by
  refine Spec.enter Tryd.func86 rfl rfl ?_; intro w0
  repeat' (first | (show G _ (.ops .seq _ (⟨some _, .call { callee := .value (.func 105), args := _, argTypes := _ }, _, _, _, none⟩ :: _) :: _) _ _ _; refine G.call callParse rfl rfl (tlv_parse1 _ hs _) Ze ?_; rintro _ h1 H1 ⟨rfl, rr, hn, rfl⟩ hle; obtain ⟨nt, nd, nA, nm, nc, rfl⟩ := NodeC.shape hn) | (refine G.atCode ?_; first | refine G.seq ?_ | refine G.region ?_ | refine G.ret ?_) | refine G.endOps ?_ | refine G.op rfl rfl ?_ | (refine G.atSto ?_; refine G.storeOwn rfl rfl (tyy rfl) Za rfl rfl rfl rfl ?_) | (refine G.atAlc ?_; refine G.alloc (tyy rfl) rfl rfl ?_; intro _))
  exact G.done (rs := [.cell 2 90, .tmp 3, .tmp 4]) rfl (.cellA rfl (tyy rfl) rfl rfl Za rfl (.tmp rfl (.tmp rfl .nil))) rfl [] (SubH.nil _) ⟨rfl, _, hn, rfl⟩

theorem tlv_Whole (s : List UInt8) (hs : s.length <= 9223372036854775807) (h : Heap) :
    Spec Tryd.prog 59 [str s] h [] (fun v h' H' => H' = [] /\ ∃ r, NodeC h' (who s).1 r /\ v = .tuple #[.agg r.toArray, .int .i64 (who s).2]) := by
  refine Spec.enter Tryd.func59 rfl rfl ?_; intro w0
  repeat' (first | (show G _ (.ops .seq _ (⟨some _, .call { callee := .value (.func 86), args := _, argTypes := _ }, _, _, _, none⟩ :: _) :: _) _ _ _; refine G.call callParse1 rfl rfl (tlv_Parse _ hs _) Ze ?_; rintro _ h1 H1 ⟨rfl, rr, hn, rfl⟩ hle; obtain ⟨nt, nd, nA, nm, nc, rfl⟩ := NodeC.shape hn) | (refine G.atCode ?_; first | refine G.seq ?_ | refine G.region ?_ | refine G.skip ?_ | refine G.ret ?_ | (refine G.cond rfl ?_ ?_ <;> intro hc <;> (try simp only [tests, reduceCtorEq] at hc) <;> (try exact Zf))) | refine G.endOps ?_ | (refine G.atGd ?_; first | refine G.guardYes rfl rfl ?_ | refine G.guardNoS rfl rfl rfl ?_ | (refine G.guardS rfl rfl rfl ?_ ?_ <;> intro hc <;> (try simp only [tests, reduceCtorEq] at hc) <;> (try exact Zf))) | (refine G.atBin ?_; first | (refine G.atEql ?_; first | refine G.op rfl rfl ?_) | (refine G.atNeq ?_; first | refine G.op rfl rfl ?_ | refine G.neStr0 rfl rfl rfl ?_)) | refine G.op rfl rfl ?_ | (refine G.atLoad ?_; first | refine G.loadOwnA rfl (tyy rfl) rfl rfl Za rfl rfl ?_) | (refine G.atSto ?_; refine G.storeOwn rfl rfl (tyy rfl) Za rfl rfl rfl rfl ?_) | (refine G.atAlc ?_; refine G.alloc (tyy rfl) rfl rfl ?_; intro _) | (refine G.atBld ?_; refine G.build (tyy rfl) rfl rfl rfl ?_))
  . have e : who s = (zN, 4) := by unfold who; repeat (first | rw [if_pos (by omega)] | rw [if_neg (by omega)] | rw [if_pos Zp] | rw [if_neg Zp] | rw [if_neg (by simp only [*]; decide)] | rw [if_neg (show ¬ (true = false) from fun e => by cases e)])
    refine G.done (rs := [.cell 2 90, .tmp 3]) rfl (.cellA rfl (tyy rfl) rfl rfl Za rfl (.tmp rfl .nil)) rfl [] (SubH.nil _) ?_
    rw [e]; exact ⟨rfl, _, zN_C _, rfl⟩
  . have e : who s = ((par s).1, 0) := by unfold who; repeat (first | rw [if_pos (by omega)] | rw [if_neg (by omega)] | rw [if_pos Zp] | rw [if_neg Zp] | rw [if_neg (by simp only [*]; decide)] | rw [if_neg (show ¬ (true = false) from fun e => by cases e)])
    refine G.done (rs := [.cell 2 90, .tmp 3]) rfl (.cellA rfl (tyy rfl) rfl rfl Za rfl (.tmp rfl .nil)) rfl [] (SubH.nil _) ?_
    rw [e]; exact ⟨rfl, _, hn, rfl⟩
  all_goals
    have e : who s = (zN, (par s).2.2) := by unfold who; repeat (first | rw [if_pos (by omega)] | rw [if_neg (by omega)] | rw [if_pos Zp] | rw [if_neg Zp] | rw [if_neg (by simp only [*]; decide)] | rw [if_neg (show ¬ (true = false) from fun e => by cases e)])
    refine G.done (rs := [.cell 2 90, .tmp 3]) rfl (.cellA rfl (tyy rfl) rfl rfl Za rfl (.tmp rfl .nil)) rfl [] (SubH.nil _) ?_
    rw [e]; exact ⟨rfl, _, zN_C _, rfl⟩

theorem NodeC.box {h : Heap} {n : Nd} {r : List Value} (hn : NodeC h n r) : ∃ t d ks A m c rows, n = .mk t d ks /\ r = [.int .i64 t, str d, .slice A m c] /\ HSl h (.slice A m c) 3 rows /\ KidsC h ks rows := by
  cases n with
  | mk t d ks =>
    obtain ⟨v, rows, rfl, hs, hk⟩ := NodeC.open_ hn
    obtain ⟨A, c, rfl, _⟩ := hs.form
    exact ⟨t, d, ks, A, _, c, rows, rfl, rfl, hs, hk⟩

mutual
def Nd.sz : Nd -> Nat
  | .mk _ _ ks => 1 + szs ks
def szs : List Nd -> Nat
  | [] => 0
  | k :: ks => Nd.sz k + szs ks
end
theorem sz_mem : ∀ {ks : List Nd} {k : Nd}, k ∈ ks -> k.sz <= szs ks
  | [], _, h => by cases h
  | q :: ks, k, h => by
    simp only [szs]
    rcases List.mem_cons.1 h with rfl | h
    . omega
    . have := sz_mem h; omega
theorem szs_len : ∀ ks : List Nd, ks.length <= szs ks
  | [] => Nat.zero_le _
  | .mk _ _ _ :: ks => by
    have := szs_len ks
    simp only [szs, Nd.sz, List.length_cons]; omega
theorem sz_kid {t : Int} {d : List UInt8} {ks : List Nd} {i : Nat} {k : Nd} (h : ks[i]? = some k) : k.sz < (Nd.mk t d ks).sz := by
  have := sz_mem (List.mem_of_getElem? h)
  simp only [Nd.sz]; omega

def Few : Nd -> Prop := fun n => n.sz <= 1073741824

end Go.Proofs.YtibkffoeioidlaaDoor
