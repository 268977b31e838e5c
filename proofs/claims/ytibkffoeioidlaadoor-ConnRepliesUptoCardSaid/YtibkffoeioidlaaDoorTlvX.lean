/- The plain laws of a head. -/
import Derived.Test.YtibkffoeioidlaaDoorTlvS
import Derived.Test.YtibkffoeioidlaaDoorTlvD
import Derived.Test.YtibkffoeioidlaaDoorWrD
import Derived.Test.YtibkffoeioidlaaDoorWrI
namespace Go.Proofs.YtibkffoeioidlaaDoor
set_option linter.all false
set_option maxRecDepth 4000
open Go.RowKit

theorem pB1 (n : Nat) : putB n 1 = [UInt8.ofNat n] := by simp [putB]
theorem pB2 (n : Nat) : putB n 2 = [UInt8.ofNat (n / 256), UInt8.ofNat n] := by simp [putB]
theorem pB3 (n : Nat) : putB n 3 = [UInt8.ofNat (n / 65536), UInt8.ofNat (n / 256), UInt8.ofNat n] := by simp [putB]
theorem head_cases (t : Int) (n : Nat) (hn : n ≤ 1048576) :
    (n < 128 ∧ headB t n = [UInt8.ofNat t.toNat, UInt8.ofNat n]) ∨ (128 ≤ n ∧ n < 256 ∧ headB t n = [UInt8.ofNat t.toNat, 129, UInt8.ofNat n]) ∨
    (256 ≤ n ∧ n < 65536 ∧ headB t n = [UInt8.ofNat t.toNat, 130, UInt8.ofNat (n / 256), UInt8.ofNat n]) ∨ (65536 ≤ n ∧ headB t n = [UInt8.ofNat t.toNat, 131, UInt8.ofNat (n / 65536), UInt8.ofNat (n / 256), UInt8.ofNat n]) := by
  unfold headB lenB
  by_cases h1 : n < 128
  · exact .inl ⟨h1, by rw [if_pos h1, pB1, pB1]; rfl⟩
  · by_cases h2 : n < 256
    · exact .inr (.inl ⟨by omega, h2, by rw [if_neg h1, if_pos h2, pB1, pB1, pB1]; rfl⟩)
    · by_cases h3 : n < 65536
      · exact .inr (.inr (.inl ⟨by omega, h3, by rw [if_neg h1, if_neg h2, if_pos h3, pB1, pB1, pB2]; rfl⟩))
      · exact .inr (.inr (.inr ⟨by omega, by rw [if_neg h1, if_neg h2, if_neg h3, pB1, pB1, pB3]; rfl⟩))
theorem bnd_short {t u : UInt8} {x : List UInt8} (h : u.toNat < 128) : bndM (t :: u :: x) = ((u.toNat : Int), 2, 0) := by
  have hb : byteAt (t :: u :: x) 1 = u.toNat := by simp [byteAt]
  unfold bndM
  simp only [hb]
  rw [if_neg (by simp), if_pos (by omega)]
theorem bnd_long {t u : UInt8} {l x : List UInt8} (h : u.toNat = 128 + l.length) (hl : 1 ≤ l.length ∧ l.length ≤ 4) (hv : beN l ≤ 1048576) : bndM (t :: u :: (l ++ x)) = ((beN l : Int), 2 + (l.length : Int), 0) := by
  have hb : byteAt (t :: u :: (l ++ x)) 1 = u.toNat := by simp [byteAt]
  have hk : ((u.toNat : Nat) : Int) - 128 = l.length := by omega
  have hg : getOk (t :: u :: (l ++ x)) 2 l.length = true := by unfold getOk; simp; omega
  have hgv : getV (t :: u :: (l ++ x)) 2 l.length = beN l := by unfold getV; rw [hg]; simp
  unfold bndM
  simp only [hb]
  rw [if_neg (by simp), if_neg (by omega), if_neg (by omega), hk, hg, hgv, if_neg (by simp), if_neg (by omega), show ((u.toNat : Nat) : Int) - 126 = 2 + (l.length : Int) by omega]
theorem bnd_head (t : Int) (n : Nat) (hn : n ≤ 1048576) (x : List UInt8) : bndM (headB t n ++ x) = ((n : Int), ((headB t n).length : Int), 0) := by
  rcases head_cases t n hn with ⟨h, e⟩ | ⟨h1, h2, e⟩ | ⟨h1, h2, e⟩ | ⟨h1, e⟩
  · rw [e]
    have hu : (UInt8.ofNat n).toNat = n := by rw [UInt8.toNat_ofNat']; omega
    have := bnd_short (t := UInt8.ofNat t.toNat) (u := UInt8.ofNat n) (x := x) (by omega)
    rw [hu] at this
    simpa using this
  · rw [e]
    have hv : beN [UInt8.ofNat n] = n := by simp [beN]; omega
    have := bnd_long (t := UInt8.ofNat t.toNat) (u := 129) (l := [UInt8.ofNat n]) (x := x) rfl (by simp) (by omega)
    rw [hv] at this
    simpa using this
  · rw [e]
    have hv : beN [UInt8.ofNat (n / 256), UInt8.ofNat n] = n := by simp [beN]; omega
    have := bnd_long (t := UInt8.ofNat t.toNat) (u := 130) (l := [UInt8.ofNat (n / 256), UInt8.ofNat n]) (x := x) rfl (by simp) (by omega)
    rw [hv] at this
    simpa using this
  · rw [e]
    have hv : beN [UInt8.ofNat (n / 65536), UInt8.ofNat (n / 256), UInt8.ofNat n] = n := by simp [beN]; omega
    have := bnd_long (t := UInt8.ofNat t.toNat) (u := 131) (l := [UInt8.ofNat (n / 65536), UInt8.ofNat (n / 256), UInt8.ofNat n]) (x := x) rfl (by simp) (by omega)
    rw [hv] at this
    simpa using this
theorem head_byte (t : Int) (n : Nat) (ht : 0 ≤ t ∧ t ≤ 255) (x : List UInt8) : byteAt (headB t n ++ x) 0 = t.toNat := by
  unfold headB
  rw [pB1]
  simp [byteAt]; omega
theorem head_ge (t : Int) (n : Nat) : 2 ≤ (headB t n).length := by
  unfold headB lenB
  split
  · simp [putB_length]
  · split
    · simp [putB_length]
    · split <;> simp [putB_length]

theorem putM_ok {d t : Int} {data : List UInt8} {ks : List Nd} (h : (putM d (.mk t data ks)).2 = 0) :
    d ≤ 64 ∧ 0 ≤ t ∧ t ≤ 255 ∧ ¬ ((t.toNat &&& 31 : Nat) : Int) = 31 ∧ (¬ ((t.toNat &&& 32 : Nat) : Int) = 0 → data = []) ∧ (((t.toNat &&& 32 : Nat) : Int) = 0 → ks = []) ∧ (putsM (d + 1) ks).2 = 0 ∧
    (data ++ (putsM (d + 1) ks).1).length ≤ 1048576 ∧ (putM d (.mk t data ks)).1 = headB t (data ++ (putsM (d + 1) ks).1).length ++ (data ++ (putsM (d + 1) ks).1) := by
  rw [putM] at h ⊢
  split at h
  · cases h
  · rename_i c1
    rw [if_neg c1]
    split at h
    · cases h
    · rename_i c2
      rw [if_neg c2]
      split at h
      · cases h
      · rename_i c3
        rw [if_neg c3]
        split at h
        · rename_i c4; exact absurd h c4
        · rename_i c4
          rw [if_neg c4]
          split at h
          · cases h
          · rename_i c5
            rw [if_neg c5]
            refine ⟨by omega, by omega, by omega, by omega, fun hq => ?_, fun hq => ?_, by simpa using c4, by omega, rfl⟩
            · exact List.eq_nil_of_length_eq_zero (Classical.byContradiction fun hl => c3 (.inl ⟨hq, hl⟩))
            · exact List.eq_nil_of_length_eq_zero (Classical.byContradiction fun hl => c3 (.inr ⟨hq, hl⟩))
theorem putM_pos {d : Int} {a : Nd} (h : (putM d a).2 = 0) : 2 ≤ (putM d a).1.length := by
  cases a with
  | mk t data ks =>
    obtain ⟨_, _, _, _, _, _, _, _, e⟩ := putM_ok h
    have := head_ge t (data ++ (putsM (d + 1) ks).1).length
    rw [e, List.length_append]; omega
end Go.Proofs.YtibkffoeioidlaaDoor
namespace Go.Proofs.YtibkffoeioidlaaDoor
set_option linter.all false
set_option maxRecDepth 4000
open Go.RowKit

mutual
theorem put_par : ∀ (a : Nd) (f : Nat) (d : Int), (f : Int) + d = 65 → 1 ≤ d → (putM d a).2 = 0 → ∀ b : List UInt8, parM f ((putM d a).1 ++ b) = (a, b, 0)
  | .mk t data ks, f, d, hf, hd, h, b => by
    obtain ⟨h1, h2, h3, h4, h5, h6, h7, h8, h9⟩ := putM_ok h
    obtain ⟨f', rfl⟩ : ∃ f', f = f' + 1 := ⟨f - 1, by omega⟩
    rw [h9]
    generalize hin : data ++ (putsM (d + 1) ks).1 = inn at *
    have hge := head_ge t inn.length
    have hbt := head_byte t inn.length ⟨h2, h3⟩ (inn ++ b)
    have hbn := bnd_head t inn.length h8 (inn ++ b)
    have hcat : headB t inn.length ++ inn ++ b = headB t inn.length ++ (inn ++ b) := by rw [List.append_assoc]
    have hti : ((t.toNat : Nat) : Int) = t := by omega
    by_cases hc : ((t.toNat &&& 32 : Nat) : Int) = 0
    · have hk := h6 hc
      subst hk
      simp only [putsM, List.append_nil] at hin
      subst hin
      rw [hcat, parM_prim (inn := data) (rest := b) (n := ((headB t data.length).length : Int)) (by rw [List.length_append]; omega) (by rw [hbt]; exact h4) (by rw [hbt]; exact hc) hbn (by rw [Int.toNat_natCast, List.take_left, List.append_assoc]) ⟨by omega, by rw [List.length_append]; omega⟩]
      rw [hbt, hti]
    · have hk := h5 hc
      subst hk
      simp only [List.nil_append] at hin
      have hkids := puts_kids ks f' (d + 1) (by omega) (by omega) h7 inn.length (by rw [hin]; exact Nat.le_refl _)
      rw [hin] at hkids
      rw [hcat, parM_cons (inn := inn) (rest := b) (n := ((headB t inn.length).length : Int)) (by rw [List.length_append]; omega) (by rw [hbt]; exact h4) (by rw [hbt]; exact hc) hbn (by rw [Int.toNat_natCast, List.take_left, List.append_assoc]) ⟨by omega, by rw [List.length_append]; omega⟩]
      rw [hkids, hbt, hti, if_neg (by simp)]
theorem puts_kids : ∀ (ks : List Nd) (f : Nat) (d : Int), (f : Int) + d = 65 → 1 ≤ d → (putsM d ks).2 = 0 → ∀ n : Nat, (putsM d ks).1.length ≤ n → kidsM (parM f) n (putsM d ks).1 = (ks, 0)
  | [], f, d, hf, hd, h, n, hn => by
    simp only [putsM]
    exact kidsM_nil rfl
  | k :: ks, f, d, hf, hd, h, n, hn => by
    rw [putsM] at h hn ⊢
    split at h
    · rename_i c; exact absurd h c
    · rename_i c
      split at h
      · rename_i c2; exact absurd h c2
      · rename_i c2
        rw [if_neg c, if_neg c2] at hn ⊢
        have hk : (putM d k).2 = 0 := by simpa using c
        have hks : (putsM d ks).2 = 0 := by simpa using c2
        have hp := put_par k f d hf hd hk (putsM d ks).1
        have hpos := putM_pos hk
        simp only [List.length_append] at hn
        obtain ⟨m, rfl⟩ : ∃ m, n = m + 1 := ⟨n - 1, by omega⟩
        have hr := puts_kids ks f d hf hd hks m (by omega)
        rw [kidsM_ok1 (by rw [List.length_append]; omega) (by rw [hp]), hp]
        simp only [hr]
        simp
end

theorem par_put {a : Nd} (h : (putM 1 a).2 = 0) (b : List UInt8) : par ((putM 1 a).1 ++ b) = (a, b, 0) := by rw [par_eq]; exact put_par a 64 1 (by omega) (by omega) h b
end Go.Proofs.YtibkffoeioidlaaDoor
namespace Go.Proofs.YtibkffoeioidlaaDoor
set_option linter.all false
set_option maxRecDepth 4000
open Go.RowKit

theorem pcs_kind : ∀ (b : Bool) (ps : Pcs), pcsOkF b ps = true → ∀ p ∈ ps, 0 ≤ p.1 ∧ p.1 ≤ 2
  | _, [], _, p, hp => by simp at hp
  | b, (k, t) :: ps, h, p, hp => by
    rw [pcsOkF, Bool.and_eq_true, Bool.and_eq_true, decide_eq_true_eq, decide_eq_true_eq] at h
    rcases List.mem_cons.1 hp with rfl | hp
    · rcases h.1.2 with q | ⟨q, _⟩ | ⟨q, _⟩ <;> (simp only; omega)
    · exact pcs_kind false ps h.2 p hp
structure RdOk (id op : Int) (n : Nd) (m : Ms) : Prop where
  hid : m.id = id
  hop : m.op = op
  hctls : m.ctls = []
  hok : okM m = true
  hbare : bareM m = m
  hfl : op = 3 → WfN (flN m.fl) 62
theorem who_put {a : Nd} (h : (putM 1 a).2 = 0) : who (putM 1 a).1 = (a, 0) := by
  have e := par_put h []
  rw [List.append_nil] at e
  unfold who
  rw [e]
  simp
theorem write_ok {m : Ms} (h : (writeM m).2 = 0) : inM m.id 0 2147483647 = true ∧ tagM m.op ≠ 0 ∧ okM m = true ∧ (putM 1 (nodeM m)).2 = 0 ∧ (writeM m).1 = (putM 1 (nodeM m)).1 := by
  unfold writeM at h ⊢
  split at h
  · cases h
  rename_i h1
  rw [if_neg h1]
  split at h
  · cases h
  rename_i h2
  rw [if_neg h2]
  split at h
  · cases h
  rename_i h3
  rw [if_neg h3]
  exact ⟨by simpa using h1, h2, by simpa using h3, h, rfl⟩
theorem write_read {m : Ms} (h : (writeM m).2 = 0) : readM (writeM m).1 = .ok (bareM m) := by
  obtain ⟨h1, h2, h3, h4, h5⟩ := write_ok h
  rw [h5]
  unfold readM
  rw [who_put h4]
  rw [if_pos rfl]
  exact rd_node h1 h2 h3
end Go.Proofs.YtibkffoeioidlaaDoor
namespace Go.Proofs.YtibkffoeioidlaaDoor
set_option linter.all false
set_option maxRecDepth 4000
open Go.RowKit

theorem callTtwin : Callable Tryd.prog 75 := ⟨_, Tryd.func75, by kernel_rfl, rfl⟩
theorem callSeq : Callable Tryd.prog 48 := ⟨_, Tryd.func48, by kernel_rfl, rfl⟩
theorem callLeaf : Callable Tryd.prog 71 := ⟨_, Tryd.func71, by kernel_rfl, rfl⟩

theorem szs_mem {ks : List Nd} {t : Int} {d : List UInt8} {l : List Nd} {i : Nat} (h : ks[i]? = some (.mk t d l)) : szs l < szs ks := by
  have := sz_mem (List.mem_of_getElem? h)
  simp only [Nd.sz] at this; omega

set_option maxRecDepth 8000 in
set_option maxHeartbeats 1000000 in
theorem tlv_twin : ∀ (n : Nat) (ks : List Nd), szs ks < n → n ≤ 1073741824 → ∀ (v : Value) (rows : List (List Value)) (h : Heap), HSl h v 3 rows → KidsC h ks rows →
    Spec Tryd.prog 75 [v] h [] (fun v' h' H' => H' = [] ∧ ∃ (A : Option Addr) (m c : Nat) (rows' : List (List Value)), v' = .slice A m c ∧ HSl h' (.slice A m c) 3 rows' ∧ KidsC h' ks rows')
  | 0, ks, hn, _, _, _, _, _, _ => by omega
  | n + 1, ks, hn, hfew, v, rows, h, sa, ka => by
    have ih := tlv_twin n
    have la := ka.len
    have lks := szs_len ks
    refine Spec.enter Tryd.func75 rfl rfl ?_; intro w0
    repeat' (first | (refine G.atCode ?_; first | refine G.seq ?_ | refine G.region ?_ | refine G.block ?_) | refine G.endOps ?_ | refine G.op rfl rfl ?_ | (refine G.atLen ?_; first | refine G.lenImm rfl (tyy rfl) (by solve | (repeat (first | assumption | (apply HSl.mono; rotate_left; assumption)))) rfl ?_))
    refine G.nilRow 90 3 ?_
    refine G.loop (σ := Nat × List (List Value) × Option Addr × Nat) (fun x => [(8, .int .i64 x.1), (7, .int .i64 rows.length), (6, v), (3, .slice x.2.2.1 x.2.1.length x.2.2.2)])
      (fun x => [.row (.slice x.2.2.1 x.2.1.length x.2.2.2) 90 3 x.2.1])
      (fun x h' => x.1 ≤ rows.length ∧ x.2.1.length = x.1 ∧ KidsC h' (ks.take x.1) x.2.1) (fun x => rows.length - x.1) ⟨0, [], none, 0⟩ ⟨rfl, rfl, rfl, rfl, trivial⟩ (by solve | (apply Takes.sub; (repeat (first | apply Takes.nil | apply Take.hd | apply Take.tl | apply Takes.cons)))) ⟨Nat.zero_le _, rfl, by simp only [List.take_zero, KidsC]⟩ ?_
    rintro ⟨i, rws, A, c⟩ h1 hle ⟨hi, hil, hik⟩
    simp only at hi hil hik
    have sa1 := sa.mono hle
    have ka1 := ka.mono' hle
    clear sa ka
    refine G.norm (by (try dsimp only) <;> exact rfl) (by (try dsimp only) <;> exact rfl) ?_
    repeat' (first | (refine G.atIdx ?_; refine G.idxImmN rfl rfl (tyy rfl) (tyy rfl) (by assumption) (by first | (simp only [Int.reduceToNat]; rfl) | with_reducible apply Int.toNat_natCast | exact Eq.refl _) rfl (by first | omega | (simp only [lens] at *; omega)) ?_; intro p r hr hl hp; obtain ⟨nk, hnk, hn1⟩ := ka1.at_ hr; obtain ⟨t, d, l, A1, m1, c1, rows1, rfl, rfl, s1, k1⟩ := hn1.box) | (refine G.atCode ?_; first | refine G.seq ?_ | refine G.region ?_ | refine G.block ?_ | refine G.skip ?_ | refine G.anyIn mixedOk ?_ | refine G.exit rfl ?_ | refine G.ret ?_ | (refine G.cond rfl ?_ ?_ <;> intro hc <;> (try simp only [tests, reduceCtorEq] at hc) <;> (try (exfalso; first | omega | exact absurd hc (by with_reducible assumption) | exact absurd (by with_reducible assumption) hc | exact Bool.noConfusion hc | exact hc | exact hc trivial | fail)))) | refine G.endOps ?_ | refine G.endHeld ?_ | refine G.back ?_ | (refine G.atAny ?_; first | refine G.anyAutoX slB rfl rfl (by decide +kernel) (by first | apply Heap.none_le | apply Heap.le_refl | assumption | (refine Heap.le_trans ?_ (by assumption); assumption)) (by solve | (repeat (first | apply DropS.nil | (apply DropS.cons; rfl; solve | repeat (first | apply Take.hd | apply Take.tl)) | (apply DropS.rows; repeat (first | apply DropRows.nil | apply DropRows.drop | apply DropRows.keep)) | apply DropS.skip))) ?_ | refine G.anyOne rfl (by decide +kernel) (by first | apply Heap.none_le | apply Heap.le_refl | assumption | (refine Heap.le_trans ?_ (by assumption); assumption)) (by solve | (apply Takes.sub; (repeat (first | apply Takes.nil | apply Take.hd | apply Take.tl | apply Takes.cons)))) ?_) | (refine G.atBin ?_; first | refine G.op rfl rfl ?_) | refine G.op rfl rfl ?_ | (refine G.atLoad ?_; first | refine G.loadOwn1 rfl (tyy rfl) rfl rfl (by solve | (repeat (first | apply Take.hd | apply Take.tl))) rfl rfl ?_ | refine G.loadImmA rfl (tyy rfl) rfl rfl (by assumption) (by assumption) rfl ?_) | (refine G.atFld ?_; first | refine G.fieldAddr rfl (tyy rfl) rfl rfl ?_) | (refine G.atSto ?_; refine G.storeOwn rfl rfl (tyy rfl) (by solve | (repeat (first | apply Take.hd | apply Take.tl))) rfl rfl rfl rfl ?_) | (refine G.atAlc ?_; refine G.alloc (tyy rfl) rfl rfl ?_; intro _))
    · have hlt := szs_mem hnk
      (show G _ (.ops .seq _ (⟨some _, .call { callee := .value (.func 75), args := _, argTypes := _ }, _, _, _, none⟩ :: _) :: _) _ _ _; refine G.call callTtwin rfl rfl (ih l (by omega) (by omega) _ _ _ s1 k1) (by solve | (repeat (first | apply Takes.nil | apply Take.hd | apply Take.tl | apply Takes.cons))) ?_; rintro _ h2 H2 ⟨rfl, A2, m2, c2, rows2, rfl, s2, k2⟩ hle2)
      repeat' (first | (refine G.atCode ?_; first | refine G.region ?_) | refine G.endOps ?_ | refine G.endBlk ?_ | (refine G.atAny ?_; first | refine G.anyOne rfl (by decide +kernel) (by first | apply Heap.none_le | apply Heap.le_refl | assumption | (refine Heap.le_trans ?_ (by assumption); assumption)) (by solve | (apply Takes.sub; (repeat (first | apply Takes.nil | apply Take.hd | apply Take.tl | apply Takes.cons)))) ?_ | refine G.anyEndX (by decide +kernel) ?_) | (refine G.atBin ?_; first | (refine G.atAdd ?_; first | refine G.arith rfl rfl rfl rfl rfl (by simp only [inR]; omega) ?_)) | refine G.op rfl rfl ?_ | (refine G.atBld ?_; refine G.build (tyy rfl) rfl rfl rfl ?_) | (refine G.atBsl ?_; refine G.buildSlice (tyy rfl) (tyy rfl) rfl rfl rfl rfl ?_; intro _) | (refine G.atApp ?_; first | (refine G.append1 rfl rfl (tyy rfl) (tyy rfl) rfl rfl (by solve | (repeat (first | apply Take.hd | apply Take.tl))) (by solve | (repeat (first | apply Take.hd | apply Take.tl))) rfl rfl rfl (by first | omega | (simp only [lens] at *; omega)) ?_; intro _; refine G.rowForm Take.hd ?_; rintro _ _ rfl)))
      rename_i A' c'
      have hia : i < ks.length := by omega
      refine G.again ⟨i + 1, rws ++ [[.int .i64 t, str d, .slice A2 m2 c2]], A', c'⟩ ⟨sint (by simp), rfl, rfl, rfl, trivial⟩ (by solve | (apply Takes.sub; (repeat (first | apply Takes.nil | apply Take.hd | apply Take.tl | apply Takes.cons)))) ⟨by simp only; omega, by simp [hil], ?_⟩ hle2 (by simp only; omega)
      simp only
      rw [List.take_succ_eq_append_getElem hia]
      rw [List.getElem?_eq_getElem hia] at hnk
      injection hnk with hnk
      rw [hnk]
      exact (hik.mono' hle2).append (KidsC.one (NodeC.mk_ s2 k2))
    · have hkk : ks.take i = ks := List.take_of_length_le (by omega)
      rw [hkk] at hik
      refine G.freezeRow (by solve | (repeat (first | apply Take.hd | apply Take.tl))) ?_
      intro h9 hle9 hs9
      exact G.done1 rfl rfl [] (SubH.nil _) ⟨rfl, _, _, _, _, rfl, hs9, hik.mono' hle9⟩

theorem tlv_Leaf (tag : Int) (d : List UInt8) (h : Heap) :
    Spec Tryd.prog 71 [.int .i64 tag, str d] h [] (fun v h' H' => H' = [] ∧ v = .agg #[.int .i64 tag, str d, .slice none 0 0]) := by
  refine Spec.enter Tryd.func71 rfl rfl ?_; intro w0
  repeat' (first | (refine G.atCode ?_; first | refine G.seq ?_ | refine G.region ?_ | refine G.ret ?_) | refine G.endOps ?_ | refine G.op rfl rfl ?_ | (refine G.atSto ?_; refine G.storeOwn rfl rfl (tyy rfl) (by solve | (repeat (first | apply Take.hd | apply Take.tl))) rfl rfl rfl rfl ?_) | (refine G.atAlc ?_; refine G.alloc (tyy rfl) rfl rfl ?_; intro _) | (refine G.atBld ?_; refine G.build (tyy rfl) rfl rfl rfl ?_))
  exact G.done (rs := [.cell 4 90]) rfl (.cellA rfl (tyy rfl) rfl rfl (by solve | (repeat (first | apply Take.hd | apply Take.tl))) rfl .nil) rfl [] (SubH.nil _) ⟨rfl, rfl⟩

end Go.Proofs.YtibkffoeioidlaaDoor
