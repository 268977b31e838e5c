/- The plain laws of a head. -/
import Derived.Test.YtibkffoeioidlaaDoorWrE
import Derived.Test.YtibkffoeioidlaaDoorTlvD
import Derived.Test.YtibkffoeioidlaaDoorWrD
import Derived.Test.YtibkffoeioidlaaDoorWrI
import Derived.Test.YtibkffoeioidlaaDoorWrTie
namespace Go.Proofs.YtibkffoeioidlaaDoor
set_option linter.all false
set_option maxRecDepth 4000
open Go.RowKit

theorem pB1 (n : Nat) : putB n 1 = [UInt8.ofNat n] := by simp [putB]
theorem pB2 (n : Nat) : putB n 2 = [UInt8.ofNat (n / 256), UInt8.ofNat n] := by simp [putB]
theorem pB3 (n : Nat) : putB n 3 = [UInt8.ofNat (n / 65536), UInt8.ofNat (n / 256), UInt8.ofNat n] := by simp [putB]
theorem head_cases (t : Int) (n : Nat) (hn : n ≤ 1048576) :
    (n < 128 ∧ headB t n = [UInt8.ofNat t.toNat, UInt8.ofNat n]) ∨ (128 ≤ n ∧ n < 256 ∧ headB t n = [UInt8.ofNat t.toNat, 129, UInt8.ofNat n]) ∨
    (256 ≤ n ∧ n < 65536 ∧ headB t n = [UInt8.ofNat t.toNat, 130, UInt8.ofNat (n / 256), UInt8.ofNat n]) ∨ (65536 ≤ n ∧ headB t n = [UInt8.ofNat t.toNat, 131, UInt8.ofNat (n / 65536), UInt8.ofNat (n / 256), UInt8.ofNat n]) := by
  unfold headB lenB
  by_cases h1 : n < 128
  · exact .inl ⟨h1, by rw [if_pos h1, pB1, pB1]; rfl⟩
  · by_cases h2 : n < 256
    · exact .inr (.inl ⟨by omega, h2, by rw [if_neg h1, if_pos h2, pB1, pB1, pB1]; rfl⟩)
    · by_cases h3 : n < 65536
      · exact .inr (.inr (.inl ⟨by omega, h3, by rw [if_neg h1, if_neg h2, if_pos h3, pB1, pB1, pB2]; rfl⟩))
      · exact .inr (.inr (.inr ⟨by omega, by rw [if_neg h1, if_neg h2, if_neg h3, pB1, pB1, pB3]; rfl⟩))
theorem bnd_short {t u : UInt8} {x : List UInt8} (h : u.toNat < 128) : bndM (t :: u :: x) = ((u.toNat : Int), 2, 0) := by
  have hb : byteAt (t :: u :: x) 1 = u.toNat := by simp [byteAt]
  unfold bndM
  simp only [hb]
  rw [if_neg (by simp), if_pos (by omega)]
theorem bnd_long {t u : UInt8} {l x : List UInt8} (h : u.toNat = 128 + l.length) (hl : 1 ≤ l.length ∧ l.length ≤ 4) (hv : beN l ≤ 1048576) : bndM (t :: u :: (l ++ x)) = ((beN l : Int), 2 + (l.length : Int), 0) := by
  have hb : byteAt (t :: u :: (l ++ x)) 1 = u.toNat := by simp [byteAt]
  have hk : ((u.toNat : Nat) : Int) - 128 = l.length := by omega
  have hg : getOk (t :: u :: (l ++ x)) 2 l.length = true := by unfold getOk; simp; omega
  have hgv : getV (t :: u :: (l ++ x)) 2 l.length = beN l := by unfold getV; rw [hg]; simp
  unfold bndM
  simp only [hb]
  rw [if_neg (by simp), if_neg (by omega), if_neg (by omega), hk, hg, hgv, if_neg (by simp), if_neg (by omega), show ((u.toNat : Nat) : Int) - 126 = 2 + (l.length : Int) by omega]
theorem bnd_head (t : Int) (n : Nat) (hn : n ≤ 1048576) (x : List UInt8) : bndM (headB t n ++ x) = ((n : Int), ((headB t n).length : Int), 0) := by
  rcases head_cases t n hn with ⟨h, e⟩ | ⟨h1, h2, e⟩ | ⟨h1, h2, e⟩ | ⟨h1, e⟩
  · rw [e]
    have hu : (UInt8.ofNat n).toNat = n := by rw [UInt8.toNat_ofNat']; omega
    have := bnd_short (t := UInt8.ofNat t.toNat) (u := UInt8.ofNat n) (x := x) (by omega)
    rw [hu] at this
    simpa using this
  · rw [e]
    have hv : beN [UInt8.ofNat n] = n := by simp [beN]; omega
    have := bnd_long (t := UInt8.ofNat t.toNat) (u := 129) (l := [UInt8.ofNat n]) (x := x) rfl (by simp) (by omega)
    rw [hv] at this
    simpa using this
  · rw [e]
    have hv : beN [UInt8.ofNat (n / 256), UInt8.ofNat n] = n := by simp [beN]; omega
    have := bnd_long (t := UInt8.ofNat t.toNat) (u := 130) (l := [UInt8.ofNat (n / 256), UInt8.ofNat n]) (x := x) rfl (by simp) (by omega)
    rw [hv] at this
    simpa using this
  · rw [e]
    have hv : beN [UInt8.ofNat (n / 65536), UInt8.ofNat (n / 256), UInt8.ofNat n] = n := by simp [beN]; omega
    have := bnd_long (t := UInt8.ofNat t.toNat) (u := 131) (l := [UInt8.ofNat (n / 65536), UInt8.ofNat (n / 256), UInt8.ofNat n]) (x := x) rfl (by simp) (by omega)
    rw [hv] at this
    simpa using this
theorem head_byte (t : Int) (n : Nat) (ht : 0 ≤ t ∧ t ≤ 255) (x : List UInt8) : byteAt (headB t n ++ x) 0 = t.toNat := by
  unfold headB
  rw [pB1]
  simp [byteAt]; omega
theorem head_ge (t : Int) (n : Nat) : 2 ≤ (headB t n).length := by
  unfold headB lenB
  split
  · simp [putB_length]
  · split
    · simp [putB_length]
    · split <;> simp [putB_length]

theorem putM_ok {d t : Int} {data : List UInt8} {ks : List Nd} (h : (putM d (.mk t data ks)).2 = 0) :
    d ≤ 64 ∧ 0 ≤ t ∧ t ≤ 255 ∧ ¬ ((t.toNat &&& 31 : Nat) : Int) = 31 ∧ (¬ ((t.toNat &&& 32 : Nat) : Int) = 0 → data = []) ∧ (((t.toNat &&& 32 : Nat) : Int) = 0 → ks = []) ∧ (putsM (d + 1) ks).2 = 0 ∧
    (data ++ (putsM (d + 1) ks).1).length ≤ 1048576 ∧ (putM d (.mk t data ks)).1 = headB t (data ++ (putsM (d + 1) ks).1).length ++ (data ++ (putsM (d + 1) ks).1) := by
  rw [putM] at h ⊢
  split at h
  · cases h
  · rename_i c1
    rw [if_neg c1]
    split at h
    · cases h
    · rename_i c2
      rw [if_neg c2]
      split at h
      · cases h
      · rename_i c3
        rw [if_neg c3]
        split at h
        · rename_i c4; exact absurd h c4
        · rename_i c4
          rw [if_neg c4]
          split at h
          · cases h
          · rename_i c5
            rw [if_neg c5]
            refine ⟨by omega, by omega, by omega, by omega, fun hq => ?_, fun hq => ?_, by simpa using c4, by omega, rfl⟩
            · exact List.eq_nil_of_length_eq_zero (Classical.byContradiction fun hl => c3 (.inl ⟨hq, hl⟩))
            · exact List.eq_nil_of_length_eq_zero (Classical.byContradiction fun hl => c3 (.inr ⟨hq, hl⟩))
theorem putM_pos {d : Int} {a : Nd} (h : (putM d a).2 = 0) : 2 ≤ (putM d a).1.length := by
  cases a with
  | mk t data ks =>
    obtain ⟨_, _, _, _, _, _, _, _, e⟩ := putM_ok h
    have := head_ge t (data ++ (putsM (d + 1) ks).1).length
    rw [e, List.length_append]; omega
end Go.Proofs.YtibkffoeioidlaaDoor
namespace Go.Proofs.YtibkffoeioidlaaDoor
set_option linter.all false
set_option maxRecDepth 4000
open Go.RowKit

mutual
theorem put_par : ∀ (a : Nd) (f : Nat) (d : Int), (f : Int) + d = 65 → 1 ≤ d → (putM d a).2 = 0 → ∀ b : List UInt8, parM f ((putM d a).1 ++ b) = (a, b, 0)
  | .mk t data ks, f, d, hf, hd, h, b => by
    obtain ⟨h1, h2, h3, h4, h5, h6, h7, h8, h9⟩ := putM_ok h
    obtain ⟨f', rfl⟩ : ∃ f', f = f' + 1 := ⟨f - 1, by omega⟩
    rw [h9]
    generalize hin : data ++ (putsM (d + 1) ks).1 = inn at *
    have hge := head_ge t inn.length
    have hbt := head_byte t inn.length ⟨h2, h3⟩ (inn ++ b)
    have hbn := bnd_head t inn.length h8 (inn ++ b)
    have hcat : headB t inn.length ++ inn ++ b = headB t inn.length ++ (inn ++ b) := by rw [List.append_assoc]
    have hti : ((t.toNat : Nat) : Int) = t := by omega
    by_cases hc : ((t.toNat &&& 32 : Nat) : Int) = 0
    · have hk := h6 hc
      subst hk
      simp only [putsM, List.append_nil] at hin
      subst hin
      rw [hcat, parM_prim (inn := data) (rest := b) (n := ((headB t data.length).length : Int)) (by rw [List.length_append]; omega) (by rw [hbt]; exact h4) (by rw [hbt]; exact hc) hbn (by rw [Int.toNat_natCast, List.take_left, List.append_assoc]) ⟨by omega, by rw [List.length_append]; omega⟩]
      rw [hbt, hti]
    · have hk := h5 hc
      subst hk
      simp only [List.nil_append] at hin
      have hkids := puts_kids ks f' (d + 1) (by omega) (by omega) h7 inn.length (by rw [hin]; exact Nat.le_refl _)
      rw [hin] at hkids
      rw [hcat, parM_cons (inn := inn) (rest := b) (n := ((headB t inn.length).length : Int)) (by rw [List.length_append]; omega) (by rw [hbt]; exact h4) (by rw [hbt]; exact hc) hbn (by rw [Int.toNat_natCast, List.take_left, List.append_assoc]) ⟨by omega, by rw [List.length_append]; omega⟩]
      rw [hkids, hbt, hti, if_neg (by simp)]
theorem puts_kids : ∀ (ks : List Nd) (f : Nat) (d : Int), (f : Int) + d = 65 → 1 ≤ d → (putsM d ks).2 = 0 → ∀ n : Nat, (putsM d ks).1.length ≤ n → kidsM (parM f) n (putsM d ks).1 = (ks, 0)
  | [], f, d, hf, hd, h, n, hn => by
    simp only [putsM]
    exact kidsM_nil rfl
  | k :: ks, f, d, hf, hd, h, n, hn => by
    rw [putsM] at h hn ⊢
    split at h
    · rename_i c; exact absurd h c
    · rename_i c
      split at h
      · rename_i c2; exact absurd h c2
      · rename_i c2
        rw [if_neg c, if_neg c2] at hn ⊢
        have hk : (putM d k).2 = 0 := by simpa using c
        have hks : (putsM d ks).2 = 0 := by simpa using c2
        have hp := put_par k f d hf hd hk (putsM d ks).1
        have hpos := putM_pos hk
        simp only [List.length_append] at hn
        obtain ⟨m, rfl⟩ : ∃ m, n = m + 1 := ⟨n - 1, by omega⟩
        have hr := puts_kids ks f d hf hd hks m (by omega)
        rw [kidsM_ok1 (by rw [List.length_append]; omega) (by rw [hp]), hp]
        simp only [hr]
        simp
end

theorem par_put {a : Nd} (h : (putM 1 a).2 = 0) (b : List UInt8) : par ((putM 1 a).1 ++ b) = (a, b, 0) := by rw [par_eq]; exact put_par a 64 1 (by omega) (by omega) h b
end Go.Proofs.YtibkffoeioidlaaDoor
namespace Go.Proofs.YtibkffoeioidlaaDoor
set_option linter.all false
set_option maxRecDepth 4000
open Go.RowKit

theorem lkR_mem : ∀ (l : List (Int × Int)) (t : Int) (a : Option Int) (op : Int), lkR l t a = some op → a = some op ∨ (op, t) ∈ l
  | [], t, a, op, h => .inl h
  | p :: l, t, a, op, h => by
    rw [lkR] at h
    rcases lkR_mem l t _ op h with q | q
    · split at q
      · rename_i hc
        injection q with q
        exact .inr (List.mem_cons.2 (.inl (by rw [← q, ← hc])))
      · exact .inl q
    · exact .inr (List.mem_cons_of_mem _ q)
theorem opOf_tag {t op : Int} (h : opOf t = some op) : tagM op = t ∧ tagM op ≠ 0 := by
  rcases lkR_mem _ _ _ _ h with q | q
  · cases q
  · have : ∀ p ∈ formsL, tagM p.1 = p.2 ∧ tagM p.1 ≠ 0 := by decide
    exact this (op, t) q
structure RdOk (id op : Int) (n : Nd) (m : Ms) : Prop where
  hid : m.id = id
  hop : m.op = op
  hctls : m.ctls = []
  hok : okM m = true
  hbare : bareM m = m
  hfl : op = 3 → WfN (flN m.fl) 62
theorem who_put {a : Nd} (h : (putM 1 a).2 = 0) : who (putM 1 a).1 = (a, 0) := by
  have e := par_put h []
  rw [List.append_nil] at e
  unfold who
  rw [e]
  simp
theorem write_ok {m : Ms} (h : (writeM m).2 = 0) : inM m.id 0 2147483647 = true ∧ tagM m.op ≠ 0 ∧ okM m = true ∧ (putM 1 (nodeM m)).2 = 0 ∧ (writeM m).1 = (putM 1 (nodeM m)).1 := by
  unfold writeM at h ⊢
  split at h
  · cases h
  rename_i h1
  rw [if_neg h1]
  split at h
  · cases h
  rename_i h2
  rw [if_neg h2]
  split at h
  · cases h
  rename_i h3
  rw [if_neg h3]
  exact ⟨by simpa using h1, h2, by simpa using h3, h, rfl⟩
theorem write_read {m : Ms} (h : (writeM m).2 = 0) : readM (writeM m).1 = .ok (bareM m) := by
  obtain ⟨h1, h2, h3, h4, h5⟩ := write_ok h
  rw [h5]
  unfold readM
  rw [who_put h4]
  rw [if_pos rfl]
  exact rd_node h1 h2 h3
end Go.Proofs.YtibkffoeioidlaaDoor
namespace Go.Proofs.YtibkffoeioidlaaDoor
set_option linter.all false
set_option maxRecDepth 4000
open Go.RowKit

def lfC (t : Int) (d : Bs) : List Value := [.int .i64 t, str d, .slice none 0 0]
theorem lf_C (h : Heap) (t : Int) (d : Bs) : NodeC h (lfN t d) (lfC t d) := NodeC.mk_ (HSl.nil h 3) (by simp only [KidsC])
def txtsC (l : List Bs) : List (List Value) := l.map (lfC 4)
theorem txtsC_len (l : List Bs) : (txtsC l).length = l.length := by simp [txtsC]
theorem txts_C (h : Heap) : ∀ l : List Bs, KidsC h (txtsN l) (txtsC l)
  | [] => by simp [txtsN, txtsC, KidsC]
  | a :: l => by
    have ih := txts_C h l
    unfold txtsN txtsC at *
    simp only [List.map_cons, KidsC]
    exact ⟨_, _, rfl, lf_C h 4 a, ih⟩
end Go.Proofs.YtibkffoeioidlaaDoor
namespace Go.Proofs.YtibkffoeioidlaaDoor
set_option linter.all false
set_option maxRecDepth 4000
open Go.RowKit

def AsR (gc W : Nat) (o : Option Nat) (nd : Nd) (u : Value) (h' : Heap) (H' : List Chunk) : Prop := ∃ (t : Int) (d : Bs) (A : Option Addr) (m c n' : Nat) (b : Bool) (nd' : Nd),
  u = .tuple #[.agg #[.int .i64 t, str d, .slice A m c], .bool b] ∧ H' = [.blk gc [.int .i64 n'] 3] ∧ nd'.wt ≤ 4 * W + 10 ∧ NodeC h' nd' [.int .i64 t, str d, .slice A m c] ∧ ((b = true ∧ o = some n' ∧ nd' = nd) ∨ (b = false ∧ o = none))
theorem AsR.no {gc W : Nat} {o : Option Nat} {nd : Nd} {h' : Heap} {n' : Nat} (ho : o = none) : AsR gc W o nd (.tuple #[.agg #[.int .i64 0, str [], .slice none 0 0], .bool false]) h' [.blk gc [.int .i64 n'] 3] :=
  ⟨0, [], none, 0, 0, n', false, zN, rfl, rfl, by simp only [zN, Nd.wt, wts, List.length_nil]; omega, zN_C _, .inr ⟨rfl, ho⟩⟩
theorem AsR.ok {gc W : Nat} {o : Option Nat} {nd : Nd} {h' : Heap} {t : Int} {d : Bs} {A : Option Addr} {m c n' : Nat} (ho : o = some n') (hw : nd.wt ≤ 4 * W + 10) (hn : NodeC h' nd [.int .i64 t, str d, .slice A m c]) : AsR gc W o nd (.tuple #[.agg #[.int .i64 t, str d, .slice A m c], .bool true]) h' [.blk gc [.int .i64 n'] 3] :=
  ⟨t, d, A, m, c, n', true, nd, rfl, rfl, hw, hn, .inl ⟨rfl, ho, rfl⟩⟩
theorem AsR.ofB {gc W : Nat} {o : Option Nat} {nd nd' : Nd} {h' : Heap} {t : Int} {d : Bs} {A : Option Addr} {m c n' : Nat} (P : Bool) (ho : o = if P = true then some n' else none) (hw : nd'.wt ≤ 4 * W + 10) (hn : NodeC h' nd' [.int .i64 t, str d, .slice A m c]) (he : P = true → nd' = nd) : AsR gc W o nd (.tuple #[.agg #[.int .i64 t, str d, .slice A m c], .bool P]) h' [.blk gc [.int .i64 n'] 3] := by
  cases P with
  | true => obtain rfl := he rfl; exact AsR.ok (by rw [ho, if_pos rfl]) hw hn
  | false => exact ⟨t, d, A, m, c, n', false, nd', rfl, rfl, hw, hn, .inr ⟨rfl, by rw [ho, if_neg Bool.false_ne_true]⟩⟩
end Go.Proofs.YtibkffoeioidlaaDoor
namespace Go.Proofs.YtibkffoeioidlaaDoor
set_option linter.all false
set_option maxRecDepth 4000
open Go.RowKit

theorem rowed3 {l : List (List Value)} (h : (l.all fun r => Nat.beq r.length 3) = true) : Rowed 3 l := fun r hr => Nat.eq_of_beq_eq_true (List.all_eq_true.1 h r hr)
def ElN (nd : Nd) (okb : Bool) (u : Value) (h' : Heap) : Prop := ∃ (t : Int) (d : Bs) (A : Option Addr) (k c : Nat), u = .tuple #[.agg #[.int .i64 t, str d, .slice A k c], .bool okb] ∧ (okb = true → NodeC h' nd [.int .i64 t, str d, .slice A k c])
theorem ElN.mk_ {nd : Nd} {okb : Bool} {h' : Heap} {t : Int} {d : Bs} {A : Option Addr} {k c : Nat} (hn : NodeC h' nd [.int .i64 t, str d, .slice A k c]) : ElN nd okb (.tuple #[.agg #[.int .i64 t, str d, .slice A k c], .bool okb]) h' := ⟨t, d, A, k, c, rfl, fun _ => hn⟩
theorem ElN.mk2 {nd : Nd} {b okb : Bool} {h' : Heap} {t : Int} {d : Bs} {A : Option Addr} {k c : Nat} (hb : b = okb) (hn : NodeC h' nd [.int .i64 t, str d, .slice A k c]) : ElN nd okb (.tuple #[.agg #[.int .i64 t, str d, .slice A k c], .bool b]) h' := by
  subst hb; exact ElN.mk_ hn
theorem KidsC.of1 {h : Heap} {n : Nd} {r : List Value} (hn : NodeC h n r) {l : List Nd} {rs : List (List Value)} (hl : KidsC h l rs) : KidsC h (n :: l) (r :: rs) := by
  simp only [KidsC]
  exact ⟨r, rs, rfl, hn, hl⟩
theorem KidsC.nil_ (h : Heap) : KidsC h [] [] := by simp only [KidsC]
end Go.Proofs.YtibkffoeioidlaaDoor
