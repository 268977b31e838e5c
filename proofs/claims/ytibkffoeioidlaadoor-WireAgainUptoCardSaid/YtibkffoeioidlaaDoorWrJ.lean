/- Messages: what was read can be written again, and plays its part whole. -/
import Derived.Test.YtibkffoeioidlaaDoorWrD
import Derived.Test.YtibkffoeioidlaaDoorWrE
import Derived.Test.YtibkffoeioidlaaDoorWrP
namespace Go.Proofs.YtibkffoeioidlaaDoor
set_option linter.all false
set_option maxRecDepth 4000
open Go.RowKit

theorem pcs_kind : ∀ (b : Bool) (ps : Pcs), pcsOkF b ps = true -> ∀ p ∈ ps, 0 <= p.1 /\ p.1 <= 2
  | _, [], _, p, hp => by simp at hp
  | b, (k, t) :: ps, h, p, hp => by
    rw [pcsOkF, Bool.and_eq_true, Bool.and_eq_true, decide_eq_true_eq, decide_eq_true_eq] at h
    rcases List.mem_cons.1 hp with rfl | hp
    . rcases h.1.2 with q | ⟨q, _⟩ | ⟨q, _⟩ <;> (simp only; omega)
    . exact pcs_kind false ps h.2 p hp
theorem wf_eq : ∀ {n : Nd} {w : Nat}, WfN n w -> 0 < w /\ 0 <= n.tag /\ n.tag <= 255 /\ (((n.tag.toNat &&& 32 : Nat) : Int) ≠ 0 -> n.data.length = 0) /\ (((n.tag.toNat &&& 32 : Nat) : Int) = 0 -> n.kids.length = 0) /\ WfKs n.kids (w - 1)
  | .mk t d ks, w, h => by rw [WfN] at h; exact ⟨h.1, h.2.1, h.2.2.1, h.2.2.2.2.1, h.2.2.2.2.2.1, h.2.2.2.2.2.2⟩
theorem nd_eta : ∀ n : Nd, n = .mk n.tag n.data n.kids
  | .mk _ _ _ => rfl
theorem wf_lf {n : Nd} {w : Nat} (h : WfN n w) {t : Int} (ht : n.tag = t) (h0 : ((t.toNat &&& 32 : Nat) : Int) = 0) : n = lfN t n.data := by
  obtain ⟨_, _, _, _, h5, _⟩ := wf_eq h
  rw [ht] at h5
  have h6 := nd_eta n
  rw [List.length_eq_zero_iff.1 (h5 h0), ht] at h6
  exact h6
theorem wf_sq {n : Nd} {w : Nat} (h : WfN n w) {t : Int} (ht : n.tag = t) (h0 : ((t.toNat &&& 32 : Nat) : Int) ≠ 0) : n = sqN t n.kids := by
  obtain ⟨_, _, _, h5, _⟩ := wf_eq h
  rw [ht] at h5
  have h6 := nd_eta n
  rw [List.length_eq_zero_iff.1 (h5 h0), ht] at h6
  exact h6
theorem nx_some {t : Int} {s : PS} {l : List Nd} (h : nxt t s = some l) : ∃ n, s = some (n :: l) /\ n.tag = t /\ nxN t s = n := by
  match s, h with
  | some (n :: l'), h =>
    have h' : (if n.tag = t then some l' else none) = some l := h
    split at h'
    . rename_i hc
      injection h' with h'
      subst h'
      exact ⟨n, rfl, hc, by rw [nxN, if_pos hc]⟩
    . cases h'
theorem end_some {s : PS} (h : endP s = true) : s = some [] := endP_iff.1 h
mutual
theorem rdF_id : ∀ (nd : Nd) (n : Nat) (f : Fl) (m w : Nat), WfN nd w -> rdF nd n = some (f, m) -> flN f = nd /\ askM n f = some m /\ bareF f = f
  | .mk t d ks, n, f, m, w, hw, h => by
    have hwf := hw
    rw [WfN] at hw
    obtain ⟨_, _, _, _, hd, hk, hks⟩ := hw
    rw [rdF] at h
    split at h
    . cases h
    rename_i h1
    split at h
    . rename_i h2
      injection h with h; injection h with h3 h4
      subst h3; subst h4; subst h2
      obtain rfl := List.length_eq_zero_iff.1 (hk (by decide))
      refine ⟨rfl, ?_, ?_⟩
      . rw [askM, if_neg (by rintro (q | q | q | q | q) <;> omega), if_neg (by omega)]
      . rw [bareF, if_neg (by omega), if_neg (by omega)]; rfl
    rename_i h2
    split at h
    . rename_i h3
      split at h
      . cases h
      rename_i l q hq
      split at h
      . cases h
      rename_i h4
      injection h with h; injection h with h5 h6
      subst h5; subst h6
      obtain ⟨e1, e2, e3⟩ := rdFs_id ks (n + 1) l q (w - 1) hks hq
      have hd0 : d = [] := List.length_eq_zero_iff.1 (hd (by rcases h3 with rfl | rfl | rfl <;> decide))
      refine ⟨?_, ?_, ?_⟩
      . rw [flN, if_neg (by omega), if_pos (by omega), e1, show 160 + (t - 160) = t by omega, hd0]; rfl
      . rw [askM, if_neg (by rintro (q | q | q | q | q) <;> omega), if_pos (by omega), e2]
      . rw [bareF, if_neg (by omega), if_pos (by omega), e3]
    rename_i h3
    split at h
    . rename_i h4
      subst h4
      split at h
      . rename_i h5
        injection h with h; injection h with h6 h7
        subst h6; subst h7
        obtain ⟨he, hp⟩ := h5
        have he := end_some he
        obtain ⟨b, hb1, hb2, hb3⟩ := nx_some he
        obtain ⟨a, ha1, ha2, ha3⟩ := nx_some hb1
        injection ha1 with ha1
        have hd0 : d = [] := List.length_eq_zero_iff.1 (hd (by decide))
        rw [hb3] at hp ⊢
        rw [ha1] at hks
        simp only [WfKs] at hks
        obtain ⟨wa, wb, _⟩ := hks
        have ea := wf_lf wa ha2 (by decide)
        have eb := wf_sq wb hb2 (by decide)
        have htx : txV (some ks) = a.data := by unfold txV; rw [ha3]
        have hpn : pcsN (pcsR_of b.kids) = b.kids := by
          have hpk : ∀ x ∈ b.kids, 0 <= x.tag - 128 /\ x.tag - 128 <= 2 := by
            intro x hx
            unfold pcsOk at hp
            rw [Bool.and_eq_true] at hp
            exact pcs_kind _ _ hp.2 (x.tag - 128, x.data) (List.mem_map.2 ⟨x, hx, rfl⟩)
          have hbw := (wf_eq wb).2.2.2.2.2
          have key : ∀ l : List Nd, WfKs l (w - 1 - 1) -> (∀ x ∈ l, 0 <= x.tag - 128 /\ x.tag - 128 <= 2) -> pcsN (pcsR_of l) = l := by
            intro l
            induction l with
            | nil => intro _ _; rfl
            | cons x l ih =>
              intro hw hx
              rw [WfKs] at hw
              have h1 := hx x (List.mem_cons_self ..)
              have h2 : x.tag = 128 \/ x.tag = 129 \/ x.tag = 130 := by omega
              have e : x = lfN x.tag x.data := wf_lf hw.1 rfl (by rcases h2 with h2 | h2 | h2 <;> rw [h2] <;> decide)
              have ih := ih hw.2 fun y hy => hx y (List.mem_cons_of_mem _ hy)
              unfold pcsN pcsR_of at ih ⊢
              simp only [List.map_cons, ih]
              rw [show 128 + (x.tag - 128) = x.tag by omega, ← e]
          exact key _ hbw hpk
        refine ⟨?_, ?_, ?_⟩
        . rw [flN, if_neg (by omega), if_neg (by omega), if_pos rfl, hpn, htx, ha1, hd0]
          have e1 : txtN a.data = a := ea.symm
          have e2 : sqN 48 b.kids = b := eb.symm
          rw [e1, e2]; rfl
        . rw [askM, if_neg (by rintro (q | q | q | q | ⟨_, q⟩) <;> first | omega | (rw [hp] at q; cases q)), if_neg (by omega)]
        . rw [bareF, if_neg (by omega), if_neg (by omega), if_pos (.inl rfl), if_pos rfl]
      . cases h
    rename_i h4
    split at h
    . rename_i h5
      split at h
      . rename_i h6
        injection h with h; injection h with h7 h8
        subst h7; subst h8
        have he := end_some h6
        obtain ⟨b, hb1, hb2, hb3⟩ := nx_some he
        obtain ⟨a, ha1, ha2, ha3⟩ := nx_some hb1
        injection ha1 with ha1
        have hd0 : d = [] := List.length_eq_zero_iff.1 (hd (by rcases h5 with rfl | rfl | rfl | rfl <;> decide))
        rw [ha1] at hks
        simp only [WfKs] at hks
        obtain ⟨wa, wb, _⟩ := hks
        have ea := wf_lf wa ha2 (by decide)
        have eb := wf_lf wb hb2 (by decide)
        have htx : txV (some ks) = a.data := by unfold txV; rw [ha3]
        have hty : txV (nxt 4 (some ks)) = b.data := by unfold txV; rw [hb3]
        refine ⟨?_, ?_, ?_⟩
        . rw [flN, if_neg (by omega), if_neg (by omega), if_neg (by omega), htx, hty, show 160 + (t - 160) = t by omega, ha1, hd0]
          have e1 : txtN a.data = a := ea.symm
          have e2 : txtN b.data = b := eb.symm
          rw [e1, e2]; rfl
        . rw [askM, if_neg (by rintro (q | q | q | q | q) <;> omega), if_neg (by omega)]
        . rw [bareF, if_neg (by omega), if_neg (by omega), if_neg (by omega), if_neg (by omega)]
      . cases h
    . cases h
theorem rdFs_id : ∀ (l : List Nd) (n : Nat) (fs : List Fl) (m w : Nat), WfKs l w -> rdFs l n = some (fs, m) -> flsN fs = l /\ asksM n fs = some m /\ bareFs fs = fs
  | [], n, fs, m, w, hw, h => by
    rw [rdFs] at h
    injection h with h; injection h with h1 h2
    subst h1; subst h2
    exact ⟨by rw [flsN], by rw [asksM], by rw [bareFs]⟩
  | k :: ks, n, fs, m, w, hw, h => by
    rw [WfKs] at hw
    rw [rdFs] at h
    split at h
    . cases h
    rename_i f1 m1 hf1
    split at h
    . cases h
    rename_i l2 q2 hl2
    injection h with h; injection h with h1 h2
    subst h1; subst h2
    obtain ⟨a1, a2, a3⟩ := rdF_id k n f1 m1 w hw.1 hf1
    obtain ⟨b1, b2, b3⟩ := rdFs_id ks m1 l2 q2 w hw.2 hl2
    refine ⟨by rw [flsN, a1, b1], ?_, by rw [bareFs, a3, b3]⟩
    rw [asksM, a2]
    exact b2
end
theorem bd_in {s : PS} {d : Bs} {lo hi : Int} (h : bdS s d lo hi ≠ none) : inM (bdV s d lo hi) lo hi = true := by
  rw [inM_iff]
  unfold bdV
  cases hb : bdS s d lo hi with
  | none => exact absurd hb h
  | some l =>
    rw [if_pos (show (some l : PS).isSome = true from rfl)]
    unfold bdS at hb
    split at hb
    . rename_i hc; exact hc.2
    . cases hb
theorem nm_in {t lo hi : Int} {s : PS} (h : nmS t lo hi s ≠ none) : inM (nmV t lo hi s) lo hi = true := bd_in h
theorem my_data (t : Int) (s : PS) : (if myB t s = true then (nxN t s).data else []) = (nxN t s).data := by
  cases hb : myB t s with
  | true => rw [if_pos rfl]
  | false =>
    rw [if_neg Bool.false_ne_true]
    have : nxt t s = none := by
      unfold myB at hb
      cases hq : nxt t s with
      | none => rfl
      | some l => rw [hq] at hb; cases hb
    match s, this with
    | none, _ => rfl
    | some [], _ => rfl
    | some (n :: l), h =>
      have h' : (if n.tag = t then some l else none) = (none : PS) := h
      show [] = (if n.tag = t then n else zN).data
      split at h'
      . cases h'
      . rename_i hc; rw [if_neg hc]; rfl
theorem nx_ne {t : Int} {s : PS} (h : nxt t s ≠ none) : s ≠ none := fun e => h (by rw [e]; rfl)
theorem my_ne {t : Int} {s : PS} (h : myS t s ≠ none) : s ≠ none := fun e => h (by rw [e]; rfl)
theorem end_ne {s : PS} (h : endP s = true) : s ≠ none := fun e => by rw [e] at h; cases h
theorem tr_ne {s : PS} (h : trS s ≠ none) : s ≠ none := fun e => h (by rw [e]; unfold trS; split <;> rfl)
theorem nm_ne {t lo hi : Int} {s : PS} (h : nmS t lo hi s ≠ none) : s ≠ none := by
  refine nx_ne (t := t) fun e => h ?_
  unfold nmS bdS
  rw [e]
  split <;> rfl
theorem allO_mem {α : Type} {f : Nd -> Option α} : ∀ {l : List Nd} {xs : List α}, allO f l = some xs -> ∀ x ∈ xs, ∃ n ∈ l, f n = some x
  | [], xs, h, x, hx => by
    rw [allO] at h
    injection h with h
    subst h
    simp at hx
  | n :: l, xs, h, x, hx => by
    rw [allO] at h
    split at h
    . rename_i a ys h1 h2
      injection h with h
      subst h
      rcases List.mem_cons.1 hx with rfl | hx
      . exact ⟨n, List.mem_cons_self .., h1⟩
      . obtain ⟨m, hm, e⟩ := allO_mem h2 x hx
        exact ⟨m, List.mem_cons_of_mem _ hm, e⟩
    . cases h
theorem md_in {n : Nd} {x : Mdf} (h : mdO n = some x) : inM x.op 0 2 = true := by
  unfold mdO at h
  split at h
  . rename_i a h1 h2
    injection h with h
    subst h
    exact nm_in (nx_ne (t := 48) (by rw [h2]; simp))
  . cases h
theorem ct_bare {n : Nd} {c : Ctl} (h : ctO n = some c) : bareC c = c := by
  unfold ctO at h
  simp only at h
  generalize (if myB 1 (nxt 4 (wiS 48 (some [n]))) = true then trS (nxt 4 (wiS 48 (some [n]))) else nxt 4 (wiS 48 (some [n]))) = s2 at h
  generalize (if myB 1 (nxt 4 (wiS 48 (some [n]))) = true then trV (nxt 4 (wiS 48 (some [n]))) else false) = cr at h
  split at h
  . injection h with h
    subst h
    unfold bareC
    simp only
    rw [my_data]
  . cases h
theorem cts_bare {l : List Nd} {cs : List Ctl} (h : allO ctO l = some cs) : cs.map bareC = cs := by
  have h1 : ∀ c ∈ cs, bareC c = c := fun c hc => by obtain ⟨n, _, e⟩ := allO_mem h c hc; exact ct_bare e
  clear h
  induction cs with
  | nil => rfl
  | cons c cs ih => rw [List.map_cons, h1 c (List.mem_cons_self ..), ih fun d hd => h1 d (List.mem_cons_of_mem _ hd)]
theorem lkR_mem : ∀ (l : List (Int × Int)) (t : Int) (a : Option Int) (op : Int), lkR l t a = some op -> a = some op \/ (op, t) ∈ l
  | [], t, a, op, h => .inl h
  | p :: l, t, a, op, h => by
    rw [lkR] at h
    rcases lkR_mem l t _ op h with q | q
    . split at q
      . rename_i hc
        injection q with q
        exact .inr (List.mem_cons.2 (.inl (by rw [<- q, ← hc])))
      . exact .inl q
    . exact .inr (List.mem_cons_of_mem _ q)
theorem opOf_tag {t op : Int} (h : opOf t = some op) : tagM op = t /\ tagM op ≠ 0 := by
  rcases lkR_mem _ _ _ _ h with q | q
  . cases q
  . have : ∀ p ∈ formsL, tagM p.1 = p.2 /\ tagM p.1 ≠ 0 := by decide
    exact this (op, t) q
structure RdOk (id op : Int) (n : Nd) (m : Ms) : Prop where
  hid : m.id = id
  hop : m.op = op
  hctls : m.ctls = []
  hok : okM m = true
  hbare : bareM m = m
  hfl : op = 3 -> WfN (flN m.fl) 62
theorem psw_mem {s : PS} {t : Int} {l : List Nd} (h : nxt t s = some l) {w : Nat} (hs : ∀ l0, s = some l0 -> WfKs l0 w) : WfKs l w := by
  obtain ⟨n, e, _⟩ := nx_some h
  have := hs _ e
  rw [WfKs] at this
  exact this.2
theorem search_rd {id : Int} {p : PS} {m : Ms} (h : searchR { zM with id := id, op := 3 } p = some m) :
    m.id = id /\ m.op = 3 /\ m.ctls = [] /\ bareM m = { m with fl := bareF m.fl } /\ (inM m.scope 0 2 && (inM m.deref 0 3 && (inM m.size 0 2147483647 && inM m.time 0 2147483647))) = true ∧
      ∃ (k : Nd) (r l : List Nd) (q : Nat), p = some l /\ k ∈ l /\ rdF k 0 = some (m.fl, q) := by
  unfold searchR at h
  simp only at h
  split at h
  . rename_i k r hk
    split at h
    . cases h
    . rename_i f q hf
      split at h
      . rename_i l h1 h2
        split at h
        . injection h with h
          subst h
          have t5 : trS (nmS 2 0 2147483647 (nmS 2 0 2147483647 (nmS 10 0 3 (nmS 10 0 2 (nxt 4 p))))) ≠ none := by rw [hk]; simp
          have t4 := tr_ne t5
          have t3 := nm_ne t4
          have t2 := nm_ne t3
          have t1 := nm_ne t2
          refine ⟨rfl, rfl, rfl, rfl, ?_, ?_⟩
          . simp only [Bool.and_eq_true]
            exact ⟨nm_in t1, nm_in t2, nm_in t3, nm_in t4⟩
          . have bd : ∀ {s : PS} {d : Bs} {lo hi : Int} {l : List Nd}, bdS s d lo hi = some l -> s = some l := by
              intro s d lo hi l h
              unfold bdS at h
              split at h
              . exact h
              . cases h
            have h5 : nxt 1 (nmS 2 0 2147483647 (nmS 2 0 2147483647 (nmS 10 0 3 (nmS 10 0 2 (nxt 4 p))))) = some (k :: r) := by
              unfold trS at hk
              split at hk
              . exact hk
              . cases hk
            obtain ⟨n5, e5, _⟩ := nx_some h5
            obtain ⟨n4, e4, _⟩ := nx_some (bd e5)
            obtain ⟨n3, e3, _⟩ := nx_some (bd e4)
            obtain ⟨n2, e2, _⟩ := nx_some (bd e3)
            obtain ⟨n1, e1, _⟩ := nx_some (bd e2)
            obtain ⟨n0, e0, _⟩ := nx_some e1
            exact ⟨k, r, _, q, e0, by simp, hf⟩
        . cases h
      . cases h
  . cases h
theorem res_rd {id op : Int} {n : Nd} {m : Ms} (hop : op = 1 \/ op = 5 \/ op = 7 \/ op = 9 \/ op = 11 \/ op = 13 \/ op = 15) (h : opR { zM with id := id, op := op } n = some m) : RdOk id op n m := by
  have h' : (if endP (nxt 4 (nxt 4 (nmS 10 0 2147483647 (some n.kids)))) = true then some { zM with id := id, op := op, code := nmV 10 0 2147483647 (some n.kids), matched := txV (nmS 10 0 2147483647 (some n.kids)), text := txV (nxt 4 (nmS 10 0 2147483647 (some n.kids))) } else none) = some m := by
    rcases hop with rfl | rfl | rfl | rfl | rfl | rfl | rfl <;> exact h
  split at h'
  . rename_i he
    injection h' with h'
    subst h'
    have hi := nm_in (nx_ne (nx_ne (end_ne he)))
    refine ⟨rfl, rfl, rfl, ?_, ?_, fun e => by omega⟩
    . rcases hop with rfl | rfl | rfl | rfl | rfl | rfl | rfl <;> exact hi
    . rcases hop with rfl | rfl | rfl | rfl | rfl | rfl | rfl <;> rfl
  . cases h'
theorem opR_ok {id op : Int} {n : Nd} {m : Ms} (hw : WfN n 63) (ht : tagM op ≠ 0) (h : opR { zM with id := id, op := op } n = some m) : RdOk id op n m := by
  rcases op_cases ht with rfl | rfl | rfl | rfl | rfl | rfl | rfl | rfl | rfl | rfl | rfl | rfl | rfl | rfl | rfl | rfl | rfl | rfl | rfl
  . -- bind
    have h' : bindR { zM with id := id, op := 0 } (some n.kids) = some m := h
    unfold bindR at h'
    simp only at h'
    split at h'
    . split at h'
      . rename_i h1 he
        injection h' with h'
        subst h'
        have hi := nm_in (nx_ne (nx_ne (end_ne he)))
        exact ⟨rfl, rfl, rfl, hi, rfl, fun e => by cases e⟩
      . cases h'
    . split at h'
      . rename_i h1 he
        injection h' with h'
        subst h'
        have hi := nm_in (nx_ne (nx_ne (end_ne he.1)))
        have e := my_data 4 (nxt 4 (wiS 163 (nxt 4 (nmS 2 1 127 (some n.kids)))))
        refine ⟨rfl, rfl, rfl, hi, ?_, fun e => by cases e⟩
        refine Eq.trans (b := { zM with id := id, op := 0, dn := txV (nmS 2 1 127 (some n.kids)), ver := nmV 2 1 127 (some n.kids), sasl := true, mech := txV (wiS 163 (nxt 4 (nmS 2 1 127 (some n.kids)))), has := myB 4 (nxt 4 (wiS 163 (nxt 4 (nmS 2 1 127 (some n.kids))))), value := if myB 4 (nxt 4 (wiS 163 (nxt 4 (nmS 2 1 127 (some n.kids))))) = true then (nxN 4 (nxt 4 (wiS 163 (nxt 4 (nmS 2 1 127 (some n.kids)))))).data else [] }) rfl ?_
        rw [e]
      . cases h'
  . exact res_rd (by omega) h
  . -- unbind
    have h' : (if n.data = [] then some { zM with id := id, op := 2 } else none) = some m := h
    split at h'
    . injection h' with h'
      subst h'
      exact ⟨rfl, rfl, rfl, rfl, rfl, fun e => by cases e⟩
    . cases h'
  . -- search
    obtain ⟨e1, e2, e3, e4, e5, k, r, l, q, hl, hk, hr⟩ := search_rd (show searchR { zM with id := id, op := 3 } (some n.kids) = some m from h)
    injection hl with hl
    subst hl
    have hkw : WfN k 62 := ((wf_eq hw).2.2.2.2.2).mem k hk
    obtain ⟨a1, a2, a3⟩ := rdF_id k 0 m.fl q 62 hkw hr
    refine ⟨e1, e2, e3, ?_, ?_, fun _ => by rw [a1]; exact hkw⟩
    . unfold okM
      rw [e2, if_neg (by omega), if_neg (by omega), if_pos rfl, a2, e5]; rfl
    . rw [e4, a3]
  . -- entry
    have h' : (match wiS 48 (nxt 4 (some n.kids)), nxt 48 (nxt 4 (some n.kids)) with
      | some l, some [] => (match allO atO l with
        | some xs => if (4 : Int) = 4 \/ (xs.all fun a => decide (0 < a.2.length)) = true then some { zM with id := id, op := 4, dn := txV (some n.kids), attrs := xs } else none
        | none => none)
      | _, _ => none) = some m := h
    split at h'
    . split at h'
      . split at h'
        . injection h' with h'
          subst h'
          exact ⟨rfl, rfl, rfl, rfl, rfl, fun e => by cases e⟩
        . cases h'
      . cases h'
    . cases h'
  . exact res_rd (by omega) h
  . -- modify
    have h' : (match wiS 48 (nxt 4 (some n.kids)), nxt 48 (nxt 4 (some n.kids)) with
      | some l, some [] => (match allO mdO l with
        | some xs => some { zM with id := id, op := 6, dn := txV (some n.kids), mods := xs }
        | none => none)
      | _, _ => none) = some m := h
    split at h'
    . split at h'
      . rename_i xs hxs
        injection h' with h'
        subst h'
        refine ⟨rfl, rfl, rfl, ?_, rfl, fun e => by cases e⟩
        show (xs.all fun x => inM x.op 0 2) = true
        exact List.all_eq_true.2 fun x hx => by obtain ⟨_, _, e⟩ := allO_mem hxs x hx; exact md_in e
      . cases h'
    . cases h'
  . exact res_rd (by omega) h
  . -- add
    have h' : (match wiS 48 (nxt 4 (some n.kids)), nxt 48 (nxt 4 (some n.kids)) with
      | some l, some [] => (match allO atO l with
        | some xs => if (8 : Int) = 4 \/ (xs.all fun a => decide (0 < a.2.length)) = true then some { zM with id := id, op := 8, dn := txV (some n.kids), attrs := xs } else none
        | none => none)
      | _, _ => none) = some m := h
    split at h'
    . split at h'
      . split at h'
        . rename_i hc
          injection h' with h'
          subst h'
          refine ⟨rfl, rfl, rfl, ?_, rfl, fun e => by cases e⟩
          rcases hc with hc | hc
          . omega
          . exact hc
        . cases h'
      . cases h'
    . cases h'
  . exact res_rd (by omega) h
  . -- delete
    have h' : some { zM with id := id, op := 10, dn := n.data } = some m := h
    injection h' with h'
    subst h'
    exact ⟨rfl, rfl, rfl, rfl, rfl, fun e => by cases e⟩
  . exact res_rd (by omega) h
  . -- move
    have h' : (if endP (myS 128 (trS (nxt 4 (nxt 4 (some n.kids))))) = true then some { zM with id := id, op := 12, dn := txV (some n.kids), rdn := txV (nxt 4 (some n.kids)), delOld := trV (nxt 4 (nxt 4 (some n.kids))), hasSup := myB 128 (trS (nxt 4 (nxt 4 (some n.kids)))), sup := (nxN 128 (trS (nxt 4 (nxt 4 (some n.kids))))).data } else none) = some m := h
    split at h'
    . injection h' with h'
      subst h'
      have e := my_data 128 (trS (nxt 4 (nxt 4 (some n.kids))))
      refine ⟨rfl, rfl, rfl, rfl, ?_, fun e => by cases e⟩
      refine Eq.trans (b := { zM with id := id, op := 12, dn := txV (some n.kids), rdn := txV (nxt 4 (some n.kids)), delOld := trV (nxt 4 (nxt 4 (some n.kids))), hasSup := myB 128 (trS (nxt 4 (nxt 4 (some n.kids)))), sup := if myB 128 (trS (nxt 4 (nxt 4 (some n.kids)))) = true then (nxN 128 (trS (nxt 4 (nxt 4 (some n.kids))))).data else [] }) rfl ?_
      rw [e]
    . cases h'
  . exact res_rd (by omega) h
  . -- compare
    have h' : (if endP (nxt 48 (nxt 4 (some n.kids))) = true /\ endP (nxt 4 (nxt 4 (wiS 48 (nxt 4 (some n.kids))))) = true then some { zM with id := id, op := 14, dn := txV (some n.kids), attr := txV (wiS 48 (nxt 4 (some n.kids))), text := txV (nxt 4 (wiS 48 (nxt 4 (some n.kids)))) } else none) = some m := h
    split at h'
    . injection h' with h'
      subst h'
      exact ⟨rfl, rfl, rfl, rfl, rfl, fun e => by cases e⟩
    . cases h'
  . exact res_rd (by omega) h
  . -- abandon
    have h' : (if endP (bdS (some n.kids) n.data 0 2147483647) = true then some { zM with id := id, op := 16, target := bdV (some n.kids) n.data 0 2147483647 } else none) = some m := h
    split at h'
    . rename_i he
      injection h' with h'
      subst h'
      exact ⟨rfl, rfl, rfl, bd_in (end_ne he), rfl, fun e => by cases e⟩
    . cases h'
  . -- extended request
    have h' : (if endP (myS 129 (nxt 128 (some n.kids))) = true then some { zM with id := id, op := 23, oid := (nxN 128 (some n.kids)).data, has := myB 129 (nxt 128 (some n.kids)), value := (nxN 129 (nxt 128 (some n.kids))).data } else none) = some m := h
    split at h'
    . injection h' with h'
      subst h'
      have e := my_data 129 (nxt 128 (some n.kids))
      refine ⟨rfl, rfl, rfl, rfl, ?_, fun e => by cases e⟩
      refine Eq.trans (b := { zM with id := id, op := 23, oid := (nxN 128 (some n.kids)).data, has := myB 129 (nxt 128 (some n.kids)), value := if myB 129 (nxt 128 (some n.kids)) = true then (nxN 129 (nxt 128 (some n.kids))).data else [] }) rfl ?_
      rw [e]
    . cases h'
  . -- extended response
    have h' : (if endP (myS 139 (myS 138 (nxt 4 (nxt 4 (nmS 10 0 2147483647 (some n.kids)))))) = true then some { zM with id := id, op := 24, code := nmV 10 0 2147483647 (some n.kids), matched := txV (nmS 10 0 2147483647 (some n.kids)), text := txV (nxt 4 (nmS 10 0 2147483647 (some n.kids))), oid := (nxN 138 (nxt 4 (nxt 4 (nmS 10 0 2147483647 (some n.kids))))).data, has := myB 139 (myS 138 (nxt 4 (nxt 4 (nmS 10 0 2147483647 (some n.kids))))), value := (nxN 139 (myS 138 (nxt 4 (nxt 4 (nmS 10 0 2147483647 (some n.kids)))))).data } else none) = some m := h
    split at h'
    . rename_i he
      injection h' with h'
      subst h'
      have e := my_data 139 (myS 138 (nxt 4 (nxt 4 (nmS 10 0 2147483647 (some n.kids)))))
      have hi := nm_in (nx_ne (nx_ne (my_ne (my_ne (end_ne he)))))
      refine ⟨rfl, rfl, rfl, hi, ?_, fun e => by cases e⟩
      refine Eq.trans (b := { zM with id := id, op := 24, code := nmV 10 0 2147483647 (some n.kids), matched := txV (nmS 10 0 2147483647 (some n.kids)), text := txV (nxt 4 (nmS 10 0 2147483647 (some n.kids))), oid := (nxN 138 (nxt 4 (nxt 4 (nmS 10 0 2147483647 (some n.kids))))).data, has := myB 139 (myS 138 (nxt 4 (nxt 4 (nmS 10 0 2147483647 (some n.kids))))), value := if myB 139 (myS 138 (nxt 4 (nxt 4 (nmS 10 0 2147483647 (some n.kids))))) = true then (nxN 139 (myS 138 (nxt 4 (nxt 4 (nmS 10 0 2147483647 (some n.kids)))))).data else [] }) rfl ?_
      rw [e]
    . cases h'
theorem wfl {t : Int} {d : Bs} {w : Nat} (hw : 0 < w) (h : (0 <= t /\ t <= 255 /\ ((t.toNat &&& 31 : Nat) : Int) ≠ 31) /\ ((t.toNat &&& 32 : Nat) : Int) = 0) : WfN (lfN t d) w := by
  unfold lfN
  rw [WfN]
  exact ⟨hw, h.1.1, h.1.2.1, h.1.2.2, fun q => absurd h.2 q, fun _ => rfl, by rw [WfKs]; trivial⟩
theorem wfs {t : Int} {l : List Nd} {w : Nat} (hw : 0 < w) (h : (0 <= t /\ t <= 255 /\ ((t.toNat &&& 31 : Nat) : Int) ≠ 31) /\ ((t.toNat &&& 32 : Nat) : Int) ≠ 0) (hl : WfKs l (w - 1)) : WfN (sqN t l) w := by
  unfold sqN
  rw [WfN]
  exact ⟨hw, h.1.1, h.1.2.1, h.1.2.2, fun _ => rfl, fun q => absurd q h.2, hl⟩
theorem wfc {n : Nd} {l : List Nd} {w : Nat} (h : WfN n w) (hl : WfKs l w) : WfKs (n :: l) w := by rw [WfKs]; exact ⟨h, hl⟩
theorem wfn (w : Nat) : WfKs [] w := by rw [WfKs]; trivial
theorem wfa : ∀ {a b : List Nd} {w : Nat}, WfKs a w -> WfKs b w -> WfKs (a ++ b) w
  | [], b, w, _, h => h
  | n :: a, b, w, ha, hb => by
    rw [WfKs] at ha
    exact wfc ha.1 (wfa ha.2 hb)
theorem wf_txts (l : List Bs) {w : Nat} (hw : 0 < w) : WfKs (txtsN l) w := WfKs.of fun n hn => by
  obtain ⟨s, _, rfl⟩ := List.mem_map.1 hn
  exact wfl hw (by decide)
theorem wf_tx (s : Bs) {w : Nat} (hw : 0 < w) : WfN (txtN s) w := wfl hw (by decide)
theorem wf_tru (b : Bool) {w : Nat} (hw : 0 < w) : WfN (truN b) w := wfl hw (by decide)
theorem wf_attr (a : Atr) {w : Nat} (hw : 2 < w) : WfN (attrN a) w :=
  wfs (by omega) (by decide) (wfc (wf_tx _ (by omega)) (wfc (wfs (by omega) (by decide) (wf_txts _ (by omega))) (wfn _)))
theorem wf_mod (x : Mdf) {w : Nat} (hw : 3 < w) : WfN (modN x) w :=
  wfs (by omega) (by decide) (wfc (wfl (by omega) (by decide)) (wfc (wf_attr _ (by omega)) (wfn _)))
theorem wf_ctl (c : Ctl) {w : Nat} (hw : 1 < w) : WfN (ctlN c) w := by
  refine wfs (by omega) (by decide) (wfc (wf_tx _ (by omega)) (wfa ?_ ?_))
  . split
    . exact wfc (wf_tru _ (by omega)) (wfn _)
    . exact wfn _
  . split
    . exact wfc (wf_tx _ (by omega)) (wfn _)
    . exact wfn _
theorem wf_parts {m : Ms} (hf : m.op = 3 -> WfN (flN m.fl) 62) : WfKs (partsM m) 62 := by
  unfold partsM
  split
  . refine wfc (wfl (by omega) (by decide)) (wfc (wf_tx _ (by omega)) (wfc ?_ (wfn _)))
    split
    . exact wfl (by omega) (by decide)
    . refine wfs (by omega) (by decide) (wfc (wf_tx _ (by omega)) ?_)
      split
      . exact wfc (wf_tx _ (by omega)) (wfn _)
      . exact wfn _
  split
  . rename_i h3
    exact wfc (wf_tx _ (by omega)) (wfc (wfl (by omega) (by decide)) (wfc (wfl (by omega) (by decide)) (wfc (wfl (by omega) (by decide)) (wfc (wfl (by omega) (by decide)) (wfc (wf_tru _ (by omega)) (wfc (hf h3) (wfc (wfs (by omega) (by decide) (wf_txts _ (by omega))) (wfn _))))))))
  split
  . refine wfc (wf_tx _ (by omega)) (wfc (wfs (by omega) (by decide) (WfKs.of fun n hn => ?_)) (wfn _))
    obtain ⟨a, _, rfl⟩ := List.mem_map.1 hn
    exact wf_attr a (by omega)
  split
  . refine wfc (wf_tx _ (by omega)) (wfc (wfs (by omega) (by decide) (WfKs.of fun n hn => ?_)) (wfn _))
    obtain ⟨a, _, rfl⟩ := List.mem_map.1 hn
    exact wf_mod a (by omega)
  split
  . refine wfc (wf_tx _ (by omega)) (wfc (wf_tx _ (by omega)) (wfc (wf_tru _ (by omega)) ?_))
    split
    . exact wfc (wfl (by omega) (by decide)) (wfn _)
    . exact wfn _
  split
  . exact wfc (wf_tx _ (by omega)) (wfc (wfs (by omega) (by decide) (wfc (wf_tx _ (by omega)) (wfc (wf_tx _ (by omega)) (wfn _)))) (wfn _))
  split
  . refine wfc (wfl (by omega) (by decide)) ?_
    split
    . exact wfc (wfl (by omega) (by decide)) (wfn _)
    . exact wfn _
  . refine wfc (wfl (by omega) (by decide)) (wfc (wf_tx _ (by omega)) (wfc (wf_tx _ (by omega)) (wfa ?_ ?_)))
    . split
      . exact wfc (wfl (by omega) (by decide)) (wfn _)
      . exact wfn _
    . split
      . exact wfc (wfl (by omega) (by decide)) (wfn _)
      . exact wfn _
theorem wf_elem {m : Ms} (ht : tagM m.op ≠ 0) (hf : m.op = 3 -> WfN (flN m.fl) 62) : WfN (elemM m) 63 := by
  have hp := wf_parts hf
  unfold elemM
  have hc := op_cases ht
  split
  . rename_i h; rw [h]; exact wfl (by omega) (by decide)
  split
  . rename_i h; rw [h]; exact wfl (by omega) (by decide)
  split
  . rename_i h; rw [h]; exact wfl (by omega) (by decide)
  . refine wfs (by omega) ?_ hp
    rcases hc with h | h | h | h | h | h | h | h | h | h | h | h | h | h | h | h | h | h | h <;> first | (rw [h]; decide) | (exfalso; omega)
theorem wf_node {m : Ms} (ht : tagM m.op ≠ 0) (hf : m.op = 3 -> WfN (flN m.fl) 62) : WfN (nodeM m) 64 := by
  refine wfs (by omega) (by decide) (wfc (wfl (by omega) (by decide)) (wfc (wf_elem ht hf) ?_))
  split
  . exact wfn _
  . refine wfc (wfs (by omega) (by decide) (WfKs.of fun n hn => ?_)) (wfn _)
    obtain ⟨c, _, rfl⟩ := List.mem_map.1 hn
    exact wf_ctl c (by omega)
theorem rdO_ok {id : Int} {o : Nd} {cs : List Nd} {m : Ms} (hw : WfN o 63) (h : rdO id o cs = .ok m) : m.id = id /\ tagM m.op ≠ 0 /\ okM m = true /\ bareM m = m /\ (m.op = 3 -> WfN (flN m.fl) 62) := by
  unfold rdO at h
  split at h
  . cases h
  . rename_i op hop
    split at h
    . rename_i x l h1 h2
      injection h with h
      obtain ⟨_, ht⟩ := opOf_tag hop
      obtain ⟨r1, r2, r3, r4, r5, r6⟩ := opR_ok hw ht h1
      have hb := cts_bare h2
      subst h
      refine ⟨r1, by rw [r2]; exact ht, r4, ?_, fun e => r6 (by rw [<- r2]; exact e)⟩
      have key : bareM { x with ctls := l } = { bareM x with ctls := l.map bareC } := by
        clear h1 h2 r1 r3 r4 r5 r6 hb
        obtain ⟨id, op', dn, ver, sasl, mech, text, scope, deref, size, time, types, fl, names, attrs, mods, rdn, delOld, hasSup, sup, attr, target, oid, has, value, code, matched, ctls⟩ := x
        simp only at r2
        subst r2
        rcases op_cases ht with rfl | rfl | rfl | rfl | rfl | rfl | rfl | rfl | rfl | rfl | rfl | rfl | rfl | rfl | rfl | rfl | rfl | rfl | rfl
        . cases sasl <;> rfl
        all_goals rfl
      rw [key, hb, r5]
    . cases h
theorem rdM_ok {n : Nd} {m : Ms} (hw : WfN n 64) (h : rdM n = .ok m) : inM m.id 0 2147483647 = true /\ tagM m.op ≠ 0 /\ okM m = true /\ bareM m = m /\ WfN (nodeM m) 64 := by
  have hks : ∀ l, wiS 48 (some [n]) = some l -> WfKs l 63 := by
    intro l hl
    unfold wiS at hl
    split at hl
    . rename_i hs
      injection hl with hl
      have e : nxN 48 (some [n]) = n := by
        show (if n.tag = 48 then n else zN) = n
        by_cases hc : n.tag = 48
        . rw [if_pos hc]
        . have : nxt 48 (some [n]) = none := by
            show (if n.tag = 48 then some [] else none) = (none : PS)
            rw [if_neg hc]
          rw [this] at hs; cases hs
      rw [e] at hl
      subst hl
      exact (wf_eq hw).2.2.2.2.2
    . cases hl
  have hkn : ∀ l, nmS 2 0 2147483647 (wiS 48 (some [n])) = some l -> WfKs l 63 /\ inM (nmV 2 0 2147483647 (wiS 48 (some [n]))) 0 2147483647 = true := by
    intro l hl
    refine ⟨?_, nm_in (by rw [hl]; simp)⟩
    have : nxt 2 (wiS 48 (some [n])) = some l := by
      unfold nmS bdS at hl
      split at hl
      . exact hl
      . cases hl
    exact psw_mem this hks
  unfold rdM at h
  simp only at h
  split at h
  . rename_i o ho
    obtain ⟨h1, h2⟩ := hkn _ ho
    rw [WfKs] at h1
    obtain ⟨a1, a2, a3, a4, a5⟩ := rdO_ok h1.1 h
    exact ⟨by rw [a1]; exact h2, a2, a3, a4, wf_node a2 a5⟩
  . rename_i o c ho
    obtain ⟨h1, h2⟩ := hkn _ ho
    rw [WfKs] at h1
    split at h
    . obtain ⟨a1, a2, a3, a4, a5⟩ := rdO_ok h1.1 h
      exact ⟨by rw [a1]; exact h2, a2, a3, a4, wf_node a2 a5⟩
    . cases h
  . cases h
theorem read_ok {s : Bs} {m : Ms} (h : readM s = .ok m) : bareM m = m /\ inM m.id 0 2147483647 = true /\ tagM m.op ≠ 0 /\ okM m = true /\ ((writeM m).2 = 0 \/ (writeM m).2 = 5) := by
  unfold readM at h
  split at h
  . rename_i hw
    obtain ⟨h1, h2, h3, h4, h5⟩ := rdM_ok (who_wf hw) h
    refine ⟨h4, h1, h2, h3, ?_⟩
    unfold writeM
    rw [if_neg (by rw [h1]; simp), if_neg h2, if_neg (by rw [h3]; simp)]
    exact put_err _ 64 1 (by omega) h5
  . cases h
theorem who_put {a : Nd} (h : (putM 1 a).2 = 0) : who (putM 1 a).1 = (a, 0) := by
  have e := par_put h []
  rw [List.append_nil] at e
  unfold who
  rw [e]
  simp
theorem write_ok {m : Ms} (h : (writeM m).2 = 0) : inM m.id 0 2147483647 = true /\ tagM m.op ≠ 0 /\ okM m = true /\ (putM 1 (nodeM m)).2 = 0 /\ (writeM m).1 = (putM 1 (nodeM m)).1 := by
  unfold writeM at h ⊢
  split at h
  . cases h
  rename_i h1
  rw [if_neg h1]
  split at h
  . cases h
  rename_i h2
  rw [if_neg h2]
  split at h
  . cases h
  rename_i h3
  rw [if_neg h3]
  exact ⟨by simpa using h1, h2, by simpa using h3, h, rfl⟩
theorem write_read {m : Ms} (h : (writeM m).2 = 0) : readM (writeM m).1 = .ok (bareM m) := by
  obtain ⟨h1, h2, h3, h4, h5⟩ := write_ok h
  rw [h5]
  unfold readM
  rw [who_put h4]
  rw [if_pos rfl]
  exact rd_node h1 h2 h3
end Go.Proofs.YtibkffoeioidlaaDoor
