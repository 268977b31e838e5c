/- Names, in plain words: a key is its own key. -/
import Derived.Test.YtahpemfnhepgoaaDnQ
namespace Go.Proofs.Ytahpemfnhepgoaa
set_option linter.all false
set_option maxRecDepth 4000
open Go.RowKit

theorem lowB_low (c : UInt8) : lowB (lowB c) = lowB c := by
  unfold lowB
  split
  . rename_i h
    have e : (UInt8.ofNat (c.toNat + 32)).toNat = c.toNat + 32 := by simp [UInt8.toNat_ofNat']; omega
    rw [if_neg (by rw [e]; omega)]
  . rfl
theorem foldM_fold (s : List UInt8) : foldM (foldM s) = foldM s := by
  unfold foldM; rw [List.map_map]; exact List.map_congr_left fun c _ => lowB_low c
theorem prF_append (a : List UInt8) (c : UInt8) : prF (a ++ [c]) = prS (prF a) c := by unfold prF; rw [List.foldl_append]; rfl
theorem prF_again : ∀ t : List UInt8, prF (prB (prF t)) = prF t := by
  intro t
  have : ∀ (l : List UInt8), prF (prB (prF l)) = prF l := by
    intro l
    generalize hn : l.length = n
    induction n generalizing l with
    | zero =>
      have : l = [] := List.eq_nil_of_length_eq_zero hn
      subst this; rfl
    | succ n ih =>
      obtain ⟨l', c, rfl⟩ : ∃ l' c, l = l' ++ [c] := by
        have hne : l ≠ [] := fun e => by subst e; simp at hn
        exact ⟨l.dropLast, l.getLast hne, (List.dropLast_concat_getLast hne).symm⟩
      have ih := ih l' (by simpa using hn)
      have ok := prF_ok l'
      rw [prF_append]
      generalize prF l' = x at *
      obtain ⟨e, p⟩ := x
      by_cases hc : c.toNat = 32
      . unfold prS
        rw [if_pos hc]
        by_cases he : e = []
        . subst he; rfl
        . have hb : prB (e, !e.isEmpty) = e ++ [32] := by unfold prB; simp [he]
          simp only
          rw [hb]
          cases p with
          | true =>
            have h1 : prB (e, true) = e ++ [32] := by unfold prB; simp
            rw [h1] at ih
            rw [ih]; simp [he]
          | false =>
            have h1 : prB (e, false) = e := by unfold prB; simp
            rw [h1] at ih
            rw [prF_append, ih]
            unfold prS
            rw [if_pos (by decide)]
      . unfold prS
        rw [if_neg hc]
        have hb : prB (e ++ (if p then [32] else []) ++ [c], false) = prB (e, p) ++ [c] := by unfold prB; simp
        simp only
        rw [hb, prF_append, ih]
        unfold prS
        rw [if_neg hc]
  exact this t
theorem prF_idem (t : List UInt8) : (prF (prF t).1).1 = (prF t).1 := by
  have h := prF_again t
  have ok := prF_ok t
  generalize prF t = x at *
  obtain ⟨e, p⟩ := x
  cases p with
  | false =>
    have h1 : prB (e, false) = e := by unfold prB; simp
    rw [h1] at h
    rw [h]
  | true =>
    have h1 : prB (e, true) = e ++ [32] := by unfold prB; simp
    rw [h1, prF_append] at h
    unfold prS at h
    rw [if_pos (by decide)] at h
    exact congrArg (·.1) h
theorem prF_mem : ∀ (t : List UInt8) (x : List UInt8 × Bool), ∀ c ∈ (t.foldl prS x).1, c ∈ x.1 \/ c ∈ t \/ c = 32
  | [], x, c, h => .inl h
  | b :: t, x, c, h => by
    rcases prF_mem t (prS x b) c h with h1 | h1 | h1
    . unfold prS at h1
      split at h1
      . exact .inl h1
      . simp only [List.mem_append, List.mem_singleton] at h1
        rcases h1 with (h1 | h1) | h1
        . exact .inl h1
        . split at h1
          . rw [List.mem_singleton] at h1; exact .inr (.inr h1)
          . simp at h1
        . exact .inr (.inl (by rw [h1]; simp))
    . exact .inr (.inl (by simp [h1]))
    . exact .inr (.inr h1)
theorem prepM_prep (v : List UInt8) : prepM (prepM v) = prepM v := by
  have h1 : foldM (prepM v) = prepM v := by
    unfold prepM foldM
    have : ∀ c ∈ (prF (v.map lowB)).1, lowB c = c := fun c hc => by
      rcases prF_mem (v.map lowB) ([], false) c hc with h | h | h
      . simp at h
      . obtain ⟨b, _, rfl⟩ := List.mem_map.1 h; exact lowB_low b
      . rw [h]; rfl
    exact (List.map_congr_left this).trans (List.map_id _)
  have e : prepM (prepM v) = (prF (foldM (prepM v))).1 := rfl
  rw [e, h1]
  exact prF_idem (foldM v)
theorem keyA_key (a : List UInt8 × List UInt8) : keyA (keyA a) = keyA a := by unfold keyA; rw [foldM_fold, prepM_prep]
def cN : Bool -> List UInt8 -> Nat
  | _, [] => 0
  | f, c :: r => cst f c + cN false r
theorem cN_snoc (c : UInt8) : ∀ (l : List UInt8) (f : Bool), cN f (l ++ [c]) = cN f l + cst (f && l.isEmpty) c
  | [], f => by simp [cN]
  | b :: l, f => by
    have := cN_snoc c l false
    simp only [List.cons_append, cN, this]
    simp; omega
theorem wrU_cst (f l : Bool) (c : UInt8) : cst f c <= (wrU f l c).length /\ (¬ (l = true /\ c.toNat = 32) -> (wrU f l c).length = cst f c) := by
  unfold wrU cst
  by_cases h0 : c.toNat = 0
  . rw [if_pos h0, if_pos h0]; simp
  . rw [if_neg h0, if_neg h0]
    by_cases h1 : inN c.toNat esB = true \/ (f = true /\ (c.toNat = 32 \/ c.toNat = 35))
    . rw [if_pos h1, if_pos (h1.imp id .inl)]; simp
    . rw [if_neg h1]
      constructor
      . split <;> simp
      . intro h2
        rw [if_neg]
        . rfl
        . rintro (h | h | h)
          . exact h1 (.inl h)
          . exact h1 (.inr h)
          . exact h2 h
theorem wrGo_cN : ∀ (v : List UInt8) (f : Bool), cN f v <= (wrGo f v).length /\ ((∀ e, v.getLast? = some e -> e.toNat ≠ 32) -> (wrGo f v).length = cN f v)
  | [], f => ⟨Nat.le_refl _, fun _ => rfl⟩
  | c :: r, f => by
    obtain ⟨h1, h2⟩ := wrGo_cN r false
    obtain ⟨h3, h4⟩ := wrU_cst f r.isEmpty c
    rw [wrGo, cN, List.length_append]
    refine ⟨by omega, fun hl => ?_⟩
    rw [h4, h2]
    . intro e he
      cases r with
      | nil => simp at he
      | cons b r => exact hl e (by rw [List.getLast?_cons_cons]; exact he)
    . rintro ⟨h5, h6⟩
      have : r = [] := by simpa using h5
      subst this
      exact hl c rfl h6
theorem cst_le (c : UInt8) : cst false c <= cst true c /\ cst true c <= cst false c + 1 := by
  unfold cst
  by_cases h0 : c.toNat = 0
  . rw [if_pos h0, if_pos h0]; omega
  . rw [if_neg h0, if_neg h0]
    split <;> split <;> rename_i h1 h2
    . omega
    . exact absurd (h1.elim .inl (fun h => by cases h.1)) h2
    . omega
    . omega
theorem cst_blank {c : UInt8} (h : c.toNat = 32) : cst true c = 2 /\ cst false c = 1 := by
  unfold cst
  rw [h]
  exact ⟨by decide, by decide⟩
theorem prF_cost : ∀ t : List UInt8, cN true (prF t).1 + (if (prF t).2 then 1 else 0) <= cN true t /\ ((prF t).1 = [] -> t ≠ [] -> 2 <= cN true t) := by
  intro t
  generalize hn : t.length = n
  induction n generalizing t with
  | zero =>
    have : t = [] := List.eq_nil_of_length_eq_zero hn
    subst this
    exact ⟨Nat.le_refl _, fun _ h => absurd rfl h⟩
  | succ n ih =>
    obtain ⟨l, c, rfl⟩ : ∃ l' c, t = l' ++ [c] := by
      have hne : t ≠ [] := fun e => by subst e; simp at hn
      exact ⟨t.dropLast, t.getLast hne, (List.dropLast_concat_getLast hne).symm⟩
    obtain ⟨h1, h2⟩ := ih l (by simpa using hn)
    have ok := prF_ok l
    rw [prF_append, cN_snoc]
    have hle : l = [] -> prF l = ([], false) := fun e => by subst e; rfl
    generalize prF l = x at *
    obtain ⟨e, p⟩ := x
    simp only [Bool.true_and] at *
    unfold prS
    by_cases hc : c.toNat = 32
    . rw [if_pos hc]
      obtain ⟨g1, g2⟩ := cst_blank hc
      simp only
      by_cases he : e = []
      . subst he
        by_cases hl : l = []
        . subst hl; simp [cN, g1]
        . have := h2 rfl hl
          simp [hl, g2, cN]; omega
      . have hl : l ≠ [] := fun e2 => by have := hle e2; simp only [Prod.mk.injEq] at this; exact he this.1
        have hle' : l.isEmpty = false := by simpa using hl
        simp [he, hle', g2]
        have : cN true e <= cN true l := by omega
        omega
    . rw [if_neg hc]
      obtain ⟨g1, g2⟩ := cst_le c
      simp only [Bool.false_eq_true, if_false, Nat.add_zero]
      refine ⟨?_, fun e => by simp at e⟩
      rw [cN_snoc]
      cases p with
      | true =>
        have hne : e ≠ [] := ok.wait rfl
        simp only [if_true] at h1 ⊢
        rw [cN_snoc]
        have hb := cst_blank (c := 32) rfl
        have hl : l ≠ [] := fun e2 => by have := hle e2; simp at this
        have hle' : l.isEmpty = false := by simpa using hl
        have hee' : e.isEmpty = false := by simpa using hne
        have hee2 : (e ++ [32]).isEmpty = false := by simp
        rw [hle', hee', hee2]
        simp only [Bool.and_false, hb.2]
        omega
      | false =>
        simp only [Bool.false_eq_true, if_false, List.append_nil, Nat.add_zero] at h1 ⊢
        by_cases he : e = []
        . subst he
          by_cases hl : l = []
          . subst hl; simp [cN]
          . have := h2 rfl hl
            have hle' : l.isEmpty = false := by simpa using hl
            rw [hle']
            simp only [cN, List.isEmpty_nil, Bool.and_true]; omega
        . have hl : l ≠ [] := fun e2 => by have := hle e2; simp only [Prod.mk.injEq] at this; exact he this.1
          have hle' : l.isEmpty = false := by simpa using hl
          have hee' : e.isEmpty = false := by simpa using he
          rw [hle', hee']; simp only [Bool.and_false]; omega
theorem low_es : ∀ c : Fin 256, inN (lowN c.val) esB = inN c.val esB /\ (lowN c.val = 0 ↔ c.val = 0) /\ (lowN c.val = 32 ↔ c.val = 32) /\ (lowN c.val = 35 ↔ c.val = 35) := by decide +kernel
theorem lowB_toNat (c : UInt8) : (lowB c).toNat = lowN c.toNat := by
  unfold lowB lowN
  split
  . have := c.toNat_lt; simp [UInt8.toNat_ofNat']; omega
  . rfl
theorem cst_low (f : Bool) (c : UInt8) : cst f (lowB c) = cst f c := by
  obtain ⟨h1, h2, h3, h4⟩ := low_es ⟨c.toNat, c.toNat_lt⟩
  simp only at h1 h2 h3 h4
  unfold cst
  rw [lowB_toNat, h1]
  simp only [h2, h3, h4]
theorem cN_fold : ∀ (v : List UInt8) (f : Bool), cN f (foldM v) = cN f v
  | [], f => rfl
  | c :: r, f => by
    have := cN_fold r false
    unfold foldM at *
    simp only [List.map_cons, cN, cst_low, this]
theorem wr_prep (v : List UInt8) : (wrM (prepM v)).length <= (wrM v).length := by
  rw [wrM_go, wrM_go]
  have h1 := (wrGo_cN (prepM v) true).2 (prF_ok (foldM v)).last
  have h2 := (wrGo_cN v true).1
  have h3 := (prF_cost (foldM v)).1
  rw [cN_fold] at h3
  have e : cN true (prF (foldM v)).1 = cN true (prepM v) := rfl
  omega
theorem fA_le (a : List UInt8 × List UInt8) : (fA true a).length <= (fA false a).length := by
  have := wr_prep a.2
  simp only [fA, avaT, keyA, if_true, Bool.false_eq_true, if_false, List.length_append, foldM_len]; omega
theorem join_length (sep : List UInt8) : ∀ L : List (List UInt8), L ≠ [] -> (Lib.join L sep).length + sep.length = (L.map fun x => x.length + sep.length).sum := by
  intro L hL
  cases L with
  | nil => exact absurd rfl hL
  | cons x r =>
    rw [Lib.join_cons, List.length_append, List.map_cons, List.sum_cons]
    have : (Lib.joinTail sep r).length = (r.map fun x => x.length + sep.length).sum := by
      induction r with
      | nil => rfl
      | cons y r ih => simp only [Lib.joinTail, List.map_cons, List.flatten_cons, List.length_append, List.sum_cons] at ih ⊢; rw [ih (by simp)]; omega
    omega
theorem fR_le (r : Rdn) : (fR true r).length <= (fR false r).length := by
  by_cases hr : r = []
  . subst hr; simp [fR, sortM]
  . have hp : (sortM (r.map (fA true))).Perm (r.map (fA true)) := List.mergeSort_perm _ _
    have h1 := join_length [43] (sortM (r.map (fA true))) (fun e => hr (by have := hp.length_eq; rw [e] at this; simpa using this.symm))
    have h2 := join_length [43] (r.map (fA false)) (by simpa using hr)
    have h3 := (hp.map fun x => x.length + [(43 : UInt8)].length).sum_nat
    rw [List.map_map] at h2 h3
    have h4 := sum_le ((fun x : List UInt8 => x.length + [(43 : UInt8)].length) ∘ fA true) ((fun x : List UInt8 => x.length + [(43 : UInt8)].length) ∘ fA false) r (fun a _ => by have := fA_le a; simp only [Function.comp]; omega)
    unfold fR
    simp only [if_true, Bool.false_eq_true, if_false]
    omega
theorem txt_le (d : Dn) : (txt true d).length <= (txt false d).length := by
  by_cases hd : d = []
  . subst hd; simp [txt]
  . have h1 := join_length [44] (d.map (fR true)) (by simpa using hd)
    have h2 := join_length [44] (d.map (fR false)) (by simpa using hd)
    rw [List.map_map] at h1 h2
    have h4 := sum_le ((fun x : List UInt8 => x.length + [(44 : UInt8)].length) ∘ fR true) ((fun x : List UInt8 => x.length + [(44 : UInt8)].length) ∘ fR false) d (fun r _ => by have := fR_le r; simp only [Function.comp]; omega)
    unfold txt
    omega
theorem sameT_key (a b : List UInt8) : sameT (foldM a) (foldM b) = sameT a b := by unfold sameT; rw [foldM_fold, foldM_fold]
theorem low_let : ∀ c : Fin 256, isLet (lowN c.val : Nat) = isLet (c.val : Nat) /\ isTc (lowN c.val : Nat) = isTc (c.val : Nat) := by decide +kernel
theorem typeM_fold (s : List UInt8) : typeM (foldM s) = typeM s := by
  unfold typeM
  rw [foldM_len]
  have h1 : isLet (byteAt (foldM s) 0) = isLet (byteAt s 0) := by
    by_cases h : 0 < s.length
    . rw [byteAt_fold h]
      exact (low_let ⟨byteAt s 0, byteAt_lt s 0⟩).1
    . have : s = [] := List.eq_nil_of_length_eq_zero (by omega)
      subst this; rfl
  have h2 : (foldM s).all (fun b => isTc b.toNat) = s.all fun b => isTc b.toNat := by
    unfold foldM
    rw [List.all_map]
    congr 1
    funext b
    simp only [Function.comp, lowB_toNat]
    exact (low_let ⟨b.toNat, b.toNat_lt⟩).2
  rw [h1, h2]
def Once (r : Rdn) : Prop := r.Pairwise fun a b => sameT a.1 b.1 = false
theorem hasM_false {pre : Rdn} {t : List UInt8} : ¬ hasM pre t = true ↔ ∀ a ∈ pre, sameT a.1 t = false := by
  unfold hasM
  rw [List.any_eq_true]
  constructor
  . intro h a ha
    cases hs : sameT a.1 t with
    | false => rfl
    | true => exact absurd ⟨a, ha, hs⟩ h
  . rintro h ⟨a, ha, hs⟩
    rw [h a ha] at hs; cases hs
theorem rdnGo_iff : ∀ (l pre : Rdn), pre.length <= 8 -> (rdnGo pre l = 0 ↔ (pre.length + l.length <= 8 /\ (∀ a ∈ l, typeM a.1 = true) /\ Once l /\ ∀ a ∈ pre, ∀ b ∈ l, sameT a.1 b.1 = false))
  | [], pre, h => by simp [rdnGo, Once, h]
  | a :: l, pre, h => by
    rw [rdnGo]
    unfold avaC
    by_cases h8 : pre.length = 8
    . rw [if_pos h8, if_pos (by decide)]
      simp only [List.length_cons]
      constructor
      . intro e; exact absurd e (by decide)
      . intro e; omega
    rw [if_neg h8]
    cases ht : typeM a.1 with
    | false =>
      rw [if_pos rfl, if_pos (by decide)]
      constructor
      . intro e; exact absurd e (by decide)
      . intro e; have := e.2.1 a (by simp); rw [ht] at this; cases this
    | true =>
      rw [if_neg (show ¬ (true = false) by simp)]
      by_cases hh : hasM pre a.1 = true
      . rw [if_pos hh, if_pos (by decide)]
        constructor
        . intro e; exact absurd e (by decide)
        . intro e
          exact absurd hh (hasM_false.2 fun b hb => e.2.2.2 b hb a (by simp))
      . rw [if_neg hh, if_neg (by simp), rdnGo_iff l (pre ++ [a]) (by simp; omega)]
        have hh := hasM_false.1 hh
        simp only [List.length_append, List.length_cons, List.length_nil, Once, List.pairwise_cons, List.mem_cons, List.mem_append, List.mem_singleton]
        constructor
        . rintro ⟨g1, g2, g3, g4⟩
          refine ⟨by omega, fun b hb => hb.elim (fun e => e ▸ ht) (g2 b), ⟨fun b hb => g4 a (.inr (by simp)) b hb, g3⟩, fun b hb c hc => ?_⟩
          rcases hc with rfl | hc
          . exact hh b hb
          . exact g4 b (.inl hb) c hc
        . rintro ⟨g1, g2, ⟨g3, g4⟩, g5⟩
          refine ⟨by omega, fun b hb => g2 b (.inr hb), g4, fun b hb c hc => ?_⟩
          rcases hb with hb | hb
          . exact g5 b hb c (.inr hc)
          . have : b = a := by simpa using hb
            subst this; exact g3 c hc
theorem rdnCk_iff (r : Rdn) : rdnCk r = 0 ↔ (r ≠ [] /\ r.length <= 8 /\ (∀ a ∈ r, typeM a.1 = true) /\ Once r) := by
  unfold rdnCk
  by_cases h0 : r.length = 0
  . rw [if_pos h0]
    constructor
    . intro e; cases e
    . intro e; exact absurd (List.eq_nil_of_length_eq_zero h0) e.1
  rw [if_neg h0, rdnGo_iff r [] (by simp)]
  simp only [List.length_nil, Nat.zero_add]
  constructor
  . rintro ⟨g1, g2, g3, _⟩; exact ⟨fun e => h0 (by rw [e]; rfl), g1, g2, g3⟩
  . rintro ⟨_, g1, g2, g3⟩; exact ⟨g1, g2, g3, fun a ha => by simp at ha⟩
theorem chk_iff (d : Dn) : chkD d = 0 ↔ (d.length <= 32 /\ ∀ r ∈ d, rdnCk r = 0) := by
  constructor
  . intro h
    have := chk_parts d 0 (by omega) h
    exact ⟨by omega, this.2⟩
  . rintro ⟨h1, h2⟩
    have : ∀ (l : Dn) (i : Nat), i + l.length <= 32 -> (∀ r ∈ l, rdnCk r = 0) -> chkGo i l = 0 := by
      intro l
      induction l with
      | nil => intro i _ _; rfl
      | cons r l ih =>
        intro i hi hr
        simp only [List.length_cons] at hi
        rw [chkGo, if_neg (by omega), hr r (by simp), if_neg (by simp)]
        exact ih (i + 1) (by omega) fun r hr' => hr r (by simp [hr'])
    exact this d 0 (by omega) h2
theorem sameT_comm (a b : List UInt8) : sameT a b = sameT b a := by unfold sameT; exact decide_eq_decide.2 ⟨Eq.symm, Eq.symm⟩
def plainR (r : Rdn) : Rdn := (r.map keyA).mergeSort fun a b => decide (avaT a <= avaT b)
theorem plainR_perm (r : Rdn) : (plainR r).Perm (r.map keyA) := List.mergeSort_perm _ _
theorem plainR_rise (r : Rdn) : RiseR (plainR r) := by
  have := List.pairwise_mergeSort (le := fun (x y : List UInt8 × List UInt8) => decide (avaT x <= avaT y)) (fun a b c h1 h2 => by simp only [decide_eq_true_eq] at *; exact List.le_trans h1 h2) (fun a b => by simp only [Bool.or_eq_true, decide_eq_true_eq]; exact List.le_total _ _) (r.map keyA)
  exact this.imp fun h => by simpa using h
theorem plainR_ck {r : Rdn} (h : rdnCk r = 0) : rdnCk (plainR r) = 0 := by
  have hp := plainR_perm r
  rw [rdnCk_iff] at h ⊢
  obtain ⟨h1, h2, h3, h4⟩ := h
  refine ⟨fun e => ?_, by rw [hp.length_eq, List.length_map]; exact h2, fun a ha => ?_, ?_⟩
  . rw [e] at hp
    have := hp.length_eq
    simp only [List.length_nil, List.length_map] at this
    exact h1 (List.eq_nil_of_length_eq_zero this.symm)
  . have := hp.mem_iff.1 ha
    obtain ⟨b, hb, rfl⟩ := List.mem_map.1 this
    simp only [keyA, typeM_fold]; exact h3 b hb
  . have h5 : Once (r.map keyA) := by
      unfold Once at *
      rw [List.pairwise_map]
      exact h4.imp fun h => by simp only [keyA, sameT_key]; exact h
    exact (hp.pairwise_iff (fun {a b} h => by rw [sameT_comm]; exact h)).2 h5
theorem plain_same (d : Dn) : txt false (d.map plainR) = txt true d := by
  have hR : ∀ r, fR false (plainR r) = fR true r := fun r => by
    have := rise_sort (plainR_perm r) (plainR_rise r)
    have e1 : fR false (plainR r) = Lib.join ((plainR r).map avaT) [43] := rfl
    have e2 : fR true r = Lib.join (sortM (r.map (fA true))) [43] := rfl
    rw [e1, e2, this]
  unfold txt
  rw [List.map_map]
  congr 1
  exact List.map_congr_left fun r _ => hR r
theorem plain_key (d : Dn) : txt true (d.map plainR) = txt true d := by
  have hR : ∀ r, fR true (plainR r) = fR true r := fun r => by
    have e1 : fR true (plainR r) = Lib.join (sortM ((plainR r).map (fA true))) [43] := rfl
    have e2 : fR true r = Lib.join (sortM (r.map (fA true))) [43] := rfl
    have hp : ((plainR r).map (fA true)).Perm (r.map (fA true)) := by
      have h1 := (plainR_perm r).map (fA true)
      rw [List.map_map] at h1
      have e3 : r.map (fA true ∘ keyA) = r.map (fA true) := List.map_congr_left fun a _ => by simp only [Function.comp, fA, if_true, keyA_key]
      rwa [e3] at h1
    have hle : ∀ (L : List (List UInt8)), (sortM L).Pairwise fun a b => a <= b := fun L => by
      have := List.pairwise_mergeSort (le := fun (x y : List UInt8) => decide (x <= y)) (fun a b c h1 h2 => by simp only [decide_eq_true_eq] at *; exact List.le_trans h1 h2) (fun a b => by simp only [Bool.or_eq_true, decide_eq_true_eq]; exact List.le_total a b) L
      exact this.imp fun h => by simpa using h
    have hs : sortM ((plainR r).map (fA true)) = sortM (r.map (fA true)) :=
      ((List.mergeSort_perm _ _).trans (hp.trans (List.mergeSort_perm _ _).symm)).eq_of_pairwise (fun a b _ _ h1 h2 => List.le_antisymm h1 h2) (hle _) (hle _)
    rw [e1, e2, hs]
  unfold txt
  rw [List.map_map]
  congr 1
  exact List.map_congr_left fun r _ => hR r
theorem print_ok {d : Dn} (h : (printM d).2 = 0) : chkD d = 0 /\ (txt false d).length <= 4096 /\ printM d = (txt false d, 0) := by
  by_cases hc : chkD d = 0
  . rw [printM_eq hc] at h ⊢
    by_cases hl : 4096 < (txt false d).length
    . rw [if_pos hl] at h; cases h
    . rw [if_neg hl]; exact ⟨hc, by omega, rfl⟩
  . unfold printM at h
    rw [if_pos hc] at h
    exact absurd h hc
theorem print_of {d : Dn} (hc : chkD d = 0) (hl : (txt false d).length <= 4096) : printM d = (txt false d, 0) := by
  rw [printM_eq hc, if_neg (by omega)]
theorem norm_of {d : Dn} (hc : chkD d = 0) (hl : (txt false d).length <= 4096) : normM d = (txt true d, 0) := by
  unfold normM; rw [print_of hc hl, if_neg (by simp)]
theorem key_key {d : Dn} (hc : chkD d = 0) (hl : (txt false d).length <= 4096) : keyMs (txt true d) = (txt true d, 0) := by
  have hc2 : chkD (d.map plainR) = 0 := by
    rw [chk_iff] at hc ⊢
    refine ⟨by simpa using hc.1, fun r hr => ?_⟩
    obtain ⟨r0, hr0, rfl⟩ := List.mem_map.1 hr
    exact plainR_ck (hc.2 r0 hr0)
  have hl2 : (txt false (d.map plainR)).length <= 4096 := by rw [plain_same]; have := txt_le d; omega
  have hp := parse_txt hc2 hl2
  rw [plain_same] at hp
  unfold keyMs
  rw [hp]
  simp only
  rw [norm_of hc2 hl2, plain_key]
end Go.Proofs.Ytahpemfnhepgoaa
