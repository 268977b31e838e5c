/- Names, in plain words: a name's text is read as the name. -/
import Derived.Test.YtahpemfnhepgoaaDnO
namespace Go.Proofs.Ytahpemfnhepgoaa
set_option linter.all false
set_option maxRecDepth 4000
open Go.RowKit

def cst (f : Bool) (c : UInt8) : Nat := if c.toNat = 0 then 3 else if inN c.toNat esB = true \/ (f = true /\ (c.toNat = 32 \/ c.toNat = 35)) then 2 else 1
def wrGo (f : Bool) : List UInt8 -> List UInt8
  | [] => []
  | c :: r => wrU f r.isEmpty c ++ wrGo false r
theorem wrTo_go (v : List UInt8) : ∀ (j i : Nat), i + j = v.length -> wrTo v i ++ wrGo (decide (i = 0)) (v.drop i) = wrM v := by
  intro j
  induction j with
  | zero =>
    intro i h
    obtain rfl : i = v.length := by omega
    rw [List.drop_length, wrGo, List.append_nil]; rfl
  | succ j ih =>
    intro i h
    have hi : i < v.length := by omega
    have h1 := ih (i + 1) (by omega)
    rw [<- h1, wrTo, List.getElem?_eq_getElem hi, List.drop_eq_getElem_cons hi, wrGo]
    simp only [List.append_assoc]
    have e1 : (v.drop (i + 1)).isEmpty = decide (i + 1 = v.length) := by
      by_cases h2 : i + 1 = v.length
      . rw [decide_eq_true h2, h2, List.drop_length]; rfl
      . rw [decide_eq_false h2]
        have : v.drop (i + 1) ≠ [] := fun e => by have := congrArg List.length e; rw [List.length_drop] at this; simp at this; omega
        simpa using this
    rw [e1, decide_eq_false (show ¬ i + 1 = 0 by omega)]
theorem wrM_go (v : List UInt8) : wrM v = wrGo true v := by
  have := wrTo_go v v.length 0 (by omega)
  simpa [wrTo] using this.symm
theorem es_sp : ∀ c : Fin 256, inN c.val esB = true -> inN c.val spB = true := by decide +kernel
theorem es_bd : ∀ c : Fin 256, inN c.val bdB = true -> inN c.val esB = true := by decide +kernel
theorem es_in {c : UInt8} (h : inN c.toNat esB = true) : inN c.toNat spB = true := es_sp ⟨c.toNat, c.toNat_lt⟩ h
theorem bd_in {c : UInt8} (h : inN c.toNat bdB = true) : inN c.toNat esB = true := es_bd ⟨c.toNat, c.toNat_lt⟩ h
theorem sp_blank {c : UInt8} (h : c.toNat = 32 \/ c.toNat = 35) : inN c.toNat spB = true := by rcases h with h | h <;> rw [h] <;> decide
theorem endB_wr {f l : Bool} {c : UInt8} {t : List UInt8} : endB (wrU f l c ++ t) = false := by
  unfold wrU
  split
  . simp [endB]
  . split
    . simp [endB]
    . rename_i h1 h2
      simp only [List.cons_append, List.nil_append, endB, decide_eq_false_iff_not]
      rintro (h | h)
      . exact h2 (.inl (by rw [h]; decide))
      . exact h2 (.inl (by rw [h]; decide))
theorem valM_wr {rest : List UInt8} (he : endB rest = true) : ∀ (v : List UInt8) (f : Bool) (n : Nat), (wrGo f v ++ rest).length <= n -> valM n f (wrGo f v ++ rest) = some (v, rest)
  | [], f, n, h => by
    rw [wrGo, List.nil_append] at *
    cases n with
    | zero =>
      have : rest = [] := List.eq_nil_of_length_eq_zero (by omega)
      subst this; rfl
    | succ n => rw [valM, if_pos he]
  | c :: r, f, n, h => by
    have ih := valM_wr he r false
    rw [wrGo, List.append_assoc] at *
    have hend : endB (wrU f r.isEmpty c ++ (wrGo false r ++ rest)) = false := endB_wr
    have hpos := (wrU_len f r.isEmpty c).1
    cases n with
    | zero => rw [List.length_append] at h; omega
    | succ n =>
      rw [valM, if_neg (by rw [hend]; simp)]
      rw [List.length_append] at h
      unfold wrU at h ⊢
      by_cases h0 : c.toNat = 0
      . rw [if_pos h0] at h ⊢
        have hc : c = 0 := UInt8.toNat_inj.1 (by rw [h0]; rfl)
        subst hc
        have hu : unitM f ([92, 48, 48] ++ (wrGo false r ++ rest)) = some (0, 3, false) := by
          simp only [List.cons_append, List.nil_append, unitM]
          rw [if_pos (by decide), escM, if_neg (by decide)]
          rfl
        rw [hu]
        simp only [Bool.false_and, Bool.false_eq_true, if_false]
        simp only [List.length_cons, List.length_nil] at h
        rw [show List.drop 3 ([92, 48, 48] ++ (wrGo false r ++ rest)) = wrGo false r ++ rest from rfl, ih n (by omega)]
        rfl
      . rw [if_neg h0] at h ⊢
        by_cases h1 : inN c.toNat esB = true \/ (f = true /\ (c.toNat = 32 \/ c.toNat = 35)) \/ (r.isEmpty = true /\ c.toNat = 32)
        . rw [if_pos h1] at h ⊢
          have hsp : inN c.toNat spB = true := by
            rcases h1 with h1 | h1 | h1
            . exact es_in h1
            . exact sp_blank h1.2
            . exact sp_blank (.inl h1.2)
          have hu : unitM f ([92, c] ++ (wrGo false r ++ rest)) = some (c, 2, false) := by
            simp only [List.cons_append, List.nil_append, unitM]
            rw [if_pos (by decide), escM, if_pos hsp]
          rw [hu]
          simp only [Bool.false_and, Bool.false_eq_true, if_false]
          simp only [List.length_cons, List.length_nil] at h
          rw [show List.drop 2 ([92, c] ++ (wrGo false r ++ rest)) = wrGo false r ++ rest from rfl, ih n (by omega)]
          rfl
        . rw [if_neg h1] at h ⊢
          have h92 : ¬ c.toNat = 92 := fun e => h1 (.inl (by rw [e]; decide))
          have hu : unitM f ([c] ++ (wrGo false r ++ rest)) = some (c, 1, decide (c.toNat = 32)) := by
            simp only [List.cons_append, List.nil_append, unitM]
            rw [if_neg h92, rawM, if_neg]
            rintro (h | h | h)
            . exact h0 h
            . exact h1 (.inl (bd_in h))
            . exact h1 (.inr (.inl h))
          rw [hu]
          simp only [List.length_cons, List.length_nil] at h
          simp only
          rw [show List.drop 1 ([c] ++ (wrGo false r ++ rest)) = wrGo false r ++ rest from rfl, ih n (by omega)]
          by_cases h32 : c.toNat = 32
          . have hr : r ≠ [] := fun e => h1 (.inr (.inr ⟨by rw [e]; rfl, h32⟩))
            obtain ⟨c2, r2, rfl⟩ := List.exists_cons_of_ne_nil hr
            have : endB (wrGo false (c2 :: r2) ++ rest) = false := by rw [wrGo, List.append_assoc]; exact endB_wr
            rw [this]; simp
          . rw [decide_eq_false h32]; simp
def tailT (rs : Rdn) (ds : Dn) : List UInt8 := Lib.joinTail [43] (rs.map (fA false)) ++ Lib.joinTail [44] (ds.map (fR false))
theorem tailT_end (rs : Rdn) (ds : Dn) : endB (tailT rs ds) = true := by
  unfold tailT
  cases rs with
  | nil =>
    cases ds with
    | nil => rfl
    | cons r ds => simp [Lib.joinTail, endB]
  | cons a rs => simp [Lib.joinTail, endB]
theorem tailT_cons (a : List UInt8 × List UInt8) (rs : Rdn) (ds : Dn) : tailT (a :: rs) ds = 43 :: (avaT a ++ tailT rs ds) := by
  unfold tailT; simp [Lib.joinTail, fA]
theorem tailT_next (a : List UInt8 × List UInt8) (rs : Rdn) (ds : Dn) : tailT [] ((a :: rs) :: ds) = 44 :: (avaT a ++ tailT rs ds) := by
  unfold tailT
  simp only [List.map_nil, List.map_cons, fR, Bool.false_eq_true, if_false, Lib.join_cons]
  simp [Lib.joinTail, fA]
theorem txt_tail (a : List UInt8 × List UInt8) (rs : Rdn) (ds : Dn) : txt false ((a :: rs) :: ds) = avaT a ++ tailT rs ds := by
  unfold txt tailT
  simp only [List.map_cons, fR, Bool.false_eq_true, if_false, Lib.join_cons]
  simp [fA]
theorem type_no61 {s : List UInt8} (h : typeM s = true) : ∀ c ∈ s, c ≠ 61 := by
  unfold typeM at h
  simp only [Bool.and_eq_true, List.all_eq_true] at h
  intro c hc e
  subst e
  have := h.2 61 hc
  exact absurd this (by decide)
theorem posB_type {ty : List UInt8} (h : typeM ty = true) (t : List UInt8) : posB 61 (ty ++ 61 :: t) = ty.length := by
  refine posB_at (by simp) fun j hj e => ?_
  rw [List.getElem?_append_left hj] at e
  exact type_no61 h _ (List.mem_of_getElem? e) rfl
theorem parM_text : ∀ (n : Nat) (out : Dn) (now : Rdn) (a : List UInt8 × List UInt8) (rs : Rdn) (ds : Dn), out.length + 1 + ds.length <= 32 -> now.length + 1 + rs.length <= 8 -> rdnGo now (a :: rs) = 0 -> (∀ r ∈ ds, rdnCk r = 0 /\ r.length <= 8) →
    (avaT a ++ tailT rs ds).length < n -> parD n out now (avaT a ++ tailT rs ds) = .ok (out ++ [now ++ a :: rs] ++ ds) := by
  intro n
  induction n with
  | zero => intro out now a rs ds _ _ _ _ h; omega
  | succ n ih =>
    intro out now a rs ds h1 h2 h3 h4 h5
    rw [rdnGo] at h3
    by_cases ha : avaC now a ≠ 0
    . rw [if_pos ha] at h3; exact absurd h3 ha
    rw [if_neg ha] at h3
    have ha : avaC now a = 0 := by simpa using ha
    unfold avaC at ha
    have hn8 : ¬ now.length = 8 := by omega
    rw [if_neg hn8] at ha
    have ht : typeM a.1 = true := by
      cases h9 : typeM a.1 with
      | true => rfl
      | false => rw [h9, if_pos rfl] at ha; exact absurd ha (by decide)
    rw [if_neg (by rw [ht]; simp)] at ha
    have hh : ¬ hasM now a.1 = true := fun e => by rw [if_pos e] at ha; exact absurd ha (by decide)
    have e1 : avaT a ++ tailT rs ds = a.1 ++ 61 :: (wrM a.2 ++ tailT rs ds) := by unfold avaT; simp
    have hp : posB 61 (avaT a ++ tailT rs ds) = a.1.length := by rw [e1]; exact posB_type ht _
    have hT : (avaT a ++ tailT rs ds).take a.1.length = a.1 := by rw [e1]; simp
    have hU : (avaT a ++ tailT rs ds).drop (a.1.length + 1) = wrM a.2 ++ tailT rs ds := by
      rw [e1, ← List.drop_drop, List.drop_left]; rfl
    have hv : valM (wrM a.2 ++ tailT rs ds).length true (wrM a.2 ++ tailT rs ds) = some (a.2, tailT rs ds) := by
      rw [wrM_go]; exact valM_wr (tailT_end rs ds) a.2 true _ (Nat.le_refl _)
    have hlen : a.1.length < (avaT a ++ tailT rs ds).length := by rw [e1]; simp
    rw [parD, if_neg (by omega), hp, hT, if_neg (by rintro (e | e); omega; rw [ht] at e; cases e), if_neg hh, hU, hv]
    have hl2 : (avaT a ++ tailT rs ds).length = a.1.length + 1 + (wrM a.2 ++ tailT rs ds).length := by rw [e1]; simp; omega
    rw [List.length_append] at hl2
    cases rs with
    | nil =>
      cases ds with
      | nil => simp [tailT, Lib.joinTail]
      | cons r ds =>
        have hr := h4 r (by simp)
        cases r with
        | nil => exact absurd hr.1 (by simp [rdnCk])
        | cons a' rs' =>
          rw [tailT_next] at hl2 ⊢
          simp only [List.length_cons] at hl2 h1
          have hgo : rdnGo [] (a' :: rs') = 0 := by have := hr.1; unfold rdnCk at this; rwa [if_neg (by simp)] at this
          have hl8 := hr.2
          simp only [List.length_cons] at hl8
          simp only
          rw [if_pos (by decide), ih (out ++ [now ++ [a]]) [] a' rs' ds (by simp only [List.length_append, List.length_cons, List.length_nil]; omega) (by simp only [List.length_nil]; omega) hgo (fun r hr => h4 r (by simp [hr])) (by rw [tailT_next, List.length_append, List.length_cons] at h5; omega)]
          simp
    | cons a' rs' =>
      rw [tailT_cons] at hl2 ⊢
      simp only [List.length_cons] at hl2 h2
      simp only
      rw [if_neg (by decide), ih out (now ++ [a]) a' rs' ds h1 (by simp only [List.length_append, List.length_cons, List.length_nil]; omega) h3 h4 (by rw [tailT_cons, List.length_append, List.length_cons] at h5; omega)]
      simp
theorem chk_parts : ∀ (l : Dn) (i : Nat), i <= 32 -> chkGo i l = 0 -> i + l.length <= 32 /\ ∀ r ∈ l, rdnCk r = 0
  | [], i, hi, _ => ⟨by simpa using hi, fun r hr => by simp at hr⟩
  | r :: l, i, hi, h => by
    rw [chkGo] at h
    by_cases h1 : i = 32
    . rw [if_pos h1] at h; cases h
    rw [if_neg h1] at h
    by_cases h2 : rdnCk r ≠ 0
    . rw [if_pos h2] at h; exact absurd h h2
    rw [if_neg h2] at h
    obtain ⟨h3, h4⟩ := chk_parts l (i + 1) (by omega) h
    refine ⟨by simp only [List.length_cons]; omega, fun r' hr => ?_⟩
    rcases List.mem_cons.1 hr with rfl | hr
    . simpa using h2
    . exact h4 r' hr
theorem rdnGo_len : ∀ (l pre : Rdn), pre.length <= 8 -> rdnGo pre l = 0 -> pre.length + l.length <= 8
  | [], pre, h, _ => by simpa using h
  | a :: l, pre, h, hg => by
    rw [rdnGo] at hg
    by_cases h2 : avaC pre a ≠ 0
    . rw [if_pos h2] at hg; exact absurd hg h2
    rw [if_neg h2] at hg
    have h8 : ¬ pre.length = 8 := fun e => h2 (by unfold avaC; rw [if_pos e]; decide)
    have := rdnGo_len l (pre ++ [a]) (by simp; omega) hg
    simp only [List.length_append, List.length_cons, List.length_nil] at this ⊢
    omega
theorem rdnCk_len {r : Rdn} (h : rdnCk r = 0) : 1 <= r.length /\ r.length <= 8 /\ rdnGo [] r = 0 := by
  unfold rdnCk at h
  by_cases h0 : r.length = 0
  . rw [if_pos h0] at h; cases h
  rw [if_neg h0] at h
  have := rdnGo_len r [] (by simp) h
  simp only [List.length_nil] at this
  exact ⟨by omega, by omega, h⟩
theorem parse_txt {d : Dn} (hc : chkD d = 0) (hl : (txt false d).length <= 4096) : parseM (txt false d) = .ok d := by
  obtain ⟨h1, h2⟩ := chk_parts d 0 (by omega) hc
  cases d with
  | nil => rfl
  | cons r ds =>
    have hr := rdnCk_len (h2 r (by simp))
    cases r with
    | nil => simp at hr
    | cons a rs =>
      rw [txt_tail] at hl ⊢
      have hne : avaT a ++ tailT rs ds ≠ [] := by unfold avaT; simp
      unfold parseM
      rw [if_neg (by omega), if_neg hne]
      simp only [List.length_cons] at h1 hr
      have := parM_text ((avaT a ++ tailT rs ds).length + 1) [] [] a rs ds (by simp only [List.length_nil]; omega) (by simp only [List.length_nil]; omega) hr.2.2 (fun r hr => by
        have h3 := h2 r (by simp [hr])
        exact ⟨h3, (rdnCk_len h3).2.1⟩) (by omega)
      rw [this]; simp
end Go.Proofs.Ytahpemfnhepgoaa
