/- DnAgain: letters' size makes no difference to a key. -/
import Derived.Test.YtahpemfnhepgoaaDnR
namespace Go.Proofs.Ytahpemfnhepgoaa
set_option linter.all false
set_option maxRecDepth 4000
open Go.RowKit

def upB (b : UInt8) : UInt8 := if 97 <= b.toNat /\ b.toNat <= 122 then UInt8.ofNat (b.toNat - 32) else b
def upM (s : List UInt8) : List UInt8 := s.map upB
def upN (n : Nat) : Nat := if 97 <= n /\ n <= 122 then n - 32 else n
theorem upB_toNat (c : UInt8) : (upB c).toNat = upN c.toNat := by
  unfold upB upN
  split
  . have := c.toNat_lt; simp [UInt8.toNat_ofNat']; omega
  . rfl
theorem upM_len (s : List UInt8) : (upM s).length = s.length := by simp [upM]
theorem up_all : ∀ c : Fin 256, lowN (upN c.val) = lowN c.val /\ isLet (upN c.val : Nat) = isLet (c.val : Nat) /\ isTc (upN c.val : Nat) = isTc (c.val : Nat) /\ inN (upN c.val) spB = inN c.val spB /\ inN (upN c.val) bdB = inN c.val bdB /\ halfN (upN c.val) = halfN c.val := by decide +kernel
theorem up_eqs (n m : Nat) (hm : m < 65 \/ 123 <= m \/ (91 <= m /\ m <= 96)) : upN n = m ↔ n = m := by unfold upN; split <;> omega
theorem low_up (c : UInt8) : lowB (upB c) = lowB c := UInt8.toNat_inj.1 (by rw [lowB_toNat, lowB_toNat, upB_toNat]; exact (up_all ⟨c.toNat, c.toNat_lt⟩).1)
theorem fold_up (s : List UInt8) : foldM (upM s) = foldM s := by unfold foldM upM; rw [List.map_map]; exact List.map_congr_left fun c _ => low_up c
theorem upB_eq {c d : UInt8} (hd : d.toNat < 65 \/ 123 <= d.toNat \/ (91 <= d.toNat /\ d.toNat <= 96)) : upB c = d ↔ c = d := by
  rw [<- UInt8.toNat_inj, ← UInt8.toNat_inj, upB_toNat]; exact up_eqs _ _ hd
theorem posB_up : ∀ s : List UInt8, posB 61 (upM s) = posB 61 s
  | [] => rfl
  | c :: s => by
    have ih := posB_up s
    have h := upB_eq (c := c) (d := 61) (.inl (by decide))
    unfold upM at *
    rw [List.map_cons, posB, posB, ih]
    by_cases hc : c = 61
    . rw [if_pos hc, if_pos (h.2 hc)]
    . rw [if_neg hc, if_neg (fun e => hc (h.1 e))]
theorem typeM_up (s : List UInt8) : typeM (upM s) = typeM s := by
  rw [<- typeM_fold (upM s), fold_up, typeM_fold]
theorem endB_up (s : List UInt8) : endB (upM s) = endB s := by
  cases s with
  | nil => rfl
  | cons c r =>
    have h1 := up_eqs c.toNat 44 (by omega)
    have h2 := up_eqs c.toNat 43 (by omega)
    simp only [upM, List.map_cons, endB, upB_toNat, h1, h2]
theorem hexM_up (a b : UInt8) : hexM (upB a) (upB b) = hexM a b := by
  have h1 := (up_all ⟨a.toNat, a.toNat_lt⟩).2.2.2.2.2
  have h2 := (up_all ⟨b.toNat, b.toNat_lt⟩).2.2.2.2.2
  simp only at h1 h2
  unfold hexM hexN
  rw [upB_toNat, upB_toNat, h1, h2]
theorem unitM_up (f : Bool) (s : List UInt8) : (unitM f s = none -> unitM f (upM s) = none) /\ ∀ x k bl, unitM f s = some (x, k, bl) -> ∃ x', unitM f (upM s) = some (x', k, bl) /\ lowB x' = lowB x := by
  cases s with
  | nil => exact ⟨fun h => h, fun x k bl h => by simp [unitM] at h⟩
  | cons c r =>
    have g1 := up_eqs c.toNat 92 (by omega)
    have g2 := up_eqs c.toNat 0 (by omega)
    have g3 := up_eqs c.toNat 32 (by omega)
    have g4 := up_eqs c.toNat 35 (by omega)
    have g5 := (up_all ⟨c.toNat, c.toNat_lt⟩).2.2.2.2.1
    simp only at g5
    simp only [upM, List.map_cons, unitM, upB_toNat, g1]
    by_cases h92 : c.toNat = 92
    . rw [if_pos h92, if_pos h92]
      cases r with
      | nil => exact ⟨fun h => h, fun x k bl h => by simp [escM] at h⟩
      | cons a r2 =>
        have g6 := (up_all ⟨a.toNat, a.toNat_lt⟩).2.2.2.1
        simp only at g6
        simp only [List.map_cons, escM, upB_toNat, g6]
        by_cases hs : inN a.toNat spB = true
        . rw [if_pos hs, if_pos hs]
          refine ⟨fun h => by simp at h, fun x k bl h => ?_⟩
          simp only [Option.some.injEq, Prod.mk.injEq] at h
          obtain ⟨rfl, rfl, rfl⟩ := h
          exact ⟨_, rfl, low_up _⟩
        . rw [if_neg hs, if_neg hs]
          cases r2 with
          | nil => exact ⟨fun h => h, fun x k bl h => by simp at h⟩
          | cons b r3 =>
            simp only [List.map_cons, List.head?_cons, Option.bind_some, hexM_up]
            exact ⟨fun h => h, fun x k bl h => ⟨x, h, rfl⟩⟩
    . rw [if_neg h92, if_neg h92]
      simp only [rawM, upB_toNat, g2, g3, g4, g5]
      by_cases hb : c.toNat = 0 \/ inN c.toNat bdB = true \/ (f = true /\ (c.toNat = 32 \/ c.toNat = 35))
      . rw [if_pos hb, if_pos hb]
        exact ⟨fun h => h, fun x k bl h => by simp at h⟩
      . rw [if_neg hb, if_neg hb]
        refine ⟨fun h => by simp at h, fun x k bl h => ?_⟩
        simp only [Option.some.injEq, Prod.mk.injEq] at h
        obtain ⟨rfl, rfl, rfl⟩ := h
        exact ⟨_, rfl, low_up _⟩
theorem upM_drop (s : List UInt8) (k : Nat) : (upM s).drop k = upM (s.drop k) := by simp [upM, List.map_drop]
theorem upM_take (s : List UInt8) (k : Nat) : (upM s).take k = upM (s.take k) := by simp [upM, List.map_take]
theorem valM_up : ∀ (n : Nat) (f : Bool) (s v r : List UInt8), valM n f s = some (v, r) -> ∃ v', valM n f (upM s) = some (v', upM r) /\ foldM v' = foldM v := by
  intro n
  induction n with
  | zero => intro f s v r h; simp [valM] at h; obtain ⟨rfl, rfl⟩ := h; exact ⟨[], rfl, rfl⟩
  | succ n ih =>
    intro f s v r h
    rw [valM] at h
    rw [valM, endB_up]
    by_cases he : endB s = true
    . rw [if_pos he] at h ⊢
      simp at h; obtain ⟨rfl, rfl⟩ := h; exact ⟨[], rfl, rfl⟩
    . rw [if_neg he] at h ⊢
      cases hu : unitM f s with
      | none => rw [hu] at h; cases h
      | some y =>
        obtain ⟨x, k, bl⟩ := y
        rw [hu] at h
        obtain ⟨x', hx, hl⟩ := (unitM_up f s).2 x k bl hu
        rw [hx]
        simp only at h ⊢
        rw [upM_drop, endB_up]
        by_cases hb : (bl && endB (s.drop k)) = true
        . rw [if_pos hb] at h; cases h
        . rw [if_neg hb] at h ⊢
          simp only [Option.map_eq_some_iff, Prod.mk.injEq, Prod.exists] at h
          obtain ⟨v1, r1, h1, rfl, rfl⟩ := h
          obtain ⟨v2, h2, h3⟩ := ih _ _ _ _ h1
          refine ⟨x' :: v2, by rw [h2]; rfl, ?_⟩
          unfold foldM at *
          rw [List.map_cons, List.map_cons, hl, h3]
def kf (a : List UInt8 × List UInt8) : List UInt8 × List UInt8 := (foldM a.1, foldM a.2)
theorem hasM_kf {a b : Rdn} (h : a.map kf = b.map kf) (s t : List UInt8) (hst : foldM s = foldM t) : hasM a s = hasM b t := by
  have e : ∀ (l : Rdn) (u : List UInt8), hasM l u = (l.map kf).any fun p => decide (p.1 = foldM u) := fun l u => by
    unfold hasM sameT; rw [List.any_map]; rfl
  rw [e, e, h, hst]
theorem parM_up : ∀ (n : Nat) (out out' : Dn) (now now' : Rdn) (s : List UInt8) (d : Dn), out.map (List.map kf) = out'.map (List.map kf) -> now.map kf = now'.map kf -> parD n out now s = .ok d -> ∃ d', parD n out' now' (upM s) = .ok d' /\ d.map (List.map kf) = d'.map (List.map kf) := by
  intro n
  induction n with
  | zero => intro out out' now now' s d _ _ h; simp [parD] at h
  | succ n ih =>
    intro out out' now now' s d ho hn h
    have hol : out'.length = out.length := by have := congrArg List.length ho; simpa using this.symm
    have hnl : now'.length = now.length := by have := congrArg List.length hn; simpa using this.symm
    rw [parD] at h
    rw [parD, posB_up, upM_len, upM_take, upM_drop, typeM_up, hol, hnl, ← hasM_kf hn (s.take (posB 61 s)) (upM (s.take (posB 61 s))) (fold_up _).symm]
    by_cases h1 : out.length = 32 \/ now.length = 8
    . rw [if_pos h1] at h; cases h
    rw [if_neg h1] at h ⊢
    by_cases h2 : posB 61 s = s.length \/ typeM (s.take (posB 61 s)) = false
    . rw [if_pos h2] at h; cases h
    rw [if_neg h2] at h ⊢
    by_cases h3 : hasM now (s.take (posB 61 s)) = true
    . rw [if_pos h3] at h; cases h
    rw [if_neg h3] at h ⊢
    generalize s.take (posB 61 s) = T at *
    cases hvm : valM (s.drop (posB 61 s + 1)).length true (s.drop (posB 61 s + 1)) with
    | none => rw [hvm] at h; cases h
    | some y =>
      obtain ⟨v, r⟩ := y
      rw [hvm] at h
      obtain ⟨v', hv, hf⟩ := valM_up _ _ _ _ _ hvm
      rw [upM_len, hv]
      have hn2 : (now ++ [(T, v)]).map kf = (now' ++ [(upM T, v')]).map kf := by
        rw [List.map_append, List.map_append, hn]
        simp only [List.map_cons, List.map_nil, kf, fold_up, hf]
      have ho2 : (out ++ [now ++ [(T, v)]]).map (List.map kf) = (out' ++ [now' ++ [(upM T, v')]]).map (List.map kf) := by
        rw [List.map_append, List.map_append, ho]
        simp only [List.map_cons, List.map_nil, hn2]
      cases r with
      | nil =>
        simp only [Except.ok.injEq] at h
        subst h
        exact ⟨_, rfl, ho2⟩
      | cons c r =>
        have g := up_eqs c.toNat 44 (by omega)
        simp only at h
        simp only [upM, List.map_cons, upB_toNat, g]
        by_cases hc : c.toNat = 44
        . rw [if_pos hc] at h ⊢
          exact ih _ _ _ _ _ _ ho2 rfl h
        . rw [if_neg hc] at h ⊢
          exact ih _ _ _ _ _ _ ho hn2 h
theorem parse_up {s : List UInt8} {d : Dn} (h : parseM s = .ok d) : ∃ d', parseM (upM s) = .ok d' /\ d.map (List.map kf) = d'.map (List.map kf) := by
  unfold parseM at *
  rw [upM_len]
  by_cases h1 : s.length > 4096
  . rw [if_pos h1] at h; cases h
  rw [if_neg h1] at h ⊢
  by_cases h2 : s = []
  . subst h2
    rw [if_pos rfl] at h
    simp only [Except.ok.injEq] at h
    subst h
    exact ⟨[], rfl, rfl⟩
  . rw [if_neg h2] at h
    rw [if_neg (by unfold upM; simpa using h2)]
    exact parM_up _ _ _ _ _ _ _ rfl rfl h
theorem wr_fold_len (v : List UInt8) : ∀ f, (wrGo f (foldM v)).length = (wrGo f v).length := by
  induction v with
  | nil => intro f; rfl
  | cons c r ih =>
    intro f
    have e : foldM (c :: r) = lowB c :: foldM r := rfl
    rw [e, wrGo, wrGo, List.length_append, List.length_append, ih false]
    have e2 : (foldM r).isEmpty = r.isEmpty := by cases r <;> rfl
    rw [e2]
    congr 1
    obtain ⟨h1, h2, h3, h4⟩ := low_es ⟨c.toNat, c.toNat_lt⟩
    simp only at h1 h2 h3 h4
    unfold wrU
    rw [lowB_toNat, h1]
    simp only [h2, h3, h4]
    split
    . rfl
    . split <;> rfl
theorem fA_kf (a : List UInt8 × List UInt8) : (fA false a).length = (fA false (kf a)).length := by
  have h := wr_fold_len a.2 true
  rw [<- wrM_go, ← wrM_go] at h
  simp only [fA, avaT, kf, Bool.false_eq_true, if_false, List.length_append, foldM_len, h]
theorem join_congr (sep : List UInt8) {L L' : List (List UInt8)} (h : L.map List.length = L'.map List.length) : (Lib.join L sep).length = (Lib.join L' sep).length := by
  have hl : L.length = L'.length := by have := congrArg List.length h; simpa using this
  have hs : ∀ X : List (List UInt8), (X.map fun x => x.length + sep.length) = (X.map List.length).map (· + sep.length) := fun X => by rw [List.map_map]; rfl
  cases L with
  | nil =>
    cases L' with
    | nil => rfl
    | cons y r => simp at hl
  | cons x l =>
    cases L' with
    | nil => simp at hl
    | cons y r =>
      have h1 := join_length sep (x :: l) (by simp)
      have h2 := join_length sep (y :: r) (by simp)
      rw [hs, h] at h1
      rw [hs] at h2
      omega
theorem fR_kf (r : Rdn) : (fR false r).length = (fR false (r.map kf)).length := by
  unfold fR
  simp only [Bool.false_eq_true, if_false]
  refine join_congr _ ?_
  rw [List.map_map, List.map_map, List.map_map]
  exact List.map_congr_left fun a _ => fA_kf a
theorem txt_kf {d d' : Dn} (h : d.map (List.map kf) = d'.map (List.map kf)) : (txt false d).length = (txt false d').length := by
  have e : ∀ x : Dn, (txt false x).length = (txt false (x.map (List.map kf))).length := fun x => by
    unfold txt
    refine join_congr _ ?_
    rw [List.map_map, List.map_map, List.map_map]
    exact List.map_congr_left fun r _ => fR_kf r
  rw [e d, e d', h]
theorem key_kf {d d' : Dn} (h : d.map (List.map kf) = d'.map (List.map kf)) : txt true d = txt true d' := by
  have e1 : ∀ a, fA true a = fA true (kf a) := fun a => by
    have hp : prepM (foldM a.2) = prepM a.2 := by unfold prepM; rw [foldM_fold]
    simp only [fA, if_true, keyA, kf, foldM_fold, hp]
  have e2 : ∀ r : Rdn, fR true r = fR true (r.map kf) := fun r => by
    unfold fR
    simp only [if_true]
    rw [List.map_map]
    congr 2
    exact List.map_congr_left fun a _ => e1 a
  have e : ∀ x : Dn, txt true x = txt true (x.map (List.map kf)) := fun x => by
    unfold txt
    rw [List.map_map]
    congr 1
    exact List.map_congr_left fun r _ => e2 r
  rw [e d, e d', h]
theorem key_up {s : List UInt8} {d : Dn} (h : parseM s = .ok d) (hl : (txt false d).length <= 4096) : keyMs (upM s) = (txt true d, 0) := by
  obtain ⟨d', h1, h2⟩ := parse_up h
  have hc := (parse_ok h1).chk
  unfold keyMs
  rw [h1]
  simp only
  rw [norm_of hc (by rw [<- txt_kf h2]; exact hl), ← key_kf h2]
def upTo (s : List UInt8) (i : Nat) : List UInt8 := upM (s.take i) ++ s.drop i
theorem upTo_len (s : List UInt8) (i : Nat) : (upTo s i).length = s.length := by simp [upTo, upM]; omega
theorem upTo_zero (s : List UInt8) : upTo s 0 = s := by simp [upTo, upM]
theorem upTo_end (s : List UInt8) : upTo s s.length = upM s := by simp [upTo]
theorem upTo_get {s : List UInt8} {i : Nat} (h : i < s.length) : byteAt (upTo s i) i = byteAt s i := by
  have hl : (upM (s.take i)).length = i := by rw [upM_len, List.length_take]; omega
  unfold byteAt upTo
  rw [List.getElem?_append_right (by omega), hl]
  simp
theorem upTo_set {s : List UInt8} {i : Nat} (h : i < s.length) : (upTo s i).set i (upB (s[i]'h)) = upTo s (i + 1) := by
  have hl : (upM (s.take i)).length = i := by rw [upM_len, List.length_take]; omega
  unfold upTo
  rw [List.set_append_right _ _ (by omega), hl, Nat.sub_self, List.drop_eq_getElem_cons h, List.set_cons_zero, List.take_succ_eq_append_getElem h]
  simp only [upM, List.map_append, List.map_cons, List.map_nil, List.append_assoc, List.cons_append, List.nil_append]
theorem upTo_same {s : List UInt8} {i : Nat} (h : i < s.length) (e : upB (s[i]'h) = s[i]'h) : upTo s i = upTo s (i + 1) := by
  rw [<- upTo_set h, e]
  have hl : (upM (s.take i)).length = i := by rw [upM_len, List.length_take]; omega
  unfold upTo
  rw [List.set_append_right _ _ (by omega), hl, Nat.sub_self, List.drop_eq_getElem_cons h, List.set_cons_zero]
theorem upB_up {s : List UInt8} {i : Nat} (h : i < s.length) (hc : 97 <= byteAt s i /\ byteAt s i <= 122) : upB (s[i]'h) = UInt8.ofNat (byteAt s i - 32) := by
  rw [byteAt_eq h] at hc ⊢; unfold upB; rw [if_pos hc]
theorem upB_no {s : List UInt8} {i : Nat} (h : i < s.length) (hc : ¬ (97 <= byteAt s i /\ byteAt s i <= 122)) : upB (s[i]'h) = s[i]'h := by
  rw [byteAt_eq h] at hc; unfold upB; rw [if_neg hc]
set_option maxRecDepth 8000 in
set_option maxHeartbeats 1000000 in
theorem law_DnAgain (s : List UInt8) (hs : s.length <= 10000000) (h : Heap) : Spec Try.prog 7 [str s] h [] (fun u _ _ => u = .bool true) := by
  have s1 := dn_Parse s hs
  cases hm : parseM s with
  | error e =>
    have he := parse_err hm
    rw [hm] at s1
    refine Spec.enter Try.func7 rfl rfl ?_; intro w0
    repeat' (first | (show G _ (.ops .seq _ (⟨some _, .call { callee := .value (.func 9), args := _, argTypes := _ }, _, _, _, none⟩ :: _) :: _) _ _ _; refine G.call callParse rfl rfl (s1 _) Ze ?_; rintro _ h4 H4 ⟨hp, rfl⟩ hle4; (obtain rfl := hp)) | (show G _ (.ops .seq _ (⟨some _, .call { callee := .value (.func 11), args := _, argTypes := _ }, _, _, _, none⟩ :: _) :: _) _ _ _; refine G.call callAwake9 rfl rfl (law09_awake _) Ze ?_; rintro _ h7 H7 ⟨rfl, rfl⟩ hle7) | (refine G.atCode ?_; first | refine G.seq ?_ | refine G.region ?_ | refine G.block ?_ | refine G.skip ?_ | refine G.exit rfl ?_ | refine G.ret ?_ | (refine G.cond rfl ?_ ?_ <;> intro hc <;> (try simp only [tests, reduceCtorEq] at hc) <;> (try exact Zf))) | refine G.endOps ?_ | refine G.endStill ?_ | refine G.endHeld ?_ | refine G.back ?_ | refine G.endBlk ?_ | (refine G.atGd ?_; first | refine G.guardYes rfl rfl ?_ | refine G.guardNoS rfl rfl rfl ?_ | refine G.guardU rfl rfl rfl ?_ | (refine G.guardS rfl rfl rfl ?_ ?_ <;> intro hc <;> (try simp only [tests, reduceCtorEq] at hc) <;> (try exact Zf)) | refine G.guardNo rfl rfl ?_ (by rintro i ⟨⟩; rfl) | (refine G.guard rfl rfl ?_ ?_ (by rintro i ⟨⟩; rfl) <;> intro hc <;> (try simp only [tests, reduceCtorEq] at hc) <;> (try exact Zf))) | (refine G.atBin ?_; first | (refine G.atAdd ?_; first | refine G.arith rfl rfl rfl rfl rfl Zi ?_ | refine G.catStr rfl rfl rfl Zo ?_ | refine G.op rfl rfl ?_) | (refine G.atSub ?_; first | refine G.arith rfl rfl rfl rfl rfl Zi ?_ | refine G.op rfl rfl ?_) | (refine G.atEql ?_; first | refine G.op rfl rfl ?_ | refine G.eqStr0 rfl rfl rfl ?_ | refine G.eqStr rfl rfl rfl ?_ | refine G.eqPtr rfl rfl (tyy rfl) rfl ?_ | refine G.eqBool rfl rfl (tyy rfl) rfl ?_) | (refine G.atNeq ?_; first | refine G.op rfl rfl ?_ | refine G.neStr0 rfl rfl rfl ?_ | refine G.neStr rfl rfl rfl ?_ | refine G.nePtr rfl rfl (tyy rfl) rfl ?_ | refine G.neBool rfl rfl (tyy rfl) rfl ?_) | refine G.op rfl rfl ?_ ) | refine G.op rfl rfl ?_ | (refine G.atLen ?_; first | refine G.lenStr rfl (tyy rfl) rfl ?_ | refine G.lenSlice rfl (tyy rfl) rfl ?_ | refine G.lenRowB rfl (tyy rfl) Za rfl ?_ | refine G.lenRowS rfl (tyy rfl) Za rfl ?_ | refine G.lenRow rfl (tyy rfl) Za rfl ?_ | refine G.lenImmB rfl (tyy rfl) Zl rfl ?_ | refine G.lenImmI rfl (tyy rfl) Zl rfl ?_ | refine G.lenImmS rfl (tyy rfl) Zl rfl ?_ | refine G.lenImm rfl (tyy rfl) Zl rfl ?_) | (refine G.atLoad ?_; first | refine G.loadOwn1 rfl (tyy rfl) rfl rfl Za rfl rfl ?_ | refine G.loadOwnA rfl (tyy rfl) rfl rfl Za rfl rfl ?_ | refine G.loadImm1 rfl (tyy rfl) rfl rfl Zp rfl ?_ | refine G.loadImmA rfl (tyy rfl) rfl rfl Zp Zp rfl ?_ | refine G.loadRowS rfl (tyy rfl) Zp Za Zo rfl ?_ | (refine G.loadRowB rfl (tyy rfl) Zp Za Zo rfl ?_; intro _)) | (refine G.atSto ?_; refine G.storeOwn rfl rfl (tyy rfl) Za rfl rfl rfl rfl ?_) | (refine G.atIdx ?_; first | (refine G.idxImmI rfl rfl (tyy rfl) (tyy rfl) Zl Zp Zj rfl Zo ?_; intro _ _ _) | (refine G.idxImmS rfl rfl (tyy rfl) (tyy rfl) Zl Zj rfl Zo ?_; intro _ _) | (refine G.idxImmB rfl rfl (tyy rfl) (tyy rfl) Zl Zj rfl Zo ?_; intro _ _ _) | (refine G.idxRow' rfl rfl (tyy rfl) (tyy rfl) Za Zj rfl Zo ?_; intro _ _) | (refine G.idxImmN rfl rfl (tyy rfl) (tyy rfl) Zl Zj rfl Zo ?_; intro _ _ _ _ _)) | (refine G.atConv ?_; first | refine G.conv rfl (tyy rfl) (tyy rfl) rfl Zi ?_ | (refine G.convBytes rfl (tyy rfl) (tyy rfl) (tyy rfl) rfl Zo ?_; intro _) | refine G.convStr rfl (tyy rfl) (tyy rfl) (tyy rfl) Za rfl ?_ | refine G.convStrBlk1 rfl (tyy rfl) (tyy rfl) (tyy rfl) Za Zo rfl ?_ | refine G.convStrBlk2 rfl (tyy rfl) (tyy rfl) (tyy rfl) Za Zo Zo rfl ?_ | (refine G.convW rfl (tyy rfl) (tyy rfl) rfl ?_; intro hcw; (try simp only [inR] at hcw))) )
    all_goals first | (exfalso; omega) | exact G.done1 rfl rfl [] (SubH.nil _) (by solve | rfl | simp) | (exfalso; simp_all)
  | ok d =>
    have hok := parse_ok hm
    have hc := hok.chk
    have hw := hok.w
    rw [hm] at s1
    by_cases hl : (txt false d).length <= 4096
    . have hpo := print_of hc hl
      have hpt := parse_txt hc hl
      have hnn := norm_of hc hl
      have hku := key_up hm hl
      have s2 := fun v h hv => dn_Print d v hw h hv
      have s3 := dn_Parse (txt false d) (by omega)
      have s4 := fun v h hv => dn_Norm d v hw h hv
      have s5 := dn_Key (upM s) (by rw [upM_len]; exact hs)
      rw [hpo] at s2
      rw [hpt] at s3
      rw [hnn] at s4
      rw [hku] at s5
      simp only at s2 s4 s5
      generalize txt false d = T at *
      generalize txt true d = K at *
      refine Spec.enter Try.func7 rfl rfl ?_; intro w0
      repeat' (first | (show G _ (.ops .seq _ (⟨some _, .call { callee := .value (.func 11), args := _, argTypes := _ }, _, _, _, none⟩ :: _) :: _) _ _ _; refine G.call callAwake9 rfl rfl (law09_awake _) Ze ?_; rintro _ h7 H7 ⟨rfl, rfl⟩ hle7) | (show G _ (.ops .seq _ (⟨some _, .call { callee := .value (.func 9), args := _, argTypes := _ }, _, _, _, none⟩ :: _) :: _) _ _ _; refine G.call callParse rfl rfl (s1 _) Ze ?_; rintro _ h4 H4 ⟨⟨dv, rfl, hdv⟩, rfl⟩ hle4) | (show G _ (.ops .seq _ (⟨some _, .call { callee := .value (.func 16), args := _, argTypes := _ }, _, _, _, none⟩ :: _) :: _) _ _ _; refine G.call callPrint rfl rfl (s2 dv _ (hdv.mono (by solve | repeat first | assumption | exact Zr _ | refine Zq ?_ Zp))) Ze ?_; rintro _ h3 H3 ⟨rfl, rfl⟩ hle3) | (show G _ (.ops .seq _ (⟨some _, .call { callee := .value (.func 9), args := _, argTypes := _ }, _, _, _, none⟩ :: _) :: _) _ _ _; refine G.call callParse rfl rfl (s3 _) Ze ?_; rintro _ h5 H5 ⟨⟨xv, rfl, hxv⟩, rfl⟩ hle5) | (show G _ (.ops .seq _ (⟨some _, .call { callee := .value (.func 18), args := _, argTypes := _ }, _, _, _, none⟩ :: _) :: _) _ _ _; refine G.call callNorm rfl rfl (s4 dv _ (hdv.mono (by solve | repeat first | assumption | exact Zr _ | refine Zq ?_ Zp))) Ze ?_; rintro _ h6 H6 ⟨rfl, rfl⟩ hle6) | (refine G.atCode ?_; refine G.stopLoop ?_) | (refine G.atCode ?_; first | refine G.seq ?_ | refine G.region ?_ | refine G.block ?_ | refine G.skip ?_ | refine G.exit rfl ?_ | refine G.ret ?_ | (refine G.cond rfl ?_ ?_ <;> intro hc <;> (try simp only [tests, reduceCtorEq] at hc) <;> (try exact Zf))) | refine G.endOps ?_ | refine G.endStill ?_ | refine G.endHeld ?_ | refine G.back ?_ | refine G.endBlk ?_ | (refine G.atGd ?_; first | refine G.guardYes rfl rfl ?_ | refine G.guardNoS rfl rfl rfl ?_ | refine G.guardU rfl rfl rfl ?_ | (refine G.guardS rfl rfl rfl ?_ ?_ <;> intro hc <;> (try simp only [tests, reduceCtorEq] at hc) <;> (try exact Zf)) | refine G.guardNo rfl rfl ?_ (by rintro i ⟨⟩; rfl) | (refine G.guard rfl rfl ?_ ?_ (by rintro i ⟨⟩; rfl) <;> intro hc <;> (try simp only [tests, reduceCtorEq] at hc) <;> (try exact Zf))) | (refine G.atBin ?_; first | (refine G.atAdd ?_; first | refine G.arith rfl rfl rfl rfl rfl Zi ?_ | refine G.catStr rfl rfl rfl Zo ?_ | refine G.op rfl rfl ?_) | (refine G.atSub ?_; first | refine G.arith rfl rfl rfl rfl rfl Zi ?_ | refine G.op rfl rfl ?_) | (refine G.atEql ?_; first | refine G.op rfl rfl ?_ | refine G.eqStr0 rfl rfl rfl ?_ | refine G.eqStr rfl rfl rfl ?_ | refine G.eqPtr rfl rfl (tyy rfl) rfl ?_ | refine G.eqBool rfl rfl (tyy rfl) rfl ?_) | (refine G.atNeq ?_; first | refine G.op rfl rfl ?_ | refine G.neStr0 rfl rfl rfl ?_ | refine G.neStr rfl rfl rfl ?_ | refine G.nePtr rfl rfl (tyy rfl) rfl ?_ | refine G.neBool rfl rfl (tyy rfl) rfl ?_) | refine G.op rfl rfl ?_ ) | refine G.op rfl rfl ?_ | (refine G.atLen ?_; first | refine G.lenStr rfl (tyy rfl) rfl ?_ | refine G.lenSlice rfl (tyy rfl) rfl ?_ | refine G.lenRowB rfl (tyy rfl) Za rfl ?_ | refine G.lenRowS rfl (tyy rfl) Za rfl ?_ | refine G.lenRow rfl (tyy rfl) Za rfl ?_ | refine G.lenImmB rfl (tyy rfl) Zl rfl ?_ | refine G.lenImmI rfl (tyy rfl) Zl rfl ?_ | refine G.lenImmS rfl (tyy rfl) Zl rfl ?_ | refine G.lenImm rfl (tyy rfl) Zl rfl ?_) | (refine G.atLoad ?_; first | refine G.loadOwn1 rfl (tyy rfl) rfl rfl Za rfl rfl ?_ | refine G.loadOwnA rfl (tyy rfl) rfl rfl Za rfl rfl ?_ | refine G.loadImm1 rfl (tyy rfl) rfl rfl Zp rfl ?_ | refine G.loadImmA rfl (tyy rfl) rfl rfl Zp Zp rfl ?_ | refine G.loadRowS rfl (tyy rfl) Zp Za Zo rfl ?_ | (refine G.loadRowB rfl (tyy rfl) Zp Za Zo rfl ?_; intro _)) | (refine G.atSto ?_; refine G.storeOwn rfl rfl (tyy rfl) Za rfl rfl rfl rfl ?_) | (refine G.atIdx ?_; first | (refine G.idxImmI rfl rfl (tyy rfl) (tyy rfl) Zl Zp Zj rfl Zo ?_; intro _ _ _) | (refine G.idxImmS rfl rfl (tyy rfl) (tyy rfl) Zl Zj rfl Zo ?_; intro _ _) | (refine G.idxImmB rfl rfl (tyy rfl) (tyy rfl) Zl Zj rfl Zo ?_; intro _ _ _) | (refine G.idxRow' rfl rfl (tyy rfl) (tyy rfl) Za Zj rfl Zo ?_; intro _ _) | (refine G.idxImmN rfl rfl (tyy rfl) (tyy rfl) Zl Zj rfl Zo ?_; intro _ _ _ _ _)) | (refine G.atConv ?_; first | refine G.conv rfl (tyy rfl) (tyy rfl) rfl Zi ?_ | (refine G.convBytes rfl (tyy rfl) (tyy rfl) (tyy rfl) rfl Zo ?_; intro _) | refine G.convStr rfl (tyy rfl) (tyy rfl) (tyy rfl) Za rfl ?_ | refine G.convStrBlk1 rfl (tyy rfl) (tyy rfl) (tyy rfl) Za Zo rfl ?_ | refine G.convStrBlk2 rfl (tyy rfl) (tyy rfl) (tyy rfl) Za Zo Zo rfl ?_ | (refine G.convW rfl (tyy rfl) (tyy rfl) rfl ?_; intro hcw; (try simp only [inR] at hcw))) )
      rename_i lv
      refine G.go ?_
      refine G.loop (σ := Nat) (fun i => [(49, .int .i64 i), (48, .int .i64 s.length), (47, lv), (11, lv), (3, dv), (6, .int .i64 0), (7, xv), (8, .int .i64 0), (9, str K)])
        (fun i => [.row lv 5 1 (bytesR (upTo s i))]) (fun i _ => i <= s.length) (fun i => s.length - i) 0 ⟨rfl, rfl, rfl, rfl, rfl, rfl, rfl, rfl, rfl, trivial⟩ (by rw [upTo_zero]; exact Zu) (Nat.zero_le _) ?_
      rintro i h1 hle1 hi
      have hfl := upTo_len s i
      by_cases hlt : i < s.length
      . have hat := upTo_get hlt
        have hset := upTo_set hlt
        have hsame := upTo_same hlt
        have hup := fun hc => upB_up hlt hc
        have hno := fun hc => upB_no hlt hc
        have hb := byteAt_lt s i
        generalize upTo s i = B at *
        repeat' (first | (refine G.atLoad ?_; refine G.loadRowB rfl (tyy rfl) Zp Za (by omega) rfl ?_; intro _; rw [hat]) | (refine G.atIdx ?_; refine G.idxRow' rfl rfl (tyy rfl) (tyy rfl) Za Zj rfl (by rw [bytesR_length]; omega) ?_; intro _ _) | (refine G.atSto ?_; refine G.storeRow rfl rfl (tyy rfl) Zp Za rfl rfl rfl (by rw [bytesR_length]; omega) ?_) | (refine G.atCode ?_; first | refine G.seq ?_ | refine G.region ?_ | refine G.block ?_ | refine G.skip ?_ | refine G.exit rfl ?_ | refine G.ret ?_ | (refine G.cond rfl ?_ ?_ <;> intro hc <;> (try simp only [tests, reduceCtorEq] at hc) <;> (try exact Zf))) | refine G.endOps ?_ | refine G.endStill ?_ | refine G.endHeld ?_ | refine G.back ?_ | refine G.endBlk ?_ | (refine G.atGd ?_; first | refine G.guardYes rfl rfl ?_ | refine G.guardNoS rfl rfl rfl ?_ | refine G.guardU rfl rfl rfl ?_ | (refine G.guardS rfl rfl rfl ?_ ?_ <;> intro hc <;> (try simp only [tests, reduceCtorEq] at hc) <;> (try exact Zf)) | refine G.guardNo rfl rfl ?_ (by rintro i ⟨⟩; rfl) | (refine G.guard rfl rfl ?_ ?_ (by rintro i ⟨⟩; rfl) <;> intro hc <;> (try simp only [tests, reduceCtorEq] at hc) <;> (try exact Zf))) | (refine G.atBin ?_; first | (refine G.atAdd ?_; first | refine G.arith rfl rfl rfl rfl rfl Zi ?_ | refine G.catStr rfl rfl rfl Zo ?_ | refine G.op rfl rfl ?_) | (refine G.atSub ?_; first | refine G.arith rfl rfl rfl rfl rfl Zi ?_ | refine G.op rfl rfl ?_) | (refine G.atEql ?_; first | refine G.op rfl rfl ?_ | refine G.eqStr0 rfl rfl rfl ?_ | refine G.eqStr rfl rfl rfl ?_ | refine G.eqPtr rfl rfl (tyy rfl) rfl ?_ | refine G.eqBool rfl rfl (tyy rfl) rfl ?_) | (refine G.atNeq ?_; first | refine G.op rfl rfl ?_ | refine G.neStr0 rfl rfl rfl ?_ | refine G.neStr rfl rfl rfl ?_ | refine G.nePtr rfl rfl (tyy rfl) rfl ?_ | refine G.neBool rfl rfl (tyy rfl) rfl ?_) | refine G.op rfl rfl ?_ ) | refine G.op rfl rfl ?_ | (refine G.atLen ?_; first | refine G.lenStr rfl (tyy rfl) rfl ?_ | refine G.lenSlice rfl (tyy rfl) rfl ?_ | refine G.lenRowB rfl (tyy rfl) Za rfl ?_ | refine G.lenRowS rfl (tyy rfl) Za rfl ?_ | refine G.lenRow rfl (tyy rfl) Za rfl ?_ | refine G.lenImmB rfl (tyy rfl) Zl rfl ?_ | refine G.lenImmI rfl (tyy rfl) Zl rfl ?_ | refine G.lenImmS rfl (tyy rfl) Zl rfl ?_ | refine G.lenImm rfl (tyy rfl) Zl rfl ?_) | (refine G.atLoad ?_; first | refine G.loadOwn1 rfl (tyy rfl) rfl rfl Za rfl rfl ?_ | refine G.loadOwnA rfl (tyy rfl) rfl rfl Za rfl rfl ?_ | refine G.loadImm1 rfl (tyy rfl) rfl rfl Zp rfl ?_ | refine G.loadImmA rfl (tyy rfl) rfl rfl Zp Zp rfl ?_ | refine G.loadRowS rfl (tyy rfl) Zp Za Zo rfl ?_ | (refine G.loadRowB rfl (tyy rfl) Zp Za Zo rfl ?_; intro _)) | (refine G.atSto ?_; refine G.storeOwn rfl rfl (tyy rfl) Za rfl rfl rfl rfl ?_) | (refine G.atIdx ?_; first | (refine G.idxImmI rfl rfl (tyy rfl) (tyy rfl) Zl Zp Zj rfl Zo ?_; intro _ _ _) | (refine G.idxImmS rfl rfl (tyy rfl) (tyy rfl) Zl Zj rfl Zo ?_; intro _ _) | (refine G.idxImmB rfl rfl (tyy rfl) (tyy rfl) Zl Zj rfl Zo ?_; intro _ _ _) | (refine G.idxRow' rfl rfl (tyy rfl) (tyy rfl) Za Zj rfl Zo ?_; intro _ _) | (refine G.idxImmN rfl rfl (tyy rfl) (tyy rfl) Zl Zj rfl Zo ?_; intro _ _ _ _ _)) | (refine G.atConv ?_; first | refine G.conv rfl (tyy rfl) (tyy rfl) rfl Zi ?_ | (refine G.convBytes rfl (tyy rfl) (tyy rfl) (tyy rfl) rfl Zo ?_; intro _) | refine G.convStr rfl (tyy rfl) (tyy rfl) (tyy rfl) Za rfl ?_ | refine G.convStrBlk1 rfl (tyy rfl) (tyy rfl) (tyy rfl) Za Zo rfl ?_ | refine G.convStrBlk2 rfl (tyy rfl) (tyy rfl) (tyy rfl) Za Zo Zo rfl ?_ | (refine G.convW rfl (tyy rfl) (tyy rfl) rfl ?_; intro hcw; (try simp only [inR] at hcw))) )
        . rw [show ((byteAt s i : Nat) : Int) - 32 = ((byteAt s i - 32 : Nat) : Int) by omega, bytesR_setO _ _ _ (by omega), ← hup (by omega), hset]
          exact G.again (i + 1) ⟨sint (by simp), rfl, rfl, rfl, rfl, rfl, rfl, rfl, rfl, trivial⟩ Zu (by omega) (Heap.le_refl _) (by omega)
        all_goals (
          rw [hsame (hno (by omega))]
          exact G.again (i + 1) ⟨sint (by simp), rfl, rfl, rfl, rfl, rfl, rfl, rfl, rfl, trivial⟩ Zu (by omega) (Heap.le_refl _) (by omega))
      . obtain rfl : i = s.length := by omega
        rw [upTo_end]
        repeat' (first | (show G _ (.ops .seq _ (⟨some _, .call { callee := .value (.func 20), args := _, argTypes := _ }, _, _, _, none⟩ :: _) :: _) _ _ _; refine G.call callKey9 rfl rfl (s5 _) Ze ?_; rintro _ h8 H8 ⟨rfl, rfl⟩ hle8) | (show G _ (.ops .seq _ (⟨some _, .call { callee := .value (.func 12), args := _, argTypes := _ }, _, _, _, none⟩ :: _) :: _) _ _ _; refine G.call callSame9 rfl rfl (ref09_Same d xv dv _ (hxv.mono (by solve | repeat first | assumption | exact Zr _ | refine Zq ?_ Zp)) (hdv.mono (by solve | repeat first | assumption | exact Zr _ | refine Zq ?_ Zp))) Ze ?_; rintro _ h9 H9 ⟨rfl, rfl⟩ hle9) | (refine G.atCode ?_; first | refine G.seq ?_ | refine G.region ?_ | refine G.block ?_ | refine G.skip ?_ | refine G.exit rfl ?_ | refine G.ret ?_ | (refine G.cond rfl ?_ ?_ <;> intro hc <;> (try simp only [tests, reduceCtorEq] at hc) <;> (try exact Zf))) | refine G.endOps ?_ | refine G.endStill ?_ | refine G.endHeld ?_ | refine G.back ?_ | refine G.endBlk ?_ | (refine G.atGd ?_; first | refine G.guardYes rfl rfl ?_ | refine G.guardNoS rfl rfl rfl ?_ | refine G.guardU rfl rfl rfl ?_ | (refine G.guardS rfl rfl rfl ?_ ?_ <;> intro hc <;> (try simp only [tests, reduceCtorEq] at hc) <;> (try exact Zf)) | refine G.guardNo rfl rfl ?_ (by rintro i ⟨⟩; rfl) | (refine G.guard rfl rfl ?_ ?_ (by rintro i ⟨⟩; rfl) <;> intro hc <;> (try simp only [tests, reduceCtorEq] at hc) <;> (try exact Zf))) | (refine G.atBin ?_; first | (refine G.atAdd ?_; first | refine G.arith rfl rfl rfl rfl rfl Zi ?_ | refine G.catStr rfl rfl rfl Zo ?_ | refine G.op rfl rfl ?_) | (refine G.atSub ?_; first | refine G.arith rfl rfl rfl rfl rfl Zi ?_ | refine G.op rfl rfl ?_) | (refine G.atEql ?_; first | refine G.op rfl rfl ?_ | refine G.eqStr0 rfl rfl rfl ?_ | refine G.eqStr rfl rfl rfl ?_ | refine G.eqPtr rfl rfl (tyy rfl) rfl ?_ | refine G.eqBool rfl rfl (tyy rfl) rfl ?_) | (refine G.atNeq ?_; first | refine G.op rfl rfl ?_ | refine G.neStr0 rfl rfl rfl ?_ | refine G.neStr rfl rfl rfl ?_ | refine G.nePtr rfl rfl (tyy rfl) rfl ?_ | refine G.neBool rfl rfl (tyy rfl) rfl ?_) | refine G.op rfl rfl ?_ ) | refine G.op rfl rfl ?_ | (refine G.atLen ?_; first | refine G.lenStr rfl (tyy rfl) rfl ?_ | refine G.lenSlice rfl (tyy rfl) rfl ?_ | refine G.lenRowB rfl (tyy rfl) Za rfl ?_ | refine G.lenRowS rfl (tyy rfl) Za rfl ?_ | refine G.lenRow rfl (tyy rfl) Za rfl ?_ | refine G.lenImmB rfl (tyy rfl) Zl rfl ?_ | refine G.lenImmI rfl (tyy rfl) Zl rfl ?_ | refine G.lenImmS rfl (tyy rfl) Zl rfl ?_ | refine G.lenImm rfl (tyy rfl) Zl rfl ?_) | (refine G.atLoad ?_; first | refine G.loadOwn1 rfl (tyy rfl) rfl rfl Za rfl rfl ?_ | refine G.loadOwnA rfl (tyy rfl) rfl rfl Za rfl rfl ?_ | refine G.loadImm1 rfl (tyy rfl) rfl rfl Zp rfl ?_ | refine G.loadImmA rfl (tyy rfl) rfl rfl Zp Zp rfl ?_ | refine G.loadRowS rfl (tyy rfl) Zp Za Zo rfl ?_ | (refine G.loadRowB rfl (tyy rfl) Zp Za Zo rfl ?_; intro _)) | (refine G.atSto ?_; refine G.storeOwn rfl rfl (tyy rfl) Za rfl rfl rfl rfl ?_) | (refine G.atIdx ?_; first | (refine G.idxImmI rfl rfl (tyy rfl) (tyy rfl) Zl Zp Zj rfl Zo ?_; intro _ _ _) | (refine G.idxImmS rfl rfl (tyy rfl) (tyy rfl) Zl Zj rfl Zo ?_; intro _ _) | (refine G.idxImmB rfl rfl (tyy rfl) (tyy rfl) Zl Zj rfl Zo ?_; intro _ _ _) | (refine G.idxRow' rfl rfl (tyy rfl) (tyy rfl) Za Zj rfl Zo ?_; intro _ _) | (refine G.idxImmN rfl rfl (tyy rfl) (tyy rfl) Zl Zj rfl Zo ?_; intro _ _ _ _ _)) | (refine G.atConv ?_; first | refine G.conv rfl (tyy rfl) (tyy rfl) rfl Zi ?_ | (refine G.convBytes rfl (tyy rfl) (tyy rfl) (tyy rfl) rfl Zo ?_; intro _) | refine G.convStr rfl (tyy rfl) (tyy rfl) (tyy rfl) Za rfl ?_ | refine G.convStrBlk1 rfl (tyy rfl) (tyy rfl) (tyy rfl) Za Zo rfl ?_ | refine G.convStrBlk2 rfl (tyy rfl) (tyy rfl) (tyy rfl) Za Zo Zo rfl ?_ | (refine G.convW rfl (tyy rfl) (tyy rfl) rfl ?_; intro hcw; (try simp only [inR] at hcw))) )
        all_goals first | (exfalso; omega) | exact G.done1 rfl rfl [] (SubH.nil _) (by solve | rfl | simp) | (exfalso; simp_all)
    . have hpo : printM d = ([], 5) := by rw [printM_eq hc, if_pos (by omega)]
      have s2 := fun v h hv => dn_Print d v hw h hv
      rw [hpo] at s2
      simp only at s2
      refine Spec.enter Try.func7 rfl rfl ?_; intro w0
      repeat' (first | (show G _ (.ops .seq _ (⟨some _, .call { callee := .value (.func 11), args := _, argTypes := _ }, _, _, _, none⟩ :: _) :: _) _ _ _; refine G.call callAwake9 rfl rfl (law09_awake _) Ze ?_; rintro _ h7 H7 ⟨rfl, rfl⟩ hle7) | (show G _ (.ops .seq _ (⟨some _, .call { callee := .value (.func 9), args := _, argTypes := _ }, _, _, _, none⟩ :: _) :: _) _ _ _; refine G.call callParse rfl rfl (s1 _) Ze ?_; rintro _ h4 H4 ⟨⟨dv, rfl, hdv⟩, rfl⟩ hle4) | (show G _ (.ops .seq _ (⟨some _, .call { callee := .value (.func 16), args := _, argTypes := _ }, _, _, _, none⟩ :: _) :: _) _ _ _; refine G.call callPrint rfl rfl (s2 dv _ (hdv.mono (by solve | repeat first | assumption | exact Zr _ | refine Zq ?_ Zp))) Ze ?_; rintro _ h3 H3 ⟨rfl, rfl⟩ hle3) | (refine G.atCode ?_; first | refine G.seq ?_ | refine G.region ?_ | refine G.block ?_ | refine G.skip ?_ | refine G.exit rfl ?_ | refine G.ret ?_ | (refine G.cond rfl ?_ ?_ <;> intro hc <;> (try simp only [tests, reduceCtorEq] at hc) <;> (try exact Zf))) | refine G.endOps ?_ | refine G.endStill ?_ | refine G.endHeld ?_ | refine G.back ?_ | refine G.endBlk ?_ | (refine G.atGd ?_; first | refine G.guardYes rfl rfl ?_ | refine G.guardNoS rfl rfl rfl ?_ | refine G.guardU rfl rfl rfl ?_ | (refine G.guardS rfl rfl rfl ?_ ?_ <;> intro hc <;> (try simp only [tests, reduceCtorEq] at hc) <;> (try exact Zf)) | refine G.guardNo rfl rfl ?_ (by rintro i ⟨⟩; rfl) | (refine G.guard rfl rfl ?_ ?_ (by rintro i ⟨⟩; rfl) <;> intro hc <;> (try simp only [tests, reduceCtorEq] at hc) <;> (try exact Zf))) | (refine G.atBin ?_; first | (refine G.atAdd ?_; first | refine G.arith rfl rfl rfl rfl rfl Zi ?_ | refine G.catStr rfl rfl rfl Zo ?_ | refine G.op rfl rfl ?_) | (refine G.atSub ?_; first | refine G.arith rfl rfl rfl rfl rfl Zi ?_ | refine G.op rfl rfl ?_) | (refine G.atEql ?_; first | refine G.op rfl rfl ?_ | refine G.eqStr0 rfl rfl rfl ?_ | refine G.eqStr rfl rfl rfl ?_ | refine G.eqPtr rfl rfl (tyy rfl) rfl ?_ | refine G.eqBool rfl rfl (tyy rfl) rfl ?_) | (refine G.atNeq ?_; first | refine G.op rfl rfl ?_ | refine G.neStr0 rfl rfl rfl ?_ | refine G.neStr rfl rfl rfl ?_ | refine G.nePtr rfl rfl (tyy rfl) rfl ?_ | refine G.neBool rfl rfl (tyy rfl) rfl ?_) | refine G.op rfl rfl ?_ ) | refine G.op rfl rfl ?_ | (refine G.atLen ?_; first | refine G.lenStr rfl (tyy rfl) rfl ?_ | refine G.lenSlice rfl (tyy rfl) rfl ?_ | refine G.lenRowB rfl (tyy rfl) Za rfl ?_ | refine G.lenRowS rfl (tyy rfl) Za rfl ?_ | refine G.lenRow rfl (tyy rfl) Za rfl ?_ | refine G.lenImmB rfl (tyy rfl) Zl rfl ?_ | refine G.lenImmI rfl (tyy rfl) Zl rfl ?_ | refine G.lenImmS rfl (tyy rfl) Zl rfl ?_ | refine G.lenImm rfl (tyy rfl) Zl rfl ?_) | (refine G.atLoad ?_; first | refine G.loadOwn1 rfl (tyy rfl) rfl rfl Za rfl rfl ?_ | refine G.loadOwnA rfl (tyy rfl) rfl rfl Za rfl rfl ?_ | refine G.loadImm1 rfl (tyy rfl) rfl rfl Zp rfl ?_ | refine G.loadImmA rfl (tyy rfl) rfl rfl Zp Zp rfl ?_ | refine G.loadRowS rfl (tyy rfl) Zp Za Zo rfl ?_ | (refine G.loadRowB rfl (tyy rfl) Zp Za Zo rfl ?_; intro _)) | (refine G.atSto ?_; refine G.storeOwn rfl rfl (tyy rfl) Za rfl rfl rfl rfl ?_) | (refine G.atIdx ?_; first | (refine G.idxImmI rfl rfl (tyy rfl) (tyy rfl) Zl Zp Zj rfl Zo ?_; intro _ _ _) | (refine G.idxImmS rfl rfl (tyy rfl) (tyy rfl) Zl Zj rfl Zo ?_; intro _ _) | (refine G.idxImmB rfl rfl (tyy rfl) (tyy rfl) Zl Zj rfl Zo ?_; intro _ _ _) | (refine G.idxRow' rfl rfl (tyy rfl) (tyy rfl) Za Zj rfl Zo ?_; intro _ _) | (refine G.idxImmN rfl rfl (tyy rfl) (tyy rfl) Zl Zj rfl Zo ?_; intro _ _ _ _ _)) | (refine G.atConv ?_; first | refine G.conv rfl (tyy rfl) (tyy rfl) rfl Zi ?_ | (refine G.convBytes rfl (tyy rfl) (tyy rfl) (tyy rfl) rfl Zo ?_; intro _) | refine G.convStr rfl (tyy rfl) (tyy rfl) (tyy rfl) Za rfl ?_ | refine G.convStrBlk1 rfl (tyy rfl) (tyy rfl) (tyy rfl) Za Zo rfl ?_ | refine G.convStrBlk2 rfl (tyy rfl) (tyy rfl) (tyy rfl) Za Zo Zo rfl ?_ | (refine G.convW rfl (tyy rfl) (tyy rfl) rfl ?_; intro hcw; (try simp only [inR] at hcw))) )
      all_goals first | (exfalso; omega) | exact G.done1 rfl rfl [] (SubH.nil _) (by solve | rfl | simp) | (exfalso; simp_all)
end Go.Proofs.Ytahpemfnhepgoaa
