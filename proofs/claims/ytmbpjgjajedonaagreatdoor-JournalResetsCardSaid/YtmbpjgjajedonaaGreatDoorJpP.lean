/- Rows whose elements are told by a relation, one by one. -/
import Derived.Test.YtmbpjgjajedonaaGreatDoorLtP
import Derived.Test.YtmbpjgjajedonaaGreatDoorJpL
import Derived.Test.YtmbpjgjajedonaaGreatDoorDkL
namespace Go.Proofs.YtmbpjgjajedonaaGreatDoor
set_option linter.all false
set_option maxRecDepth 4000
open Go.RowKit

def LC {α : Type} (R : Heap -> α -> List Value -> Prop) (h : Heap) : List α -> List (List Value) -> Prop
  | [], rows => rows = []
  | a :: l, rows => ∃ r rest, rows = r :: rest /\ R h a r /\ LC R h l rest
theorem LC.mono {α : Type} {R : Heap -> α -> List Value -> Prop} {h h' : Heap} (hR : ∀ {a r}, R h a r -> R h' a r) : ∀ {l : List α} {rows : List (List Value)}, LC R h l rows -> LC R h' l rows
  | [], _, e => e
  | _ :: _, _, ⟨v, rest, e, h1, h2⟩ => ⟨v, rest, e, hR h1, h2.mono hR⟩
theorem LC.len {α : Type} {R : Heap -> α -> List Value -> Prop} {h : Heap} : ∀ {l : List α} {rows : List (List Value)}, LC R h l rows -> rows.length = l.length
  | [], _, e => by simp only [LC] at e; subst e; rfl
  | _ :: _, _, ⟨v, rest, e, h1, h2⟩ => by subst e; simp [h2.len]
theorem LC.append {α : Type} {R : Heap -> α -> List Value -> Prop} {h : Heap} : ∀ {a b : List α} {ra rb : List (List Value)}, LC R h a ra -> LC R h b rb -> LC R h (a ++ b) (ra ++ rb)
  | [], b, ra, rb, ha, hb => by simp only [LC] at ha; subst ha; exact hb
  | _ :: _, b, ra, rb, ⟨v, rest, e, h1, h2⟩, hb => by subst e; exact ⟨v, rest ++ rb, rfl, h1, h2.append hb⟩
theorem LC.one {α : Type} {R : Heap -> α -> List Value -> Prop} {h : Heap} {a : α} {r : List Value} (hv : R h a r) : LC R h [a] [r] := ⟨r, [], rfl, hv, rfl⟩
theorem LC.get {α : Type} {R : Heap -> α -> List Value -> Prop} {h : Heap} : ∀ {l : List α} {rows : List (List Value)} {i : Nat} {a : α}, LC R h l rows -> l[i]? = some a -> ∃ r, rows[i]? = some r /\ R h a r
  | [], _, i, r, _, hi => by simp at hi
  | _ :: _, _, 0, r, ⟨v, rest, e, h1, h2⟩, hi => by simp at hi; subst hi; subst e; exact ⟨v, rfl, h1⟩
  | _ :: _, _, i + 1, r, ⟨v, rest, e, h1, h2⟩, hi => by
    subst e
    simp at hi
    obtain ⟨v', h3, h4⟩ := h2.get hi
    exact ⟨v', by simpa using h3, h4⟩
theorem LC.drop {α : Type} {R : Heap -> α -> List Value -> Prop} {h : Heap} : ∀ {l : List α} {rows : List (List Value)} (i : Nat), LC R h l rows -> LC R h (l.drop i) (rows.drop i)
  | _, _, 0, e => by simpa using e
  | [], _, i + 1, e => by simp only [LC] at e; subst e; simp [LC]
  | _ :: _, _, i + 1, ⟨v, rest, e, h1, h2⟩ => by subst e; simpa using h2.drop i
theorem LC.take {α : Type} {R : Heap -> α -> List Value -> Prop} {h : Heap} : ∀ {l : List α} {rows : List (List Value)} (i : Nat), LC R h l rows -> LC R h (l.take i) (rows.take i)
  | _, _, 0, e => by simp [LC]
  | [], _, i + 1, e => by simp only [LC] at e; subst e; simp [LC]
  | _ :: _, _, i + 1, ⟨v, rest, e, h1, h2⟩ => by subst e; exact ⟨v, rest.take i, by simp, h1, h2.take i⟩
theorem LC.rowed {α : Type} {R : Heap -> α -> List Value -> Prop} {h : Heap} {n : Nat} (hR : ∀ {a r}, R h a r -> r.length = n) : ∀ {l : List α} {rows : List (List Value)}, LC R h l rows -> Rowed n rows
  | [], _, e => by simp only [LC] at e; subst e; intro r hr; simp at hr
  | _ :: _, _, ⟨v, rest, e, h1, h2⟩ => by
    subst e
    intro r hr
    rcases List.mem_cons.1 hr with rfl | hr
    . exact hR h1
    . exact h2.rowed hR r hr
theorem LC.all {α : Type} {R : Heap -> α -> List Value -> Prop} {h : Heap} {p : List Value -> Prop} (hR : ∀ {a r}, R h a r -> p r) : ∀ {l : List α} {rows : List (List Value)}, LC R h l rows -> ∀ r ∈ rows, p r
  | [], _, e => by simp only [LC] at e; subst e; intro r hr; simp at hr
  | _ :: _, _, ⟨v, rest, e, h1, h2⟩ => by
    subst e
    intro r hr
    rcases List.mem_cons.1 hr with rfl | hr
    . exact hR h1
    . exact h2.all hR r hr
theorem LC.of {α : Type} {R : Heap -> α -> List Value -> Prop} {h : Heap} : ∀ (l : List α) (rows : List (List Value)), l.length = rows.length -> (∀ (i : Nat) b, l[i]? = some b -> ∃ r, rows[i]? = some r /\ R h b r) -> LC R h l rows
  | [], [], _, _ => rfl
  | [], _ :: _, h, _ => by simp at h
  | _ :: _, [], h, _ => by simp at h
  | b :: l, r :: rows, h, hr => by
    obtain ⟨r0, h0, h1⟩ := hr 0 b rfl
    simp only [List.getElem?_cons_zero, Option.some.injEq] at h0
    have ih := LC.of l rows (by simpa using h) (fun i b' hb => by simpa using hr (i + 1) b' (by simpa using hb))
    exact ⟨r, rows, rfl, h0 ▸ h1, ih⟩
def SC {α : Type} (R : Heap -> α -> List Value -> Prop) (n : Nat) (h : Heap) (l : List α) (v : Value) : Prop := ∃ rows, HSl h v n rows /\ LC R h l rows
theorem SC.mono {α : Type} {R : Heap -> α -> List Value -> Prop} {n : Nat} {h h' : Heap} (hR : ∀ {a r}, R h a r -> R h' a r) (hl : Heap.le h h') {l : List α} {v : Value} : SC R n h l v -> SC R n h' l v
  | ⟨rows, h1, h2⟩ => ⟨rows, h1.mono hl, h2.mono hR⟩
theorem SC.nil {α : Type} (R : Heap -> α -> List Value -> Prop) (n : Nat) (h : Heap) : SC R n h [] (.slice none 0 0) := ⟨[], HSl.nil h n, rfl⟩
theorem SC.form {α : Type} {R : Heap -> α -> List Value -> Prop} {n : Nat} {h : Heap} {l : List α} {v : Value} : SC R n h l v -> ∃ A c, v = .slice A l.length c /\ l.length <= c /\ l.length <= 9223372036854775807
  | ⟨rows, h1, h2⟩ => by
    obtain ⟨A, c, e, h3, h4, _⟩ := h1.form
    rw [h2.len] at e h3
    simp only [maxLen] at h4
    exact ⟨A, c, e, h3, by omega⟩
end Go.Proofs.YtmbpjgjajedonaaGreatDoor
namespace Go.Proofs.YtmbpjgjajedonaaGreatDoor
set_option linter.all false
set_option maxRecDepth 4000
open Go.RowKit

structure St6 where
  what : Int
  n : Int
  body : B8
  bodies : List B8
  loss : Ls
structure St6.Ok (s : St6) : Prop where
  n : s.n <= 9223372036854775807
  b : s.body.length <= 9223372036854775807
  bs : ∀ b ∈ s.bodies, b.length <= 9223372036854775807
  l : s.loss.keep < 18446744073709551616 /\ inR .i64 s.loss.pos
theorem openM_or {D : Dk} (h8 : D.lasts.length <= 8192) : (∃ D' e bs, openM D = (D', none, bs, e)) \/ (∃ D' J bs, openM D = (D', some J, bs, 0) /\ bs.length <= 8192) := by
  have hb := (recL_bound (curL D) (sizeM D) (by unfold sizeM; omega)).1
  unfold openM
  split
  . exact .inl ⟨_, _, _, rfl⟩
  . split
    . exact .inl ⟨_, _, _, rfl⟩
    . split
      . exact .inl ⟨_, _, _, rfl⟩
      . exact .inr ⟨_, _, _, rfl, hb⟩
theorem layT_len2 (ss : List B8) {D : Dk} (a : Nat) (h : D.lasts.length <= 8192) : (trR (layT D a ss)).length <= 8192 := by rw [trR, List.length_map]; exact layT_len ss a h
theorem appendT_len {D : Dk} (J : Jn) (b : B8) (h : D.lasts.length <= 8192) : (trR (appendT D J b)).length <= 8192 := by
  unfold appendT
  split
  . exact Nat.zero_le _
  . split
    . exact Nat.zero_le _
    . split
      . exact Nat.zero_le _
      . exact layT_len2 _ _ h
theorem resetT_len {D : Dk} (J : Jn) (bs : List B8) (h : D.lasts.length <= 8192) : (trR (resetT D J bs)).length <= 8192 := by
  unfold resetT
  split
  . exact Nat.zero_le _
  . split
    . exact Nat.zero_le _
    . split
      . exact Nat.zero_le _
      . split
        . exact layT_len2 _ _ h
        . exact layT_len2 _ _ (by rw [(layJ_shp _ D _).2]; exact h)
theorem openT_len {D : Dk} (h : D.lasts.length <= 8192) : (trR (openT D)).length <= 8192 := by
  unfold openT
  split
  . exact Nat.zero_le _
  . split
    . exact Nat.zero_le _
    . exact resetT_len _ _ h
theorem crashT_len {D : Dk} (l : Ls) (h : D.lasts.length <= 8192) : (trR (crashT D l)).length <= 8192 := by
  unfold crashT
  split
  . exact Nat.zero_le _
  . rw [trR, List.length_map]
    have := loseTo_len D l D.lasts.length
    unfold loseT
    omega
structure PS where
  o : Option (Nat × Nat × Jn)
  tv : Value
  lim : Bool
  most : Int
  T : List (List Value)
  D : Dk
structure PI (b : Nat) (x : PS) : Prop where
  ok : x.D.Ok
  wk : x.D.Wk
  lim : 0 <= x.D.limit
  lr : LimR x.lim x.most x.D
  t : x.T.length <= b
  j : ∀ g q J, x.o = some (g, q, J) -> JI x.D J
end Go.Proofs.YtmbpjgjajedonaaGreatDoor
namespace Go.Proofs.YtmbpjgjajedonaaGreatDoor
set_option linter.all false
set_option maxRecDepth 4000
open Go.RowKit

theorem loseTo_got {D : Dk} (hD : D.Ok) (l : Ls) : ∀ n, n <= D.lasts.length -> ∀ t ∈ loseTo D l n, t.got.length = 128
  | 0, _, t, ht => by simp [loseTo] at ht
  | n + 1, hn, t, ht => by
    have ih := loseTo_got hD l n (by omega)
    cases hw : wGet D.W (n : Nat) with | none => rw [loseTo_none hw] at ht; exact ih t ht | some x =>
      by_cases hk : (kAt D.W n : Int) = l.torn
      . rw [(loseTo_torn hw).1 hk] at ht
        rcases List.mem_append.1 ht with h | h
        . exact ih t h
        . rw [List.mem_singleton.1 h]; exact loseAt_len hD l (by omega)
      . rw [(loseTo_torn hw).2 hk] at ht; exact ih t ht
def GotL (T : List Tr) : Prop := ∀ t ∈ T, t.got.length = 128
theorem GotL.nil : GotL [] := fun t h => by cases h
theorem GotL.app {A B : List Tr} (h : GotL A) (k : GotL B) : GotL (A ++ B) := fun t ht => (List.mem_append.1 ht).elim (h t) (k t)
theorem cutT_got {D : Dk} (hD : D.Ok) : GotL (cutT D) := by
  unfold cutT
  split
  . exact loseTo_got hD.cut _ _ (Nat.le_refl _)
  . exact GotL.nil
theorem writeT_got {D : Dk} (hD : D.Ok) (i : Int) (s : B8) : GotL (writeT D i s) := by
  unfold writeT
  split
  . exact GotL.nil
  . split
    . exact GotL.nil
    . rename_i h
      split
      . exact GotL.nil
      . exact cutT_got (hD.put i (Decidable.not_not.1 h))
theorem flushT_got {D : Dk} (hD : D.Ok) : GotL (flushT D) := by
  unfold flushT
  split
  . exact GotL.nil
  . exact cutT_got hD
theorem crashT_got {D : Dk} (hD : D.Ok) (l : Ls) : GotL (crashT D l) := by
  unfold crashT
  split
  . exact GotL.nil
  . exact loseTo_got hD _ _ (Nat.le_refl _)
theorem layT_got : ∀ (ss : List B8) {D : Dk} (a : Nat), D.Ok -> GotL (layT D a ss)
  | [], D, a, hD => by rw [layT]; exact flushT_got hD
  | s :: ss, D, a, hD => by
    rw [layT]
    split
    . exact writeT_got hD _ _
    . exact layT_got ss (a + 1) (write_ok hD _ _)
theorem resetT_got {D : Dk} (hD : D.Ok) (J : Jn) (bs : List B8) : GotL (resetT D J bs) := by
  unfold resetT
  split
  . exact GotL.nil
  . split
    . exact GotL.nil
    . split
      . exact GotL.nil
      . split
        . exact layT_got _ _ hD
        . exact layT_got _ _ (layJ_ok _ _ hD)
theorem appendT_got {D : Dk} (hD : D.Ok) (J : Jn) (b : B8) : GotL (appendT D J b) := by
  unfold appendT
  split
  . exact GotL.nil
  . split
    . exact GotL.nil
    . split
      . exact GotL.nil
      . exact layT_got _ _ hD
theorem openT_got {D : Dk} (hD : D.Ok) : GotL (openT D) := by
  unfold openT
  split
  . exact GotL.nil
  . split
    . exact GotL.nil
    . exact resetT_got hD _ _
theorem cuts_len {bs : List B8} {n k : Nat} : (∀ b ∈ cutsM bs n k, b.length <= n) /\ (cutsM bs n k).length <= k := by
  refine ⟨fun b hb => ?_, ?_⟩
  . simp only [cutsM, List.mem_map] at hb
    obtain ⟨c, _, rfl⟩ := hb
    rw [List.length_take]; omega
  . simp only [cutsM, List.length_map, List.length_take]; omega
structure Cu6 where
  n : Int
  loss : Ls
def Cu6.vals (c : Cu6) : List Value := [.int .i64 c.n, .int .u64 c.loss.keep, .int .i64 c.loss.torn, .int .i64 c.loss.pos]
structure Cu6.Ok (c : Cu6) : Prop where
  n : inR .i64 c.n
  l : c.loss.keep < 18446744073709551616 /\ inR .i64 c.loss.pos
theorem same_tt (a : List B8) (ha : a.length <= 1000000000) (va vb : Value) (h : Heap) (hva : HSl h va 1 (strsR a)) (hvb : HSl h vb 1 (strsR a)) :
    Spec Tryz.prog 14 [va, vb] h [] (fun u _ H' => u = .bool true /\ H' = []) :=
  (law06_same a a ha ha va vb h hva hvb).mono fun u _ _ h _ => ⟨by rw [h.1, decide_eq_true rfl], h.2⟩
set_option maxRecDepth 8000 in
set_option maxHeartbeats 16000000 in
theorem law_JournalResets (one two : List B8) (h1 : ∀ b ∈ one, b.length <= 9223372036854775807) (h2 : ∀ b ∈ two, b.length <= 9223372036854775807) (c : Cu6) (hc : c.Ok) (v1 v2 : Value) (h : Heap) (hv1 : HSl h v1 1 (strsR one)) (hv2 : HSl h v2 1 (strsR two)) :
    Spec Tryz.prog 4 [v1, v2, .agg c.vals.toArray] h [] (fun u _ _ => u = .bool true) := by
  have sC1 := fun h hv => law06_cuts one h1 200 8 (by decide) (by decide) v1 h hv
  have sC2 := fun h hv => law06_cuts two h2 200 8 (by decide) (by decide) v2 h hv
  have k1 := cuts_len (bs := one) (n := 200) (k := 8)
  have k2 := cuts_len (bs := two) (n := 200) (k := 8)
  generalize cutsM one 200 8 = ones at *
  generalize cutsM two 200 8 = twos at *
  obtain ⟨D1, J1, D2, J2, rs⟩ := resets k1.1 k1.2 k2.1 k2.2 c.n c.loss
  obtain ⟨o1, t1, r2, t2, fin⟩ := rs
  have hcn := hc.n
  have hcl := hc.l
  have hlm : 0 <= (newM 60).limit := by simp only [newM]; omega
  have hll : (newM 60).limit = (newM 60).lasts.length := by simp [newM, layM]
  have hok0 := new_ok 60
  have hwk0 : (newM 60).Wk := wk_nil rfl
  have hlr0 : LimR false 0 (newM 60) := .inr ⟨rfl, hll⟩
  have io1 := openM_inv hok0 hwk0
  have hJ1 := (JI.opened hok0 hwk0 hlm o1).1
  rw [o1] at io1
  have hlr1 : LimR false 0 D1 := io1.2.2.lim hlr0
  have hJ2 := hJ1.reset ones
  have ir2 := resetM_inv (D := D1) J1 ones hJ1.ok hJ1.wk
  rw [r2] at hJ2 ir2
  dsimp only at hJ2 ir2
  have hlr2 : LimR false 0 D2 := ir2.2.2.lim hlr1
  have hcut : (cutD D2 c.n c.loss).Ok := ⟨hJ2.ok.l, hJ2.ok.w, hJ2.ok.n, by unfold cutD; simp only [inR] at hcn ⊢; omega, hcl⟩
  have hJc : JI (cutD D2 c.n c.loss) J2 := hJ2.shp hcut ⟨hJ2.wk.k, hJ2.wk.b, hJ2.wk.bc, hJ2.wk.kr⟩ rfl hJ2.lim
  have hlrc : LimR false 0 (cutD D2 c.n c.loss) := hlr2
  have sN := disk_New 60
  have rN := refd_New 60
  have sO := fun d m v h => jo_Open d m v (newM 60) hok0 hwk0 hlm h
  have rO := fun r lv wv h => rj_Open r lv wv (.slice none 0 0) false 0 [] (by decide) (newM 60) hok0 hwk0 hlm hlr0 h
  rw [o1] at sO rO
  rw [t1] at rO
  simp only [OpR, OpQ] at sO rO
  have sR := fun g d m v bv h hv => jo_Reset g d m v J1 D1 hJ1 ones (fun b hb => by have := k1.1 b hb; omega) (by omega) bv h hv
  have rR := fun g r lv wv tv bv h hv => rj_Reset g r lv wv tv false 0 [] (by decide) J1 D1 hJ1 hlr1 ones (fun b hb => by have := k1.1 b hb; omega) (by omega) bv h hv
  rw [r2] at sR rR
  rw [t2] at rR
  have sCu := fun d m v => disk_Cut d m v D2 c.n c.loss
  have rCu := fun r lv wv tv => refd_Cut r lv wv tv false 0 [] D2 D2.lasts (waitL D2) c.n c.loss
  have sS := fun g d m v bv h hv => jo_Reset g d m v J2 (cutD D2 c.n c.loss) hJc twos (fun b hb => by have := k2.1 b hb; omega) (by omega) bv h hv
  have rS := fun g r lv wv tv bv h hv => rj_Reset g r lv wv tv false 0 [] (by decide) J2 (cutD D2 c.n c.loss) hJc hlrc twos (fun b hb => by have := k2.1 b hb; omega) (by omega) bv h hv
  have ir3 := resetM_inv (D := cutD D2 c.n c.loss) J2 twos hJc.ok hJc.wk
  have hgt := resetT_got hJc.ok J2 twos
  have hlt := resetT_len (D := cutD D2 c.n c.loss) J2 twos hJc.ok.n
  have hltr : (trR (resetT (cutD D2 c.n c.loss) J2 twos)).length = (resetT (cutD D2 c.n c.loss) J2 twos).length := by simp [trR]
  generalize resetT (cutD D2 c.n c.loss) J2 twos = T3 at *
  have ecu : ({ D2 with left := max 0 c.n, loss := c.loss } : Dk) = cutD D2 c.n c.loss := rfl
  have hw2 : waitL D2 = waitL (cutD D2 c.n c.loss) := rfl
  have hl2 : D2.lasts = (cutD D2 c.n c.loss).lasts := rfl
  rw [ecu] at sCu rCu
  generalize hRS : resetM (cutD D2 c.n c.loss) J2 twos = X3 at *
  obtain ⟨D3, J3, e3⟩ := X3
  dsimp only at sS rS ir3 fin
  have hlr3 : LimR false 0 D3 := ir3.2.2.lim hlrc
  have hlm3 : 0 <= D3.limit := by rw [ir3.2.2.1]; exact hJc.lim
  have sCr := fun d m v => disk_Crash d m v D3 ir3.1 c.loss hcl
  have rCr := fun r lv wv tv => reft_Crash r lv wv tv false 0 ([] ++ trR T3) (by rw [List.nil_append]; omega) D3 ir3.1 c.loss hcl
  have hgc := crashT_got ir3.1 c.loss
  have hlc := crashT_len (D := D3) c.loss ir3.1.n
  have hlcr : (trR (crashT D3 c.loss)).length = (crashT D3 c.loss).length := by simp [trR]
  generalize crashT D3 c.loss = T4 at *
  have hok4 := crash_ok ir3.1 c.loss
  have hwk4 := crash_wk ir3.2.1 c.loss
  have hlm4 : 0 <= (crashM D3 c.loss).limit := by rw [(crash_shp D3 c.loss).1]; exact hlm3
  generalize crashM D3 c.loss = D4 at *
  have sM := fun r lv wv tv => ref06_Mixed r lv wv tv false 0 (T3 ++ T4) (hgt.app hgc) (by rw [List.length_append]; omega) D4 D4.lasts (waitL D4)
  rw [trR_app] at sM
  have sP := fun d m v h => jo_Open d m v D4 hok4 hwk4 hlm4 h
  obtain ⟨b1, b2⟩ := k1
  obtain ⟨b3, b4⟩ := k2
  clear hRS hJ1 hJ2 hJc ir2 ir3 io1 hlr0 hlr1 hlr2 hlr3 hlrc hcut hok4 hwk4 hok0 hwk0 hgt hgc r2 o1
  unfold jdC jnC dkC at *
  unfold rjC rjB rkD rkC at *
  dsimp only [List.cons_append, List.nil_append] at *
  generalize newM 60 = D0 at *
  refine Spec.enter Tryz.func4 rfl rfl ?_; intro w0
  repeat' (first | (show G _ (.ops .seq _ (⟨some _, .call { callee := .value (.func 20), args := _, argTypes := _ }, _, _, _, none⟩ :: _) :: _) _ _ _; refine G.call callCuts6 rfl rfl (sC1 _ (hv1.mono (by solve | repeat first | assumption | exact Zr _ | refine Zq ?_ Zp))) Ze ?_; rintro _ h4 H4 ⟨kA, kc, rfl, rfl⟩ hle4; refine G.freezeRow (sz := 1) (e := 9) Za ?_; intro hf1 hlf1 hsf1) | (show G _ (.ops .seq _ (⟨some _, .call { callee := .value (.func 20), args := _, argTypes := _ }, _, _, _, none⟩ :: _) :: _) _ _ _; refine G.call callCuts6 rfl rfl (sC2 _ (hv2.mono (by solve | repeat first | assumption | exact Zr _ | refine Zq ?_ Zp))) Ze ?_; rintro _ h4 H4 ⟨kA2, kc2, rfl, rfl⟩ hle4; refine G.freezeRow (sz := 1) (e := 9) Za ?_; intro hf2 hlf2 hsf2) | (show G _ (.ops .seq _ (⟨some _, .call { callee := .value (.func 7), args := _, argTypes := _ }, _, _, _, none⟩ :: _) :: _) _ _ _; refine G.call callNewD rfl rfl (sN _) Ze ?_; rintro _ h2 H2 ⟨d, m, v, rfl, rfl⟩ hle2) | (show G _ (.ops .seq _ (⟨some _, .call { callee := .value (.func 8), args := _, argTypes := _ }, _, _, _, none⟩ :: _) :: _) _ _ _; refine G.call callRNewD rfl rfl (rN _) Ze ?_; rintro _ h3 H3 ⟨r, lv, wv, rfl, rfl⟩ hle3) | (show G _ (.ops .seq _ (⟨some _, .call { callee := .value (.func 11), args := _, argTypes := _ }, _, _, _, none⟩ :: _) :: _) _ _ _; refine G.call callOpen6 rfl rfl (sO d m v _) Ze ?_; rintro _ h5 H5 ⟨gj, jA, jc, rfl, hsj, rfl⟩ hle5) | (show G _ (.ops .seq _ (⟨some _, .call { callee := .value (.func 12), args := _, argTypes := _ }, _, _, _, none⟩ :: _) :: _) _ _ _; refine G.call callQOpen rfl rfl (rO r lv wv _) Ze ?_; rintro _ h6 H6 ⟨tvq, gq, qA, qc, rfl, hsq, rfl⟩ hle6) | (show G _ (.ops .seq _ (⟨some _, .call { callee := .value (.func 6), args := _, argTypes := _ }, _, _, _, none⟩ :: _) :: _) _ _ _; refine G.call callAwake6 rfl rfl (law06_awake _) Ze ?_; rintro _ h7 H7 ⟨rfl, rfl⟩ hle7) | (show G _ (.ops .seq _ (⟨some _, .call { callee := .value (.func 21), args := _, argTypes := _ }, _, _, _, none⟩ :: _) :: _) _ _ _; refine G.call callReset6 rfl rfl (sR gj d m v _ _ (hsf1.mono (by solve | repeat first | assumption | exact Zr _ | refine Zq ?_ Zp))) Ze ?_; rintro _ h8 H8 ⟨rfl, rfl⟩ hle8) | (show G _ (.ops .seq _ (⟨some _, .call { callee := .value (.func 22), args := _, argTypes := _ }, _, _, _, none⟩ :: _) :: _) _ _ _; refine G.call callQReset rfl rfl (rR gq r lv wv tvq _ _ (hsf1.mono (by solve | repeat first | assumption | exact Zr _ | refine Zq ?_ Zp))) Ze ?_; rintro _ h9 H9 ⟨tvr, rfl, rfl⟩ hle9) | (show G _ (.ops .seq _ (⟨some _, .call { callee := .value (.func 9), args := _, argTypes := _ }, _, _, _, none⟩ :: _) :: _) _ _ _; refine G.call callCutS rfl rfl (sCu d m v _) Ze ?_; rintro _ h10 H10 rfl hle10) | (show G _ (.ops .seq _ (⟨some _, .call { callee := .value (.func 10), args := _, argTypes := _ }, _, _, _, none⟩ :: _) :: _) _ _ _; refine G.call callRCut rfl rfl (rCu r lv wv tvr _) Ze ?_; rintro _ h11 H11 rfl hle11) | (show G _ (.ops .seq _ (⟨some _, .call { callee := .value (.func 21), args := _, argTypes := _ }, _, _, _, none⟩ :: _) :: _) _ _ _; refine G.call callReset6 rfl rfl (sS gj d m v _ _ (hsf2.mono (by solve | repeat first | assumption | exact Zr _ | refine Zq ?_ Zp))) Ze ?_; rintro _ h12 H12 ⟨rfl, rfl⟩ hle12) | (show G _ (.ops .seq _ (⟨some _, .call { callee := .value (.func 22), args := _, argTypes := _ }, _, _, _, none⟩ :: _) :: _) _ _ _; refine G.call callQReset rfl rfl (rS gq r lv wv tvr _ _ (hsf2.mono (by solve | repeat first | assumption | exact Zr _ | refine Zq ?_ Zp))) Ze ?_; rintro _ h13 H13 ⟨tvs, rfl, rfl⟩ hle13) | (show G _ (.ops .seq _ (⟨some _, .call { callee := .value (.func 23), args := _, argTypes := _ }, _, _, _, none⟩ :: _) :: _) _ _ _; refine G.call callCrash rfl rfl (sCr d m v _) Ze ?_; rintro _ h14 H14 rfl hle14) | (show G _ (.ops .seq _ (⟨some _, .call { callee := .value (.func 24), args := _, argTypes := _ }, _, _, _, none⟩ :: _) :: _) _ _ _; refine G.call callRCrash rfl rfl (rCr r lv wv tvs _) Ze ?_; rintro _ h15 H15 ⟨tvc, Tc, rfl, rfl⟩ hle15) | (show G _ (.ops .seq _ (⟨some _, .call { callee := .value (.func 13), args := _, argTypes := _ }, _, _, _, none⟩ :: _) :: _) _ _ _; refine G.call callMixed rfl rfl (sM r lv wv tvc _) Ze ?_; rintro _ h16 H16 ⟨b, rfl, hb, rfl⟩ hle16; cases b) | (show G _ (.ops .seq _ (⟨some _, .call { callee := .value (.func 11), args := _, argTypes := _ }, _, _, _, none⟩ :: _) :: _) _ _ _; obtain ⟨D5, J5, bs5, o5, hh⟩ := fin (hb rfl); rcases hh with ⟨he, hbs⟩ | ⟨he, hbs | hbs⟩ <;> (rw [hbs] at o5; rw [o5] at sP; simp only [OpR, jdC, jnC, dkC, List.cons_append, List.nil_append] at sP; subst he; refine G.call callOpen6 rfl rfl (sP d m v _) Ze ?_; rintro _ h17 H17 ⟨gP, pA, pc, rfl, hsP, rfl⟩ hle17)) | (show G _ (.ops .seq _ (⟨some _, .call { callee := .value (.func 14), args := _, argTypes := _ }, _, _, _, none⟩ :: _) :: _) _ _ _; refine G.call callSame6 rfl rfl (same_tt twos (by omega) _ _ _ (hsP.mono (by solve | repeat first | assumption | exact Zr _ | refine Zq ?_ Zp)) (hsf2.mono (by solve | repeat first | assumption | exact Zr _ | refine Zq ?_ Zp))) Ze ?_; rintro _ h18 H18 ⟨rfl, rfl⟩ hle18) | (show G _ (.ops .seq _ (⟨some _, .call { callee := .value (.func 14), args := _, argTypes := _ }, _, _, _, none⟩ :: _) :: _) _ _ _; refine G.call callSame6 rfl rfl (same_tt ones (by omega) _ _ _ (hsP.mono (by solve | repeat first | assumption | exact Zr _ | refine Zq ?_ Zp)) (hsf1.mono (by solve | repeat first | assumption | exact Zr _ | refine Zq ?_ Zp))) Ze ?_; rintro _ h19 H19 ⟨rfl, rfl⟩ hle19) | (show G _ (.ops .seq _ (⟨some _, .call { callee := .value (.func 14), args := _, argTypes := _ }, _, _, _, none⟩ :: _) :: _) _ _ _; refine G.call callSame6 rfl rfl (law06_same twos ones (by omega) (by omega) _ _ _ (hsP.mono (by solve | repeat first | assumption | exact Zr _ | refine Zq ?_ Zp)) (hsf1.mono (by solve | repeat first | assumption | exact Zr _ | refine Zq ?_ Zp))) Ze ?_; rintro _ h20 H20 ⟨rfl, rfl⟩ hle20; generalize decide (twos = ones) = bb) | (refine G.atCode ?_; first | refine G.seq ?_ | refine G.region ?_ | refine G.skip ?_ | refine G.ret ?_ | (refine G.cond rfl ?_ ?_ <;> intro hc <;> (try simp only [tests, reduceCtorEq] at hc) <;> (try exact Zf))) | refine G.endOps ?_ | (refine G.atGd ?_; first | refine G.guardYes rfl rfl ?_ | refine G.guardNoS rfl rfl rfl ?_ | refine G.guardU rfl rfl rfl ?_ | (refine G.guardS rfl rfl rfl ?_ ?_ <;> intro hc <;> (try simp only [tests, reduceCtorEq] at hc) <;> (try exact Zf))) | (refine G.atBin ?_; first | (refine G.atEql ?_; first | refine G.op rfl rfl ?_ | refine G.eqPtr rfl rfl (tyy rfl) rfl ?_) | (refine G.atNeq ?_; first | refine G.op rfl rfl ?_)) | refine G.op rfl rfl ?_ | (refine G.atLoad ?_; first | refine G.loadOwn1 rfl (tyy rfl) rfl rfl Za rfl rfl ?_ | refine G.loadOwnA rfl (tyy rfl) rfl rfl Za rfl rfl ?_) | (refine G.atFld ?_; first | refine G.fieldAddr rfl (tyy rfl) rfl rfl ?_) | (refine G.atBox ?_; refine G.box rfl rfl rfl ?_; intro _))
  all_goals first | (exfalso; omega) | exact G.done1 rfl rfl [] (SubH.nil _) rfl | trace_state
end Go.Proofs.YtmbpjgjajedonaaGreatDoor
namespace Go.Proofs.YtmbpjgjajedonaaGreatDoor
set_option linter.all false
set_option maxRecDepth 4000
open Go.RowKit

set_option maxRecDepth 8000 in
theorem law06_sameO (a : List B8) (ha : a.length <= 1000000000) (va : Value) (A : Option Addr) (c : Nat) (h : Heap) (hva : HSl h va 1 (strsR a)) :
    Spec Tryz.prog 14 [va, .slice A a.length c] h [.row (.slice A a.length c) 9 1 (strsR a)] (fun u _ H' => u = .bool true /\ H' = [.row (.slice A a.length c) 9 1 (strsR a)]) := by
  have hsl : (strsR a).length = a.length := strsR_length a
  refine Spec.enter Tryz.func14 rfl rfl ?_; intro w0
  repeat' (first | (refine G.atCode ?_; refine G.stopLoop ?_) | (refine G.atCode ?_; first | refine G.seq ?_ | refine G.region ?_ | refine G.block ?_ | refine G.skip ?_ | (refine G.cond rfl ?_ ?_ <;> intro hc <;> (try simp only [tests, reduceCtorEq] at hc) <;> (try exact Zf))) | refine G.endOps ?_ | (refine G.atBin ?_; first | (refine G.atNeq ?_; first | refine G.op rfl rfl ?_)) | refine G.op rfl rfl ?_ | (refine G.atLen ?_; first | refine G.lenSlice rfl (tyy rfl) rfl ?_ | refine G.lenImmS rfl (tyy rfl) Zl rfl ?_))
  refine G.go ?_
  refine G.loop (σ := Nat) (fun i => [(13, .int .i64 i), (12, .int .i64 a.length), (1, .slice A a.length c), (0, va)]) (fun _ => [.row (.slice A a.length c) 9 1 (strsR a)])
    (fun i _ => i <= a.length) (fun i => a.length - i) 0 ⟨rfl, rfl, rfl, rfl, trivial⟩ Zu (Nat.zero_le _) ?_
  rintro i h1 hle1 hi
  have hva1 : HSl h1 va 1 (strsR a) := hva.mono (by solve | repeat first | assumption | exact Zr _ | refine Zq ?_ Zp)
  by_cases hlt : i < a.length
  . repeat' (first | (refine G.atIdx ?_; refine G.idxImmS rfl rfl (tyy rfl) (tyy rfl) hva1 Zj rfl (by omega) ?_; intro _ _) | (refine G.atCode ?_; first | refine G.seq ?_ | refine G.region ?_ | refine G.block ?_ | refine G.skip ?_ | refine G.drawAll slB Zw mixedOk Zw ?_ | (refine G.cond rfl ?_ ?_ <;> intro hc <;> (try simp only [tests, reduceCtorEq] at hc) <;> (try exact Zf))) | refine G.endOps ?_ | refine G.endStill ?_ | refine G.endBlk ?_ | (refine G.atBin ?_; first | (refine G.atAdd ?_; first | refine G.arith rfl rfl rfl rfl rfl Zi ?_) | (refine G.atNeq ?_; first | refine G.neStr rfl rfl rfl ?_) | refine G.op rfl rfl ?_) | refine G.op rfl rfl ?_ | (refine G.atLoad ?_; first | refine G.loadImm1 rfl (tyy rfl) rfl rfl Zp rfl ?_ | refine G.loadRowS rfl (tyy rfl) Zp Za Zo rfl ?_) | (refine G.atIdx ?_; first | (refine G.idxRow' rfl rfl (tyy rfl) (tyy rfl) Za Zj rfl Zo ?_; intro _ _)))
    all_goals first | exact G.again (i + 1) ⟨sint (by simp), rfl, rfl, rfl, trivial⟩ Zu (by omega) (by solve | repeat first | assumption | exact Zr _ | refine Zq ?_ Zp) (by omega) | trace_state
  . repeat' (first | (refine G.atCode ?_; first | refine G.seq ?_ | refine G.region ?_ | refine G.exit rfl ?_ | refine G.ret ?_ | (refine G.cond rfl ?_ ?_ <;> intro hc <;> (try simp only [tests, reduceCtorEq] at hc) <;> (try exact Zf))) | refine G.endOps ?_ | (refine G.atBin ?_; first | refine G.op rfl rfl ?_) | refine G.op rfl rfl ?_)
    all_goals first | (exfalso; omega) | exact G.done1 rfl rfl _ Zu ⟨rfl, rfl⟩
theorem la_openR {D : Dk} {told : List B8} {op : Bool} {maybe : B8} {m : Nat} {T : List Tr} (ho : D.off = false) (hw : D.W = []) (hl : D.lasts.length = 40) (hlim : D.limit = 40) (hr : NotMix T -> LaR D told op maybe m) (hm : m < 1000) :
    (∃ D' bs e, openM D = (D', none, bs, e) /\ (NotMix (T ++ openT D) -> e = 10 /\ Gone D D' /\ LaR D' told op maybe (m + 1))) ∨
    (∃ D' J bs, openM D = (D', some J, bs, 0) /\ openT D = [] /\ bs.length <= 8192 /\ (NotMix T -> Kept D D' /\ Live D'.lasts 19 J bs /\ J.gen <= m + 1 /\ (bs = told \/ (op = true /\ bs = told ++ [maybe])))) := by
  rcases openM_or (D := D) (by omega) with ⟨D', e, bs, o⟩ | ⟨D', J, bs, o, hb⟩
  . refine .inl ⟨D', bs, e, o, fun hn => ?_⟩
    rcases la_open ho hw hl hlim (hr hn.left) hm hn.right with ⟨D2, J2, e2, _⟩ | ⟨D2, e2, g, r⟩
    . rw [o] at e2
      injection e2 with _ e2
      injection e2 with e2 _
      cases e2
    . rw [o] at e2
      injection e2 with e3 e2
      injection e2 with _ e2
      injection e2 with _ e2
      subst e3 e2
      exact ⟨rfl, g, r⟩
  . have ht : openT D = [] := openT_ok (by rw [o])
    refine .inr ⟨D', J, bs, o, ht, hb, fun hn => ?_⟩
    have hrr := hr hn
    rcases la_open ho hw hl hlim hrr hm (by rw [ht]; intro t ht; cases ht) with ⟨D2, J2, e2, k, l, g⟩ | ⟨D2, e2, _⟩
    . rw [o] at e2
      injection e2 with e3 e2
      injection e2 with e4 e2
      injection e2 with e5 _
      injection e4 with e4
      subst e3 e4
      rw [<- e5] at l
      exact ⟨k, l, g, by rw [e5]; exact hrr.r⟩
    . rw [o] at e2
      injection e2 with _ e2
      injection e2 with e2 _
      cases e2
end Go.Proofs.YtmbpjgjajedonaaGreatDoor
