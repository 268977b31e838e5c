/- Filters: the reader's item. -/
import Derived.Test.YtcghcdnmpjhifaaDoorFlV
namespace Go.Proofs.YtcghcdnmpjhifaaDoor
set_option linter.all false
open Go.RowKit

theorem callItem : Callable Tryd.prog 29 := ⟨_, Tryd.func29, by kernel_rfl, rfl⟩
def kindsC : List Value := [.int .i64 3, .int .i64 5, .int .i64 6, .int .i64 8]
def signsC : List Value := [str [61], str [62, 61], str [60, 61], str [126, 61]]
/-- The tables lie there. -/
def Tabs (h : Heap) : Prop := HCells h ⟨0, 0, none⟩ kindsC ∧ HCells h ⟨1, 0, none⟩ signsC
theorem Tabs.mono {h h' : Heap} (t : Tabs h) (hl : Heap.le h h') : Tabs h' := ⟨t.1.mono hl, t.2.mono hl⟩
def sgS (i : Nat) : List UInt8 := match i with
  | 0 => [61]
  | 1 => [62, 61]
  | 2 => [60, 61]
  | _ => [126, 61]
def kdS (i : Nat) : Int := match i with
  | 0 => 3
  | 1 => 5
  | 2 => 6
  | _ => 8
theorem four {i : Nat} (h : i < 4) : i = 0 ∨ i = 1 ∨ i = 2 ∨ i = 3 := by omega
theorem sgS_nth {i : Nat} (h : i < 4) : nthV signsC i = some (str (sgS i)) := by rcases four h with rfl | rfl | rfl | rfl <;> rfl
theorem kdS_part {i : Nat} (h : i < 4) : partL kindsC (i * 1) 1 = some [.int .i64 (kdS i)] := by rcases four h with rfl | rfl | rfl | rfl <;> rfl
theorem kdS_in {i : Nat} : 3 ≤ kdS i ∧ kdS i ≤ 8 := by unfold kdS; split <;> omega
theorem sgS_len (i : Nat) : (sgS i).length ≤ 2 := by unfold sgS; split <;> decide
theorem preM_two {a b : UInt8} {s : List UInt8} (h : preM [a, b] s = true) : ∃ l, s = a :: b :: l := by
  unfold preM at h
  simp only [List.length_cons, List.length_nil, decide_eq_true_eq] at h
  match s, h with
  | [], h => simp at h
  | [x], h => simp at h
  | x :: y :: l, h => simp at h; obtain ⟨rfl, rfl⟩ := h; exact ⟨l, rfl⟩
theorem sg_yes {i : Nat} (hi : i < 4) {s : List UInt8} (h : preM (sgS i) s = true) : signM s = some (kdS i, cutP (sgS i) s) := by
  have e : cutP (sgS i) s = s.drop (sgS i).length := by unfold cutP; rw [if_pos h]
  rw [e]
  rcases four hi with rfl | rfl | rfl | rfl
  · obtain ⟨l, rfl⟩ := preM_one h; rfl
  · obtain ⟨l, rfl⟩ := preM_two h; rfl
  · obtain ⟨l, rfl⟩ := preM_two h; rfl
  · obtain ⟨l, rfl⟩ := preM_two h; rfl
theorem preM_cons1 {a : UInt8} {l : List UInt8} : preM [a] (a :: l) = true := by unfold preM; simp
theorem preM_cons2 {a b : UInt8} {l : List UInt8} : preM [a, b] (a :: b :: l) = true := by unfold preM; simp
theorem sg_no {s : List UInt8} (h : ∀ i, i < 4 → preM (sgS i) s = false) : signM s = none := by
  have h0 := h 0 (by omega)
  have h1 := h 1 (by omega)
  have h2 := h 2 (by omega)
  have h3 := h 3 (by omega)
  simp only [sgS] at h0 h1 h2 h3
  match s with
  | [] => rfl
  | b :: l =>
    rw [signM_eq]
    by_cases hb : b.toNat = 61
    · obtain rfl := byte_of hb (by decide)
      rw [show UInt8.ofNat 61 = (61 : UInt8) from rfl, preM_cons1] at h0; cases h0
    · rw [if_neg hb]
      match l with
      | [] => rfl
      | c :: r =>
        simp only
        by_cases hc : c.toNat = 61
        · obtain rfl := byte_of hc (by decide)
          rw [show UInt8.ofNat 61 = (61 : UInt8) from rfl] at *
          rw [if_pos (by rfl)]
          by_cases n1 : b.toNat = 62
          · obtain rfl := byte_of n1 (by decide); rw [show UInt8.ofNat 62 = (62 : UInt8) from rfl, preM_cons2] at h1; cases h1
          · rw [if_neg n1]
            by_cases n2 : b.toNat = 60
            · obtain rfl := byte_of n2 (by decide); rw [show UInt8.ofNat 60 = (60 : UInt8) from rfl, preM_cons2] at h2; cases h2
            · rw [if_neg n2]
              by_cases n3 : b.toNat = 126
              · obtain rfl := byte_of n3 (by decide); rw [show UInt8.ofNat 126 = (126 : UInt8) from rfl, preM_cons2] at h3; cases h3
              · rw [if_neg n3]
        · rw [if_neg hc]
theorem splS_mem (c : UInt8) : ∀ (s : List UInt8) (x : List UInt8), x ∈ splS c s → x.length ≤ s.length
  | [], x, h => by simp [splS] at h; subst h; exact Nat.le_refl _
  | b :: l, x, h => by
    have ih := splS_mem c l
    by_cases hb : b = c
    · subst hb
      rw [splS_cons_eq] at h
      rcases List.mem_cons.1 h with rfl | h
      · simp
      · have := ih _ h; simp only [List.length_cons]; omega
    · obtain ⟨p, ps, hp⟩ : ∃ p ps, splS c l = p :: ps := List.exists_cons_of_ne_nil (splS_ne _ _)
      rw [splS_cons_ne hb hp] at h
      rw [hp] at ih
      rcases List.mem_cons.1 h with rfl | h
      · have := ih p (by simp); simp only [List.length_cons]; omega
      · have := ih x (by simp [h]); simp only [List.length_cons]; omega
/-- Two parts and nothing in them: a star alone. -/
theorem star_iff {s : List UInt8} {P : List (List UInt8)} (h : (splS 42 s).mapM plainM = some P) : s = [42] ↔ P = [[], []] := by
  constructor
  · rintro rfl
    have : (splS 42 [42]).mapM plainM = some [[], []] := by decide
    rw [this] at h; exact (Option.some.inj h).symm
  · rintro rfl
    have hc : ∀ (q : List UInt8) (P : List (List UInt8)), (splS 42 q).mapM plainM = some ([] :: P) → (q = [] ∧ P = []) ∨ ∃ r, q = 42 :: r ∧ (splS 42 r).mapM plainM = some P := by
      intro q P h
      cases q with
      | nil => have : (splS 42 []).mapM plainM = some [[]] := by decide
               rw [this] at h; injection h with h; injection h with _ h; exact .inl ⟨rfl, h.symm⟩
      | cons b l =>
        by_cases hb : b = 42
        · subst hb
          rw [splS_cons_eq, List.mapM_cons] at h
          cases h2 : (splS 42 l).mapM plainM with
          | none => rw [h2] at h; simp [plainM] at h
          | some v => rw [h2] at h; simp [plainM] at h; subst h; exact .inr ⟨l, rfl, h2⟩
        · obtain ⟨p, ps, hp⟩ : ∃ p ps, splS 42 l = p :: ps := List.exists_cons_of_ne_nil (splS_ne _ _)
          rw [splS_cons_ne hb hp, List.mapM_cons] at h
          cases h1 : plainM (b :: p) with
          | none => rw [h1] at h; cases h
          | some v =>
            rw [h1] at h
            cases h2 : ps.mapM plainM with
            | none => rw [h2] at h; simp at h
            | some w => rw [h2] at h; simp at h; obtain ⟨rfl, _⟩ := h; exact absurd (plainM_nil h1) (by simp)
    rcases hc _ _ h with ⟨_, h3⟩ | ⟨r, rfl, h3⟩
    · cases h3
    · clear h
      rcases hc _ _ h3 with ⟨rfl, _⟩ | ⟨q, rfl, h⟩
      · rfl
      · exfalso
        have := splS_len 42 q
        obtain ⟨p, ps, hp⟩ : ∃ p ps, splS 42 q = p :: ps := List.exists_cons_of_ne_nil (splS_ne _ _)
        rw [hp, List.mapM_cons] at h
        cases h1 : plainM p with
        | none => rw [h1] at h; cases h
        | some v =>
          rw [h1] at h
          cases h2 : ps.mapM plainM with
          | none => rw [h2] at h; simp at h
          | some w => rw [h2] at h; simp at h
theorem str_IndexAnyQ (s : List UInt8) (hs : s.length ≤ 1000000000) (hh : hitQ s) (h : Heap) : Spec Tryd.prog 40 [str s, str sgn] h [] (fun u _ H' => u = .int .i64 (stpQ s : Nat) ∧ H' = []) :=
  (str_IndexAny s hs h).mono fun _ _ _ ⟨⟨a, h1, h2⟩, h3⟩ _ => ⟨by rw [h1, h2.2.2.1 hh], h3⟩
def zFv : Value := .agg #[.int .i64 0, str [], str [], .slice none 0 0, .slice none 0 0]
/-- What is left of a reader. -/
def FrdLe (g : Nat) (s : List UInt8) (n : Int) (H' : List Chunk) : Prop := ∃ s', s'.length ≤ s.length ∧ H' = [frd g s' n]
def ItemR (g : Nat) (s : List UInt8) (n : Int) (u : Value) (h' : Heap) (H' : List Chunk) : Option (Fl × List UInt8) → Prop
  | none => FrdLe g s n H' ∧ u = .tuple #[zFv, .int .i64 4]
  | some (f, r) => H' = [frd g r n] ∧ ∃ c, FlC h' f c ∧ u = .tuple #[.agg c.toArray, .int .i64 0]

set_option maxRecDepth 8000 in
set_option maxHeartbeats 4000000 in
theorem filt_item (g : Nat) (s : List UInt8) (n : Int) (hs : s.length ≤ 10000000) (h : Heap) (hT : Tabs h) :
    Spec Tryd.prog 29 [.pointer (some ⟨g, 0, none⟩)] h [frd g s n] (fun u h' H' => ItemR g s n u h' H' (itemM s)) := by
  unfold frd
  by_cases hg : hitQ s ∧ typeM (s.take (stpQ s)) = true
  rotate_left
  · rw [itemM_none hg]
    refine Spec.enter Tryd.func29 rfl rfl ?_; intro w0
    repeat' (first | (refine G.atCode ?_; first | refine G.seq ?_ | refine G.region ?_) | refine G.endOps ?_ | refine G.op rfl rfl ?_ | (refine G.atLoad ?_; first | refine G.loadOwn1 rfl (tyy rfl) rfl rfl (by solve | (repeat (first | apply Take.hd | apply Take.tl))) rfl rfl ?_) | (refine G.atFld ?_; first | refine G.fieldAddr rfl (tyy rfl) rfl rfl ?_) | (refine G.atAlc ?_; refine G.alloc (tyy rfl) rfl rfl ?_; intro _))
    show G _ (.ops .seq _ (⟨some _, .call { callee := .value (.func 40), args := _, argTypes := _ }, _, _, _, none⟩ :: _) :: _) _ _ _
    refine G.call callIdxA rfl rfl (str_IndexAny s (by omega) _) (by solve | (repeat (first | apply Takes.nil | apply Take.hd | apply Take.tl | apply Takes.cons))) ?_
    rintro _ h2 H2 ⟨⟨a, rfl, hA⟩, rfl⟩ hle2
    have hbad : 0 ≤ a → typeM (s.take a.toNat) = false := fun ha => by
      by_cases hh : hitQ s
      · have e := hA.2.2.1 hh
        subst e
        rw [Int.toNat_natCast]
        cases h9 : typeM (s.take (stpQ s)) with
        | true => exact absurd ⟨hh, h9⟩ hg
        | false => rfl
      · obtain ⟨i, h1, h2, h3⟩ := hA.typ hh ha
        refine typeM_no (i := i) (by rw [List.length_take]; omega) ?_
        rw [byteAt_take h1]
        cases h9 : isTc (byteAt s i) with
        | false => rfl
        | true => have := (tc_low h9).1; omega
    obtain ⟨A1, A2, _, _⟩ := hA
    repeat' (first | (show G _ (.ops .seq _ (⟨some _, .call { callee := .value (.func 33), args := _, argTypes := _ }, _, _, _, none⟩ :: _) :: _) _ _ _; refine G.call callType9 rfl rfl (dn_Type _ _) (by solve | (repeat (first | apply Takes.nil | apply Take.hd | apply Take.tl | apply Takes.cons))) ?_; rintro _ h3 H3 ⟨rfl, rfl⟩ hle3; rw [hbad (by omega)]) | (refine G.atCode ?_; first | refine G.seq ?_ | refine G.region ?_ | refine G.ret ?_ | (refine G.cond rfl ?_ ?_ <;> intro hc <;> (try simp only [tests, reduceCtorEq] at hc) <;> (try (exfalso; first | omega | exact absurd hc (by with_reducible assumption) | exact absurd (by with_reducible assumption) hc | exact Bool.noConfusion hc | exact hc | exact hc trivial | fail)))) | refine G.endOps ?_ | (refine G.atGd ?_; first | refine G.guardYes rfl rfl ?_ | refine G.guardNoS rfl rfl rfl ?_ | (refine G.guardS rfl rfl rfl ?_ ?_ <;> intro hc <;> (try simp only [tests, reduceCtorEq] at hc) <;> (try (exfalso; first | omega | exact absurd hc (by with_reducible assumption) | exact absurd (by with_reducible assumption) hc | exact Bool.noConfusion hc | exact hc | exact hc trivial | fail)))) | (refine G.atBin ?_; first | refine G.op rfl rfl ?_) | refine G.op rfl rfl ?_ | (refine G.atLoad ?_; first | refine G.loadOwn1 rfl (tyy rfl) rfl rfl (by solve | (repeat (first | apply Take.hd | apply Take.tl))) rfl rfl ?_) | (refine G.atFld ?_; first | refine G.fieldAddr rfl (tyy rfl) rfl rfl ?_) | (refine G.atSto ?_; refine G.storeOwn rfl rfl (tyy rfl) (by solve | (repeat (first | apply Take.hd | apply Take.tl))) rfl rfl rfl rfl ?_) | (refine G.atBld ?_; refine G.build (tyy rfl) rfl rfl rfl ?_) | (refine G.atSlc ?_; first | refine G.takeStr rfl rfl (tyy rfl) rfl (by first | (simp only [Int.reduceToNat]; rfl) | with_reducible apply Int.toNat_natCast | exact Eq.refl _) (by first | omega | (simp only [lens] at *; omega)) ?_))
    all_goals first | (exfalso; omega) | exact G.done (rs := [.cell 2 25, .tmp 3]) rfl (.cellA rfl (tyy rfl) rfl rfl (by solve | (repeat (first | apply Take.hd | apply Take.tl))) rfl (.tmp rfl .nil)) rfl [frd g s n] (by solve | (apply Takes.sub; (repeat (first | apply Takes.nil | apply Take.hd | apply Take.tl | apply Takes.cons)))) ⟨⟨s, Nat.le_refl _, rfl⟩, rfl⟩
  obtain ⟨hh, ht⟩ := hg
  obtain ⟨hq, hq1⟩ := typL_hit hh ht
  have hql := typL_le s
  have hq0 : ¬ typL s = 0 := by omega
  generalize hR0 : itemM s = R
  rw [itemM, if_neg hq0] at hR0
  have hIA := str_IndexAnyQ s (by omega) hh
  rw [← hq] at hIA ht
  generalize typL s = q at *
  clear hq hh
  generalize hTx : s.drop q = T at *
  have hTl : T.length ≤ s.length := by rw [← hTx, List.length_drop]; omega
  generalize hat : s.take q = attr at *
  refine Spec.enter Tryd.func29 rfl rfl ?_; intro w0
  repeat' (first | (show G _ (.ops .seq _ (⟨some _, .call { callee := .value (.func 40), args := _, argTypes := _ }, _, _, _, none⟩ :: _) :: _) _ _ _; refine G.call callIdxA rfl rfl (hIA _) (by solve | (repeat (first | apply Takes.nil | apply Take.hd | apply Take.tl | apply Takes.cons))) ?_; rintro _ h2 H2 ⟨rfl, rfl⟩ hle2) | (show G _ (.ops .seq _ (⟨some _, .call { callee := .value (.func 33), args := _, argTypes := _ }, _, _, _, none⟩ :: _) :: _) _ _ _; rw [hat]; refine G.call callType9 rfl rfl (dn_Type _ _) (by solve | (repeat (first | apply Takes.nil | apply Take.hd | apply Take.tl | apply Takes.cons))) ?_; rintro _ h3 H3 ⟨rfl, rfl⟩ hle3; rw [ht]) | (refine G.atLoad ?_; refine G.loadImmA rfl (tyy rfl) rfl rfl (hT.mono (by solve | (repeat (first | assumption | exact Heap.le_refl _ | (refine Heap.le_trans ?_ (by assumption)))))).2 rfl rfl ?_) | (refine G.atCode ?_; refine G.stopLoop ?_) | (refine G.atCode ?_; first | refine G.seq ?_ | refine G.region ?_ | refine G.block ?_ | refine G.skip ?_ | (refine G.cond rfl ?_ ?_ <;> intro hc <;> (try simp only [tests, reduceCtorEq] at hc) <;> (try (exfalso; first | omega | exact absurd hc (by with_reducible assumption) | exact absurd (by with_reducible assumption) hc | exact Bool.noConfusion hc | exact hc | exact hc trivial | fail)))) | refine G.endOps ?_ | (refine G.atGd ?_; first | refine G.guardYes rfl rfl ?_) | (refine G.atBin ?_; first | refine G.op rfl rfl ?_) | refine G.op rfl rfl ?_ | (refine G.atLoad ?_; first | refine G.loadOwn1 rfl (tyy rfl) rfl rfl (by solve | (repeat (first | apply Take.hd | apply Take.tl))) rfl rfl ?_) | (refine G.atFld ?_; first | refine G.fieldAddr rfl (tyy rfl) rfl rfl ?_) | (refine G.atSto ?_; refine G.storeOwn rfl rfl (tyy rfl) (by solve | (repeat (first | apply Take.hd | apply Take.tl))) rfl rfl rfl rfl ?_) | (refine G.atAlc ?_; refine G.alloc (tyy rfl) rfl rfl ?_; intro _) | (refine G.atBld ?_; refine G.build (tyy rfl) rfl rfl rfl ?_) | (refine G.atSlc ?_; first | refine G.dropStr rfl rfl (tyy rfl) rfl (by first | (simp only [Int.reduceToNat]; rfl) | with_reducible apply Int.toNat_natCast | exact Eq.refl _) (by first | omega | (simp only [lens] at *; omega)) ?_ | refine G.takeStr rfl rfl (tyy rfl) rfl (by first | (simp only [Int.reduceToNat]; rfl) | with_reducible apply Int.toNat_natCast | exact Eq.refl _) (by first | omega | (simp only [lens] at *; omega)) ?_))
  all_goals try (exfalso; omega)
  rename_i gr gf
  rw [hTx, hat]
  refine G.go ?_
  refine G.loop (σ := Nat × Int × List UInt8) (fun x => [(54, .int .i64 x.1), (53, .agg signsC.toArray), (0, .pointer (some ⟨g, 0, none⟩)), (5, .pointer (some ⟨gf, 0, none⟩)), (2, .pointer (some ⟨gr, 0, none⟩))])
    (fun x => [.blk g [str x.2.2, .int .i64 n] 47, .blk gf [.int .i64 x.2.1, str attr, str [], .slice none 0 0, .slice none 0 0] 25, .blk gr [.int .i64 0, str [], str [], .slice none 0 0, .slice none 0 0] 25])
    (fun x _ => x.1 ≤ 4 ∧ x.2.2.length ≤ s.length ∧ ((x.2.1 = -1 ∧ x.2.2 = T ∧ ∀ j, j < x.1 → preM (sgS j) T = false) ∨ (signM T = some (x.2.1, x.2.2) ∧ 3 ≤ x.2.1 ∧ x.2.1 ≤ 8))) (fun x => 4 - x.1) ⟨0, -1, T⟩
    ⟨rfl, rfl, rfl, rfl, rfl, trivial⟩ (by solve | (apply Takes.sub; (repeat (first | apply Takes.nil | apply Take.hd | apply Take.tl | apply Takes.cons)))) ⟨Nat.zero_le _, hTl, .inl ⟨rfl, rfl, fun j hj => absurd hj (by simp)⟩⟩ ?_
  rintro ⟨i, k, tx⟩ h4 hle4 ⟨hi, htl, hinv⟩
  simp only at hi htl hinv
  refine G.norm (by (try dsimp only) <;> exact rfl) (by (try dsimp only) <;> exact rfl) ?_
  by_cases hlt : i < 4
  · have hsg := sgS_nth hlt
    have hkd := kdS_part hlt
    have hkb := kdS_in (i := i)
    have hsl := sgS_len i
    rcases hinv with ⟨rfl, rfl, hno⟩ | ⟨hsm, hk1, hk2⟩
    · cases hp : preM (sgS i) tx with
      | false =>
        have hct : cutP (sgS i) tx = tx := by unfold cutP; rw [hp]; rfl
        repeat' (first | (refine G.idxArr rfl rfl (tyy rfl) (tyy rfl) rfl rfl (by first | (simp only [Int.reduceToNat]; rfl) | with_reducible apply Int.toNat_natCast | exact Eq.refl _) hsg rfl (by first | omega | (simp only [lens] at *; omega)) ?_) | (show G _ (.ops .seq _ (⟨some _, .call { callee := .value (.func 27), args := _, argTypes := _ }, _, _, _, none⟩ :: _) :: _) _ _ _; refine G.call callTake rfl rfl (filt_take g tx (sgS i) n (by omega) (by omega) _) (by solve | (repeat (first | apply Takes.nil | apply Take.hd | apply Take.tl | apply Takes.cons))) ?_; rintro _ h5 H5 ⟨rfl, rfl⟩ hle5; rw [hp, hct]) | (refine G.atCode ?_; first | refine G.seq ?_ | refine G.region ?_ | refine G.block ?_ | refine G.skip ?_ | (refine G.cond rfl ?_ ?_ <;> intro hc <;> (try simp only [tests, reduceCtorEq] at hc) <;> (try (exfalso; first | omega | exact absurd hc (by with_reducible assumption) | exact absurd (by with_reducible assumption) hc | exact Bool.noConfusion hc | exact hc | exact hc trivial | fail)))) | refine G.endOps ?_ | refine G.endBlk ?_ | (refine G.atGd ?_; first | refine G.guardYes rfl rfl ?_) | (refine G.atBin ?_; first | (refine G.atAdd ?_; first | refine G.arith rfl rfl rfl rfl rfl (by simp only [inR]; omega) ?_) | refine G.op rfl rfl ?_) | refine G.op rfl rfl ?_ | (refine G.atLoad ?_; first | refine G.loadOwn1 rfl (tyy rfl) rfl rfl (by solve | (repeat (first | apply Take.hd | apply Take.tl))) rfl rfl ?_) | (refine G.atFld ?_; first | refine G.fieldAddr rfl (tyy rfl) rfl rfl ?_))
        all_goals first | (exfalso; omega) | exact G.again ⟨i + 1, -1, tx⟩ ⟨sint (by simp), rfl, rfl, rfl, rfl, trivial⟩ (by solve | (apply Takes.sub; (repeat (first | apply Takes.nil | apply Take.hd | apply Take.tl | apply Takes.cons)))) ⟨by simp only; omega, htl, .inl ⟨rfl, rfl, fun j hj => if hji : j < i then hno j hji else (show j = i by simp only at hj; omega) ▸ hp⟩⟩ (by solve | (repeat (first | assumption | exact Heap.le_refl _ | (refine Heap.le_trans ?_ (by assumption))))) (by simp only; omega)
      | true =>
        have hsy := sg_yes hlt hp
        have hcl : (cutP (sgS i) tx).length ≤ tx.length := by unfold cutP; split <;> simp only [List.length_drop] <;> omega
        repeat' (first | (refine G.idxArr rfl rfl (tyy rfl) (tyy rfl) rfl rfl (by first | (simp only [Int.reduceToNat]; rfl) | with_reducible apply Int.toNat_natCast | exact Eq.refl _) hsg rfl (by first | omega | (simp only [lens] at *; omega)) ?_) | (show G _ (.ops .seq _ (⟨some _, .call { callee := .value (.func 27), args := _, argTypes := _ }, _, _, _, none⟩ :: _) :: _) _ _ _; refine G.call callTake rfl rfl (filt_take g tx (sgS i) n (by omega) (by omega) _) (by solve | (repeat (first | apply Takes.nil | apply Take.hd | apply Take.tl | apply Takes.cons))) ?_; rintro _ h5 H5 ⟨rfl, rfl⟩ hle5; rw [hp]) | (refine G.atIdx ?_; refine G.idxArrP rfl rfl (tyy rfl) (tyy rfl) (by first | (simp only [Int.reduceToNat]; rfl) | with_reducible apply Int.toNat_natCast | exact Eq.refl _) rfl (by first | omega | (simp only [lens] at *; omega)) ?_) | (refine G.atLoad ?_; refine G.loadImmAt1 rfl (tyy rfl) rfl rfl (hT.mono (by solve | (repeat (first | assumption | exact Heap.le_refl _ | (refine Heap.le_trans ?_ (by assumption)))))).1 hkd rfl ?_) | (refine G.atCode ?_; first | refine G.seq ?_ | refine G.region ?_ | refine G.block ?_ | refine G.skip ?_ | (refine G.cond rfl ?_ ?_ <;> intro hc <;> (try simp only [tests, reduceCtorEq] at hc) <;> (try (exfalso; first | omega | exact absurd hc (by with_reducible assumption) | exact absurd (by with_reducible assumption) hc | exact Bool.noConfusion hc | exact hc | exact hc trivial | fail)))) | refine G.endOps ?_ | refine G.endBlk ?_ | (refine G.atGd ?_; first | refine G.guardYes rfl rfl ?_) | (refine G.atBin ?_; first | (refine G.atAdd ?_; first | refine G.arith rfl rfl rfl rfl rfl (by simp only [inR]; omega) ?_) | refine G.op rfl rfl ?_) | refine G.op rfl rfl ?_ | (refine G.atLoad ?_; first | refine G.loadOwn1 rfl (tyy rfl) rfl rfl (by solve | (repeat (first | apply Take.hd | apply Take.tl))) rfl rfl ?_) | (refine G.atFld ?_; first | refine G.fieldAddr rfl (tyy rfl) rfl rfl ?_) | (refine G.atSto ?_; refine G.storeOwn rfl rfl (tyy rfl) (by solve | (repeat (first | apply Take.hd | apply Take.tl))) rfl rfl rfl rfl ?_))
        all_goals first | (exfalso; omega) | exact G.again ⟨i + 1, kdS i, cutP (sgS i) tx⟩ ⟨sint (by simp), rfl, rfl, rfl, rfl, trivial⟩ (by solve | (apply Takes.sub; (repeat (first | apply Takes.nil | apply Take.hd | apply Take.tl | apply Takes.cons)))) ⟨by simp only; omega, by simp only; omega, .inr ⟨hsy, by simp only; omega, by simp only; omega⟩⟩ (by solve | (repeat (first | assumption | exact Heap.le_refl _ | (refine Heap.le_trans ?_ (by assumption))))) (by simp only; omega)
    · repeat' (first | (refine G.idxArr rfl rfl (tyy rfl) (tyy rfl) rfl rfl (by first | (simp only [Int.reduceToNat]; rfl) | with_reducible apply Int.toNat_natCast | exact Eq.refl _) hsg rfl (by first | omega | (simp only [lens] at *; omega)) ?_) | (refine G.atCode ?_; first | refine G.seq ?_ | refine G.region ?_ | refine G.block ?_ | refine G.skip ?_ | (refine G.cond rfl ?_ ?_ <;> intro hc <;> (try simp only [tests, reduceCtorEq] at hc) <;> (try (exfalso; first | omega | exact absurd hc (by with_reducible assumption) | exact absurd (by with_reducible assumption) hc | exact Bool.noConfusion hc | exact hc | exact hc trivial | fail)))) | refine G.endOps ?_ | refine G.endBlk ?_ | (refine G.atGd ?_; first | refine G.guardNoS rfl rfl rfl ?_ | (refine G.guardS rfl rfl rfl ?_ ?_ <;> intro hc <;> (try simp only [tests, reduceCtorEq] at hc) <;> (try (exfalso; first | omega | exact absurd hc (by with_reducible assumption) | exact absurd (by with_reducible assumption) hc | exact Bool.noConfusion hc | exact hc | exact hc trivial | fail)))) | (refine G.atBin ?_; first | (refine G.atAdd ?_; first | refine G.arith rfl rfl rfl rfl rfl (by simp only [inR]; omega) ?_) | refine G.op rfl rfl ?_) | refine G.op rfl rfl ?_ | (refine G.atLoad ?_; first | refine G.loadOwn1 rfl (tyy rfl) rfl rfl (by solve | (repeat (first | apply Take.hd | apply Take.tl))) rfl rfl ?_) | (refine G.atFld ?_; first | refine G.fieldAddr rfl (tyy rfl) rfl rfl ?_))
      all_goals first | (exfalso; omega) | exact G.again ⟨i + 1, k, tx⟩ ⟨sint (by simp), rfl, rfl, rfl, rfl, trivial⟩ (by solve | (apply Takes.sub; (repeat (first | apply Takes.nil | apply Take.hd | apply Take.tl | apply Takes.cons)))) ⟨by simp only; omega, htl, .inr ⟨hsm, hk1, hk2⟩⟩ (by solve | (repeat (first | assumption | exact Heap.le_refl _ | (refine Heap.le_trans ?_ (by assumption))))) (by simp only; omega)
  obtain rfl : i = 4 := by omega
  rcases hinv with ⟨rfl, rfl, hno⟩ | ⟨hsm, hk1, hk2⟩
  · rw [sg_no hno] at hR0
    simp only at hR0
    subst hR0
    repeat' (first | (show G _ (.ops .seq _ (⟨some _, .call { callee := .value (.func 41), args := _, argTypes := _ }, _, _, _, none⟩ :: _) :: _) _ _ _; refine G.call callCut rfl rfl (str_Cut tx (by omega) 41 _) (by solve | (repeat (first | apply Takes.nil | apply Take.hd | apply Take.tl | apply Takes.cons))) ?_; rintro _ h5 H5 ⟨rfl, rfl⟩ hle5; unfold cutV) | (refine G.atCode ?_; first | refine G.seq ?_ | refine G.region ?_ | refine G.exit rfl ?_ | refine G.ret ?_ | (refine G.cond rfl ?_ ?_ <;> intro hc <;> (try simp only [tests, reduceCtorEq] at hc) <;> (try (exfalso; first | omega | exact absurd hc (by with_reducible assumption) | exact absurd (by with_reducible assumption) hc | exact Bool.noConfusion hc | exact hc | exact hc trivial | fail)))) | refine G.endOps ?_ | (refine G.atGd ?_; first | refine G.guardNoS rfl rfl rfl ?_) | (refine G.atBin ?_; first | refine G.op rfl rfl ?_) | refine G.op rfl rfl ?_ | (refine G.atLoad ?_; first | refine G.loadOwn1 rfl (tyy rfl) rfl rfl (by solve | (repeat (first | apply Take.hd | apply Take.tl))) rfl rfl ?_) | (refine G.atFld ?_; first | refine G.fieldAddr rfl (tyy rfl) rfl rfl ?_) | (refine G.atSto ?_; refine G.storeOwn rfl rfl (tyy rfl) (by solve | (repeat (first | apply Take.hd | apply Take.tl))) rfl rfl rfl rfl ?_) | (refine G.atBld ?_; refine G.build (tyy rfl) rfl rfl rfl ?_))
    all_goals first | (exfalso; omega) | exact G.done (rs := [.cell 2 25, .tmp 3]) rfl (.cellA rfl (tyy rfl) rfl rfl (by solve | (repeat (first | apply Take.hd | apply Take.tl))) rfl (.tmp rfl .nil)) rfl [frd g tx n] (by solve | (apply Takes.sub; (repeat (first | apply Takes.nil | apply Take.hd | apply Take.tl | apply Takes.cons)))) ⟨⟨tx, htl, rfl⟩, rfl⟩
  rw [hsm] at hR0
  simp only at hR0
  rw [scan_cut, cutM] at hR0
  have hpp := posB_le 41 tx
  have hIl : (tx.take (posB 41 tx)).length ≤ tx.length := by rw [List.length_take]; omega
  have hRl : (tx.drop (posB 41 tx + 1)).length ≤ tx.length := by rw [List.length_drop]; omega
  have hcut : cutV 41 tx = .tuple #[str (tx.take (posB 41 tx)), str (tx.drop (posB 41 tx + 1)), .bool (decide (posB 41 tx < tx.length))] := rfl
  generalize hI : tx.take (posB 41 tx) = I at *
  generalize hRt : tx.drop (posB 41 tx + 1) = Rt at *
  by_cases hpl : posB 41 tx < tx.length
  rotate_left
  · rw [if_neg hpl] at hR0
    simp only at hR0
    subst hR0
    rw [decide_eq_false hpl] at hcut
    repeat' (first | (show G _ (.ops .seq _ (⟨some _, .call { callee := .value (.func 41), args := _, argTypes := _ }, _, _, _, none⟩ :: _) :: _) _ _ _; refine G.call callCut rfl rfl (str_Cut tx (by omega) 41 _) (by solve | (repeat (first | apply Takes.nil | apply Take.hd | apply Take.tl | apply Takes.cons))) ?_; rintro _ h5 H5 ⟨rfl, rfl⟩ hle5; rw [hcut]) | (refine G.atCode ?_; first | refine G.seq ?_ | refine G.region ?_ | refine G.exit rfl ?_ | refine G.ret ?_ | (refine G.cond rfl ?_ ?_ <;> intro hc <;> (try simp only [tests, reduceCtorEq] at hc) <;> (try (exfalso; first | omega | exact absurd hc (by with_reducible assumption) | exact absurd (by with_reducible assumption) hc | exact Bool.noConfusion hc | exact hc | exact hc trivial | fail)))) | refine G.endOps ?_ | (refine G.atGd ?_; first | refine G.guardYes rfl rfl ?_ | (refine G.guardS rfl rfl rfl ?_ ?_ <;> intro hc <;> (try simp only [tests, reduceCtorEq] at hc) <;> (try (exfalso; first | omega | exact absurd hc (by with_reducible assumption) | exact absurd (by with_reducible assumption) hc | exact Bool.noConfusion hc | exact hc | exact hc trivial | fail)))) | (refine G.atBin ?_; first | refine G.op rfl rfl ?_) | refine G.op rfl rfl ?_ | (refine G.atLoad ?_; first | refine G.loadOwn1 rfl (tyy rfl) rfl rfl (by solve | (repeat (first | apply Take.hd | apply Take.tl))) rfl rfl ?_) | (refine G.atFld ?_; first | refine G.fieldAddr rfl (tyy rfl) rfl rfl ?_) | (refine G.atSto ?_; refine G.storeOwn rfl rfl (tyy rfl) (by solve | (repeat (first | apply Take.hd | apply Take.tl))) rfl rfl rfl rfl ?_) | (refine G.atBld ?_; refine G.build (tyy rfl) rfl rfl rfl ?_))
    all_goals first | (exfalso; omega) | exact G.done (rs := [.cell 2 25, .tmp 3]) rfl (.cellA rfl (tyy rfl) rfl rfl (by solve | (repeat (first | apply Take.hd | apply Take.tl))) rfl (.tmp rfl .nil)) rfl [frd g tx n] (by solve | (apply Takes.sub; (repeat (first | apply Takes.nil | apply Take.hd | apply Take.tl | apply Takes.cons)))) ⟨⟨tx, htl, rfl⟩, rfl⟩
  rw [if_pos hpl] at hR0
  rw [decide_eq_true hpl] at hcut
  have hsb := splS_bound 42 I
  have hsm2 := splS_mem 42 I
  have hstar := fun P => star_iff (s := I) (P := P)
  have hRP0 : ((splS 42 I).mapM plainM).map (([] : List (List UInt8)) ++ ·) = (splS 42 I).mapM plainM := by cases (splS 42 I).mapM plainM <;> rfl
  have hne := splS_len 42 I
  repeat' (first | (show G _ (.ops .seq _ (⟨some _, .call { callee := .value (.func 41), args := _, argTypes := _ }, _, _, _, none⟩ :: _) :: _) _ _ _; refine G.call callCut rfl rfl (str_Cut tx (by omega) 41 _) (by solve | (repeat (first | apply Takes.nil | apply Take.hd | apply Take.tl | apply Takes.cons))) ?_; rintro _ h5 H5 ⟨rfl, rfl⟩ hle5; rw [hcut]) | (show G _ (.ops .seq _ (⟨some _, .call { callee := .value (.func 42), args := _, argTypes := _ }, _, _, _, none⟩ :: _) :: _) _ _ _; refine G.call callSplit rfl rfl (str_Split I (by omega) 42 _) (by solve | (repeat (first | apply Takes.nil | apply Take.hd | apply Take.tl | apply Takes.cons))) ?_; rintro u6 h6 H6 rfl hle6) | (refine G.atCode ?_; refine G.stopLoop ?_) | (refine G.atCode ?_; first | refine G.seq ?_ | refine G.region ?_ | refine G.block ?_ | refine G.skip ?_ | refine G.exit rfl ?_ | (refine G.cond rfl ?_ ?_ <;> intro hc <;> (try simp only [tests, reduceCtorEq] at hc) <;> (try (exfalso; first | omega | exact absurd hc (by with_reducible assumption) | exact absurd (by with_reducible assumption) hc | exact Bool.noConfusion hc | exact hc | exact hc trivial | fail)))) | refine G.endOps ?_ | (refine G.atGd ?_; first | refine G.guardYes rfl rfl ?_ | (refine G.guardS rfl rfl rfl ?_ ?_ <;> intro hc <;> (try simp only [tests, reduceCtorEq] at hc) <;> (try (exfalso; first | omega | exact absurd hc (by with_reducible assumption) | exact absurd (by with_reducible assumption) hc | exact Bool.noConfusion hc | exact hc | exact hc trivial | fail)))) | (refine G.atBin ?_; first | refine G.op rfl rfl ?_) | refine G.op rfl rfl ?_ | (refine G.atLen ?_; first | refine G.lenRowS rfl (tyy rfl) (by solve | (repeat (first | apply Take.hd | apply Take.tl))) rfl ?_) | (refine G.atLoad ?_; first | refine G.loadOwn1 rfl (tyy rfl) rfl rfl (by solve | (repeat (first | apply Take.hd | apply Take.tl))) rfl rfl ?_) | (refine G.atFld ?_; first | refine G.fieldAddr rfl (tyy rfl) rfl rfl ?_) | (refine G.atSto ?_; refine G.storeOwn rfl rfl (tyy rfl) (by solve | (repeat (first | apply Take.hd | apply Take.tl))) rfl rfl rfl rfl ?_))
  all_goals try (exfalso; omega)
  refine G.nilRow 9 1 ?_
  refine G.go ?_
  generalize splS 42 I = L at *
  generalize hRP : L.mapM plainM = RP at *
  refine G.loop (σ := Nat × Value × List (List UInt8)) (fun x => [(95, .int .i64 x.1), (94, .int .i64 L.length), (93, u6), (11, x.2.1), (8, str I), (0, .pointer (some ⟨g, 0, none⟩)), (5, .pointer (some ⟨gf, 0, none⟩)), (2, .pointer (some ⟨gr, 0, none⟩))])
    (fun x => [.row u6 9 1 (strsR L), .row x.2.1 9 1 (strsR x.2.2), .blk g [str Rt, .int .i64 n] 47, .blk gf [.int .i64 k, str attr, str [], .slice none 0 0, .slice none 0 0] 25, .blk gr [.int .i64 0, str [], str [], .slice none 0 0, .slice none 0 0] 25])
    (fun x _ => x.1 ≤ L.length ∧ x.2.2.length = x.1 ∧ ((L.drop x.1).mapM plainM).map (x.2.2 ++ ·) = RP) (fun x => L.length - x.1) ⟨0, .slice none 0 0, []⟩
    ⟨rfl, rfl, rfl, rfl, rfl, rfl, rfl, rfl, trivial⟩ (by solve | (apply Takes.sub; (repeat (first | apply Takes.nil | apply Take.hd | apply Take.tl | apply Takes.cons)))) ⟨Nat.zero_le _, rfl, by rw [List.drop_zero, hRP]; exact hRP0⟩ ?_
  rintro ⟨i, v, P⟩ h7 hle7 ⟨hi, hPl, hinv⟩
  simp only at hi hPl hinv
  refine G.norm (by (try dsimp only) <;> exact rfl) (by (try dsimp only) <;> exact rfl) ?_
  by_cases hlt : i < L.length
  · have hst : strAt L i = L[i] := by unfold strAt; rw [List.getElem?_eq_getElem hlt]; rfl
    have hxl := hsm2 _ (List.getElem_mem hlt)
    rw [List.drop_eq_getElem_cons hlt, List.mapM_cons] at hinv
    generalize L[i] = x at *
    cases hx : plainM x with
    | none =>
      rw [hx] at hinv
      simp only [Option.bind_eq_bind, Option.bind_none, Option.map_none] at hinv
      subst hinv
      simp only [Option.map_none] at hR0
      subst hR0
      repeat' (first | (refine G.atLoad ?_; refine G.loadRowS rfl (tyy rfl) (by assumption) (by solve | (repeat (first | apply Take.hd | apply Take.tl))) (by first | omega | (simp only [lens] at *; omega)) rfl ?_; rw [hst]) | (show G _ (.ops .seq _ (⟨some _, .call { callee := .value (.func 43), args := _, argTypes := _ }, _, _, _, none⟩ :: _) :: _) _ _ _; refine G.call callFPlain rfl rfl (filt_plain x (by omega) _) (by solve | (repeat (first | apply Takes.nil | apply Take.hd | apply Take.tl | apply Takes.cons))) ?_; rintro _ h8 H8 ⟨rfl, rfl⟩ hle8; rw [hx]) | (refine G.atCode ?_; first | refine G.seq ?_ | refine G.region ?_ | refine G.block ?_ | refine G.skip ?_ | refine G.ret ?_ | (refine G.cond rfl ?_ ?_ <;> intro hc <;> (try simp only [tests, reduceCtorEq] at hc) <;> (try (exfalso; first | omega | exact absurd hc (by with_reducible assumption) | exact absurd (by with_reducible assumption) hc | exact Bool.noConfusion hc | exact hc | exact hc trivial | fail)))) | refine G.endOps ?_ | (refine G.atBin ?_; first | refine G.op rfl rfl ?_) | refine G.op rfl rfl ?_ | (refine G.atSto ?_; refine G.storeOwn rfl rfl (tyy rfl) (by solve | (repeat (first | apply Take.hd | apply Take.tl))) rfl rfl rfl rfl ?_) | (refine G.atBld ?_; refine G.build (tyy rfl) rfl rfl rfl ?_) | (refine G.atIdx ?_; first | (refine G.idxRow' rfl rfl (tyy rfl) (tyy rfl) (by solve | (repeat (first | apply Take.hd | apply Take.tl))) (by first | (simp only [Int.reduceToNat]; rfl) | with_reducible apply Int.toNat_natCast | exact Eq.refl _) rfl (by first | omega | (simp only [lens] at *; omega)) ?_; intro _ _)))
      all_goals first | (exfalso; omega) | exact G.done (rs := [.cell 2 25, .tmp 3]) rfl (.cellA rfl (tyy rfl) rfl rfl (by solve | (repeat (first | apply Take.hd | apply Take.tl))) rfl (.tmp rfl .nil)) rfl [frd g Rt n] (by solve | (apply Takes.sub; (repeat (first | apply Takes.nil | apply Take.hd | apply Take.tl | apply Takes.cons)))) ⟨⟨Rt, by omega, rfl⟩, rfl⟩
    | some y =>
      rw [hx] at hinv
      repeat' (first | (refine G.atLoad ?_; refine G.loadRowS rfl (tyy rfl) (by assumption) (by solve | (repeat (first | apply Take.hd | apply Take.tl))) (by first | omega | (simp only [lens] at *; omega)) rfl ?_; rw [hst]) | (show G _ (.ops .seq _ (⟨some _, .call { callee := .value (.func 43), args := _, argTypes := _ }, _, _, _, none⟩ :: _) :: _) _ _ _; refine G.call callFPlain rfl rfl (filt_plain x (by omega) _) (by solve | (repeat (first | apply Takes.nil | apply Take.hd | apply Take.tl | apply Takes.cons))) ?_; rintro _ h8 H8 ⟨rfl, rfl⟩ hle8; rw [hx]) | (refine G.atCode ?_; first | refine G.seq ?_ | refine G.region ?_ | refine G.block ?_ | refine G.skip ?_ | (refine G.cond rfl ?_ ?_ <;> intro hc <;> (try simp only [tests, reduceCtorEq] at hc) <;> (try (exfalso; first | omega | exact absurd hc (by with_reducible assumption) | exact absurd (by with_reducible assumption) hc | exact Bool.noConfusion hc | exact hc | exact hc trivial | fail)))) | refine G.endOps ?_ | refine G.endBlk ?_ | (refine G.atBin ?_; first | (refine G.atAdd ?_; first | refine G.arith rfl rfl rfl rfl rfl (by simp only [inR]; omega) ?_) | refine G.op rfl rfl ?_) | refine G.op rfl rfl ?_ | (refine G.atBsl ?_; refine G.buildSlice (tyy rfl) (tyy rfl) rfl rfl rfl rfl ?_; intro _) | (refine G.atApp ?_; first | (refine G.append1S rfl rfl (tyy rfl) (tyy rfl) rfl rfl (by solve | (repeat (first | apply Take.hd | apply Take.tl))) (by solve | (repeat (first | apply Take.hd | apply Take.tl))) rfl (by first | omega | (simp only [lens] at *; omega)) ?_; intro _)) | (refine G.atIdx ?_; first | (refine G.idxRow' rfl rfl (tyy rfl) (tyy rfl) (by solve | (repeat (first | apply Take.hd | apply Take.tl))) (by first | (simp only [Int.reduceToNat]; rfl) | with_reducible apply Int.toNat_natCast | exact Eq.refl _) rfl (by first | omega | (simp only [lens] at *; omega)) ?_; intro _ _)))
      all_goals first | (exfalso; omega) | exact G.again ⟨i + 1, _, P ++ [y]⟩ ⟨sint (by simp), rfl, rfl, rfl, rfl, rfl, rfl, rfl, trivial⟩ (by solve | (apply Takes.sub; (repeat (first | apply Takes.nil | apply Take.hd | apply Take.tl | apply Takes.cons)))) ⟨by simp only; omega, by simp only [List.length_append, List.length_cons, List.length_nil]; omega, by rw [← hinv]; cases (L.drop (i + 1)).mapM plainM <;> simp⟩ (by solve | (repeat (first | assumption | exact Heap.le_refl _ | (refine Heap.le_trans ?_ (by assumption))))) (by simp only; omega)
  obtain rfl : i = L.length := by omega
  rw [List.drop_length] at hinv
  simp only [List.mapM_nil, Option.pure_def, Option.map_some, List.append_nil] at hinv
  subst hinv
  have hstar := hstar P rfl
  simp only [Option.map_some] at hR0
  clear hsm2 hRP0
  by_cases h1 : P.length = 1
  · have hP0 : strAt P 0 = P.headD [] := by
      obtain ⟨p0, ps, rfl⟩ := List.exists_cons_of_length_pos (show 0 < P.length by omega)
      rfl
    rw [finM, if_pos h1, ← hP0] at hR0
    simp only [Option.map_some] at hR0
    subst hR0
    repeat' (first | (refine G.atCode ?_; first | refine G.seq ?_ | refine G.region ?_ | refine G.block ?_ | refine G.exit rfl ?_ | refine G.ret ?_ | (refine G.cond rfl ?_ ?_ <;> intro hc <;> (try simp only [tests, reduceCtorEq] at hc) <;> (try (exfalso; first | omega | exact absurd hc (by with_reducible assumption) | exact absurd (by with_reducible assumption) hc | exact Bool.noConfusion hc | exact hc | exact hc trivial | fail)))) | refine G.endOps ?_ | (refine G.atBin ?_; first | (refine G.atEql ?_; first | refine G.op rfl rfl ?_) | refine G.op rfl rfl ?_) | refine G.op rfl rfl ?_ | (refine G.atLen ?_; first | refine G.lenRowS rfl (tyy rfl) (by solve | (repeat (first | apply Take.hd | apply Take.tl))) rfl ?_) | (refine G.atLoad ?_; first | refine G.loadOwnA rfl (tyy rfl) rfl rfl (by solve | (repeat (first | apply Take.hd | apply Take.tl))) rfl rfl ?_ | refine G.loadRowS rfl (tyy rfl) (by assumption) (by solve | (repeat (first | apply Take.hd | apply Take.tl))) (by first | omega | (simp only [lens] at *; omega)) rfl ?_) | (refine G.atFld ?_; first | refine G.fieldAddr rfl (tyy rfl) rfl rfl ?_) | (refine G.atSto ?_; refine G.storeOwn rfl rfl (tyy rfl) (by solve | (repeat (first | apply Take.hd | apply Take.tl))) rfl rfl rfl rfl ?_) | (refine G.atIdx ?_; first | (refine G.idxRow' rfl rfl (tyy rfl) (tyy rfl) (by solve | (repeat (first | apply Take.hd | apply Take.tl))) (by first | (simp only [Int.reduceToNat]; rfl) | with_reducible apply Int.toNat_natCast | exact Eq.refl _) rfl (by first | omega | (simp only [lens] at *; omega)) ?_; intro _ _)))
    all_goals first | (exfalso; omega) | exact G.done (rs := [.cell 2 25, .tmp 3]) rfl (.cellA rfl (tyy rfl) rfl rfl (by solve | (repeat (first | apply Take.hd | apply Take.tl))) rfl (.tmp rfl .nil)) rfl [frd g Rt n] (by solve | (apply Takes.sub; (repeat (first | apply Takes.nil | apply Take.hd | apply Take.tl | apply Takes.cons)))) ⟨rfl, _, FlC.mk_ (HSl.nil _ 2) (HSl.nil _ 5) (FlsC.nil _), rfl⟩
  rw [finM, if_neg h1] at hR0
  by_cases hk3 : k = 3
  rotate_left
  · rw [if_pos hk3] at hR0
    simp only [Option.map_none] at hR0
    subst hR0
    repeat' (first | (refine G.atCode ?_; first | refine G.seq ?_ | refine G.region ?_ | refine G.block ?_ | refine G.exit rfl ?_ | refine G.ret ?_ | (refine G.cond rfl ?_ ?_ <;> intro hc <;> (try simp only [tests, reduceCtorEq] at hc) <;> (try (exfalso; first | omega | exact absurd hc (by with_reducible assumption) | exact absurd (by with_reducible assumption) hc | exact Bool.noConfusion hc | exact hc | exact hc trivial | fail)))) | refine G.endOps ?_ | (refine G.atBin ?_; first | (refine G.atEql ?_; first | refine G.op rfl rfl ?_) | (refine G.atNeq ?_; first | refine G.op rfl rfl ?_) | refine G.op rfl rfl ?_) | refine G.op rfl rfl ?_ | (refine G.atLen ?_; first | refine G.lenRowS rfl (tyy rfl) (by solve | (repeat (first | apply Take.hd | apply Take.tl))) rfl ?_) | (refine G.atLoad ?_; first | refine G.loadOwn1 rfl (tyy rfl) rfl rfl (by solve | (repeat (first | apply Take.hd | apply Take.tl))) rfl rfl ?_) | (refine G.atFld ?_; first | refine G.fieldAddr rfl (tyy rfl) rfl rfl ?_) | (refine G.atSto ?_; refine G.storeOwn rfl rfl (tyy rfl) (by solve | (repeat (first | apply Take.hd | apply Take.tl))) rfl rfl rfl rfl ?_) | (refine G.atBld ?_; refine G.build (tyy rfl) rfl rfl rfl ?_))
    all_goals first | (exfalso; omega) | exact G.done (rs := [.cell 2 25, .tmp 3]) rfl (.cellA rfl (tyy rfl) rfl rfl (by solve | (repeat (first | apply Take.hd | apply Take.tl))) rfl (.tmp rfl .nil)) rfl [frd g Rt n] (by solve | (apply Takes.sub; (repeat (first | apply Takes.nil | apply Take.hd | apply Take.tl | apply Takes.cons)))) ⟨⟨Rt, by omega, rfl⟩, rfl⟩
  rw [if_neg (fun e => e hk3)] at hR0
  subst hk3
  by_cases hs2 : P = [[], []]
  · rw [if_pos hs2] at hR0
    simp only [Option.map_some] at hR0
    subst hR0
    have hI2 := hstar.2 hs2
    repeat' (first | (refine G.atCode ?_; first | refine G.seq ?_ | refine G.region ?_ | refine G.block ?_ | refine G.exit rfl ?_ | refine G.ret ?_ | (refine G.cond rfl ?_ ?_ <;> intro hc <;> (try simp only [tests, reduceCtorEq] at hc) <;> (try (exfalso; first | omega | exact absurd hc (by with_reducible assumption) | exact absurd (by with_reducible assumption) hc | exact Bool.noConfusion hc | exact hc | exact hc trivial | fail)))) | refine G.endOps ?_ | (refine G.atBin ?_; first | (refine G.atEql ?_; first | refine G.op rfl rfl ?_ | refine G.eqStr rfl rfl rfl ?_) | (refine G.atNeq ?_; first | refine G.op rfl rfl ?_) | refine G.op rfl rfl ?_) | refine G.op rfl rfl ?_ | (refine G.atLen ?_; first | refine G.lenRowS rfl (tyy rfl) (by solve | (repeat (first | apply Take.hd | apply Take.tl))) rfl ?_) | (refine G.atLoad ?_; first | refine G.loadOwn1 rfl (tyy rfl) rfl rfl (by solve | (repeat (first | apply Take.hd | apply Take.tl))) rfl rfl ?_ | refine G.loadOwnA rfl (tyy rfl) rfl rfl (by solve | (repeat (first | apply Take.hd | apply Take.tl))) rfl rfl ?_) | (refine G.atFld ?_; first | refine G.fieldAddr rfl (tyy rfl) rfl rfl ?_) | (refine G.atSto ?_; refine G.storeOwn rfl rfl (tyy rfl) (by solve | (repeat (first | apply Take.hd | apply Take.tl))) rfl rfl rfl rfl ?_))
    all_goals first | (exfalso; omega) | (exfalso; contradiction) | exact G.done (rs := [.cell 2 25, .tmp 3]) rfl (.cellA rfl (tyy rfl) rfl rfl (by solve | (repeat (first | apply Take.hd | apply Take.tl))) rfl (.tmp rfl .nil)) rfl [frd g Rt n] (by solve | (apply Takes.sub; (repeat (first | apply Takes.nil | apply Take.hd | apply Take.tl | apply Takes.cons)))) ⟨rfl, _, FlC.mk_ (HSl.nil _ 2) (HSl.nil _ 5) (FlsC.nil _), rfl⟩
  rw [if_neg hs2] at hR0
  have hI2 : ¬ I = [42] := fun e => hs2 (hstar.1 e)
  have hRQ0 : (pcsF P.length 0 P).map (([] : Pcs) ++ ·) = pcsF P.length 0 P := by cases pcsF P.length 0 P <;> rfl
  generalize hRQ : pcsF P.length 0 P = RQ at *
  repeat' (first | (refine G.atCode ?_; refine G.stopLoop ?_) | (refine G.atCode ?_; first | refine G.seq ?_ | refine G.region ?_ | refine G.block ?_ | refine G.skip ?_ | refine G.exit rfl ?_ | (refine G.cond rfl ?_ ?_ <;> intro hc <;> (try simp only [tests, reduceCtorEq] at hc) <;> (try (exfalso; first | omega | exact absurd hc (by with_reducible assumption) | exact absurd (by with_reducible assumption) hc | exact Bool.noConfusion hc | exact hc | exact hc trivial | fail)))) | refine G.endOps ?_ | refine G.endBlk ?_ | (refine G.atBin ?_; first | (refine G.atEql ?_; first | refine G.op rfl rfl ?_ | refine G.eqStr rfl rfl rfl ?_) | (refine G.atNeq ?_; first | refine G.op rfl rfl ?_) | refine G.op rfl rfl ?_) | refine G.op rfl rfl ?_ | (refine G.atLen ?_; first | refine G.lenRowS rfl (tyy rfl) (by solve | (repeat (first | apply Take.hd | apply Take.tl))) rfl ?_) | (refine G.atLoad ?_; first | refine G.loadOwn1 rfl (tyy rfl) rfl rfl (by solve | (repeat (first | apply Take.hd | apply Take.tl))) rfl rfl ?_) | (refine G.atFld ?_; first | refine G.fieldAddr rfl (tyy rfl) rfl rfl ?_) | (refine G.atSto ?_; refine G.storeOwn rfl rfl (tyy rfl) (by solve | (repeat (first | apply Take.hd | apply Take.tl))) rfl rfl rfl rfl ?_))
  all_goals try (exfalso; first | omega | contradiction)
  refine G.nilRow 54 2 ?_
  refine G.go ?_
  refine G.loop (σ := Nat × Pcs × Option Addr × Nat) (fun x => [(134, .int .i64 x.1), (133, .int .i64 P.length), (132, v), (11, v), (0, .pointer (some ⟨g, 0, none⟩)), (5, .pointer (some ⟨gf, 0, none⟩)), (2, .pointer (some ⟨gr, 0, none⟩))])
    (fun x => [.row v 9 1 (strsR P), .row (.slice x.2.2.1 (pcsR x.2.1).length x.2.2.2) 54 2 (pcsR x.2.1), .blk g [str Rt, .int .i64 n] 47, .blk gf [.int .i64 4, str attr, str [], .slice x.2.2.1 (pcsR x.2.1).length x.2.2.2, .slice none 0 0] 25, .blk gr [.int .i64 0, str [], str [], .slice none 0 0, .slice none 0 0] 25])
    (fun x _ => x.1 ≤ P.length ∧ x.2.1.length ≤ x.1 ∧ (pcsF P.length x.1 (P.drop x.1)).map (x.2.1 ++ ·) = RQ) (fun x => P.length - x.1) ⟨0, [], none, 0⟩
    ⟨rfl, rfl, rfl, rfl, rfl, rfl, rfl, trivial⟩ (by solve | (apply Takes.sub; (repeat (first | apply Takes.nil | apply Take.hd | apply Take.tl | apply Takes.cons)))) ⟨Nat.zero_le _, Nat.le_refl _, by rw [List.drop_zero, hRQ]; exact hRQ0⟩ ?_
  rintro ⟨i, Q, A, c⟩ h8 hle8 ⟨hi, hQl, hinv⟩
  simp only at hi hQl hinv
  have hpr := pcsR_length Q
  refine G.norm (by (try dsimp only) <;> exact rfl) (by (try dsimp only) <;> exact rfl) ?_
  by_cases hlt : i < P.length
  · have hst : strAt P i = P[i] := by unfold strAt; rw [List.getElem?_eq_getElem hlt]; rfl
    rw [List.drop_eq_getElem_cons hlt] at hinv
    generalize P[i] = x at *
    simp only [pcsF] at hinv
    by_cases hx : x.length = 0
    · obtain rfl := List.eq_nil_of_length_eq_zero hx
      rw [if_pos rfl] at hinv
      by_cases hm : i = 0 ∨ i + 1 = P.length
      · rw [if_pos hm] at hinv
        repeat' (first | (refine G.atLoad ?_; refine G.loadRowS rfl (tyy rfl) (by assumption) (by solve | (repeat (first | apply Take.hd | apply Take.tl))) (by first | omega | (simp only [lens] at *; omega)) rfl ?_; rw [hst]) | (refine G.atCode ?_; first | refine G.seq ?_ | refine G.region ?_ | refine G.block ?_ | refine G.skip ?_ | (refine G.cond rfl ?_ ?_ <;> intro hc <;> (try simp only [tests, reduceCtorEq] at hc) <;> (try (exfalso; first | omega | exact absurd hc (by with_reducible assumption) | exact absurd (by with_reducible assumption) hc | exact Bool.noConfusion hc | exact hc | exact hc trivial | fail)))) | refine G.endOps ?_ | refine G.endBlk ?_ | (refine G.atBin ?_; first | (refine G.atAdd ?_; first | refine G.arith rfl rfl rfl rfl rfl (by simp only [inR]; omega) ?_) | (refine G.atSub ?_; first | refine G.arith rfl rfl rfl rfl rfl (by simp only [inR]; omega) ?_) | (refine G.atEql ?_; first | refine G.op rfl rfl ?_) | (refine G.atNeq ?_; first | refine G.neStr0 rfl rfl rfl ?_) | refine G.op rfl rfl ?_) | refine G.op rfl rfl ?_ | (refine G.atLen ?_; first | refine G.lenRowS rfl (tyy rfl) (by solve | (repeat (first | apply Take.hd | apply Take.tl))) rfl ?_) | (refine G.atIdx ?_; first | (refine G.idxRow' rfl rfl (tyy rfl) (tyy rfl) (by solve | (repeat (first | apply Take.hd | apply Take.tl))) (by first | (simp only [Int.reduceToNat]; rfl) | with_reducible apply Int.toNat_natCast | exact Eq.refl _) rfl (by first | omega | (simp only [lens] at *; omega)) ?_; intro _ _)))
        all_goals first | (exfalso; omega) | (exfalso; contradiction) | exact G.again ⟨i + 1, Q, A, c⟩ ⟨sint (by simp), rfl, rfl, rfl, rfl, rfl, rfl, trivial⟩ (by solve | (apply Takes.sub; (repeat (first | apply Takes.nil | apply Take.hd | apply Take.tl | apply Takes.cons)))) ⟨by simp only; omega, by simp only; omega, hinv⟩ (by solve | (repeat (first | assumption | exact Heap.le_refl _ | (refine Heap.le_trans ?_ (by assumption))))) (by simp only; omega)
      · rw [if_neg hm] at hinv
        simp only [Option.map_none] at hinv
        subst hinv
        simp only [Option.map_none] at hR0
        subst hR0
        repeat' (first | (refine G.atLoad ?_; refine G.loadRowS rfl (tyy rfl) (by assumption) (by solve | (repeat (first | apply Take.hd | apply Take.tl))) (by first | omega | (simp only [lens] at *; omega)) rfl ?_; rw [hst]) | (refine G.atCode ?_; first | refine G.seq ?_ | refine G.region ?_ | refine G.block ?_ | refine G.skip ?_ | refine G.ret ?_ | (refine G.cond rfl ?_ ?_ <;> intro hc <;> (try simp only [tests, reduceCtorEq] at hc) <;> (try (exfalso; first | omega | exact absurd hc (by with_reducible assumption) | exact absurd (by with_reducible assumption) hc | exact Bool.noConfusion hc | exact hc | exact hc trivial | fail)))) | refine G.endOps ?_ | (refine G.atBin ?_; first | (refine G.atSub ?_; first | refine G.arith rfl rfl rfl rfl rfl (by simp only [inR]; omega) ?_) | (refine G.atEql ?_; first | refine G.op rfl rfl ?_) | (refine G.atNeq ?_; first | refine G.neStr0 rfl rfl rfl ?_) | refine G.op rfl rfl ?_) | refine G.op rfl rfl ?_ | (refine G.atLen ?_; first | refine G.lenRowS rfl (tyy rfl) (by solve | (repeat (first | apply Take.hd | apply Take.tl))) rfl ?_) | (refine G.atSto ?_; refine G.storeOwn rfl rfl (tyy rfl) (by solve | (repeat (first | apply Take.hd | apply Take.tl))) rfl rfl rfl rfl ?_) | (refine G.atBld ?_; refine G.build (tyy rfl) rfl rfl rfl ?_) | (refine G.atIdx ?_; first | (refine G.idxRow' rfl rfl (tyy rfl) (tyy rfl) (by solve | (repeat (first | apply Take.hd | apply Take.tl))) (by first | (simp only [Int.reduceToNat]; rfl) | with_reducible apply Int.toNat_natCast | exact Eq.refl _) rfl (by first | omega | (simp only [lens] at *; omega)) ?_; intro _ _)))
        all_goals first | (exfalso; omega) | (exfalso; contradiction) | exact G.done (rs := [.cell 2 25, .tmp 3]) rfl (.cellA rfl (tyy rfl) rfl rfl (by solve | (repeat (first | apply Take.hd | apply Take.tl))) rfl (.tmp rfl .nil)) rfl [frd g Rt n] (by solve | (apply Takes.sub; (repeat (first | apply Takes.nil | apply Take.hd | apply Take.tl | apply Takes.cons)))) ⟨⟨Rt, by omega, rfl⟩, rfl⟩
    · rw [if_neg (fun e => hx (by rw [e]; rfl))] at hinv
      have hsn : ∀ j : Int, pcsR Q ++ [[.int .i64 j, str x]] = pcsR (Q ++ [(j, x)]) := fun j => by simp [pcsR]
      have hk : ∀ j : Int, j = (if i = 0 then 0 else if i + 1 = P.length then 2 else 1) → (pcsF P.length (i + 1) (P.drop (i + 1))).map ((Q ++ [(j, x)]) ++ ·) = RQ := fun j hj => by
        rw [← hinv, hj]; cases pcsF P.length (i + 1) (P.drop (i + 1)) <;> simp
      clear hinv
      repeat' (first | (refine G.atLoad ?_; refine G.loadRowS rfl (tyy rfl) (by assumption) (by solve | (repeat (first | apply Take.hd | apply Take.tl))) (by first | omega | (simp only [lens] at *; omega)) rfl ?_; rw [hst]) | (refine G.atCode ?_; first | refine G.seq ?_ | refine G.region ?_ | refine G.block ?_ | refine G.skip ?_ | (refine G.cond rfl ?_ ?_ <;> intro hc <;> (try simp only [tests, reduceCtorEq] at hc) <;> (try (exfalso; first | omega | exact absurd hc (by with_reducible assumption) | exact absurd (by with_reducible assumption) hc | exact Bool.noConfusion hc | exact hc | exact hc trivial | fail)))) | refine G.endOps ?_ | refine G.endBlk ?_ | (refine G.atBin ?_; first | (refine G.atAdd ?_; first | refine G.arith rfl rfl rfl rfl rfl (by simp only [inR]; omega) ?_) | (refine G.atSub ?_; first | refine G.arith rfl rfl rfl rfl rfl (by simp only [inR]; omega) ?_) | (refine G.atEql ?_; first | refine G.op rfl rfl ?_) | (refine G.atNeq ?_; first | refine G.neStr0 rfl rfl rfl ?_) | refine G.op rfl rfl ?_) | refine G.op rfl rfl ?_ | (refine G.atLen ?_; first | refine G.lenRowS rfl (tyy rfl) (by solve | (repeat (first | apply Take.hd | apply Take.tl))) rfl ?_) | (refine G.atLoad ?_; first | refine G.loadOwn1 rfl (tyy rfl) rfl rfl (by solve | (repeat (first | apply Take.hd | apply Take.tl))) rfl rfl ?_) | (refine G.atFld ?_; first | refine G.fieldAddr rfl (tyy rfl) rfl rfl ?_) | (refine G.atSto ?_; refine G.storeOwn rfl rfl (tyy rfl) (by solve | (repeat (first | apply Take.hd | apply Take.tl))) rfl rfl rfl rfl ?_) | (refine G.atBld ?_; refine G.build (tyy rfl) rfl rfl rfl ?_) | (refine G.atBsl ?_; refine G.buildSlice (tyy rfl) (tyy rfl) rfl rfl rfl rfl ?_; intro _) | (refine G.atApp ?_; first | (refine G.append1 rfl rfl (tyy rfl) (tyy rfl) rfl rfl (by solve | (repeat (first | apply Take.hd | apply Take.tl))) (by solve | (repeat (first | apply Take.hd | apply Take.tl))) rfl rfl rfl (by first | omega | (simp only [lens] at *; omega)) ?_; intro _; refine G.rowForm Take.hd ?_; rintro _ _ rfl)) | (refine G.atIdx ?_; first | (refine G.idxRow' rfl rfl (tyy rfl) (tyy rfl) (by solve | (repeat (first | apply Take.hd | apply Take.tl))) (by first | (simp only [Int.reduceToNat]; rfl) | with_reducible apply Int.toNat_natCast | exact Eq.refl _) rfl (by first | omega | (simp only [lens] at *; omega)) ?_; intro _ _)))
      all_goals try (exfalso; first | omega | contradiction)
      · rw [hsn 0]
        exact G.again ⟨i + 1, Q ++ [(0, x)], _, _⟩ ⟨sint (by simp), rfl, rfl, rfl, rfl, rfl, rfl, trivial⟩ (by solve | (apply Takes.sub; (repeat (first | apply Takes.nil | apply Take.hd | apply Take.tl | apply Takes.cons)))) ⟨by simp only; omega, by simp only [List.length_append, List.length_cons, List.length_nil]; omega, hk 0 (by rw [if_pos (by omega)])⟩ (by solve | (repeat (first | assumption | exact Heap.le_refl _ | (refine Heap.le_trans ?_ (by assumption))))) (by simp only; omega)
      · rw [hsn 2]
        exact G.again ⟨i + 1, Q ++ [(2, x)], _, _⟩ ⟨sint (by simp), rfl, rfl, rfl, rfl, rfl, rfl, trivial⟩ (by solve | (apply Takes.sub; (repeat (first | apply Takes.nil | apply Take.hd | apply Take.tl | apply Takes.cons)))) ⟨by simp only; omega, by simp only [List.length_append, List.length_cons, List.length_nil]; omega, hk 2 (by rw [if_neg (by omega), if_pos (by omega)])⟩ (by solve | (repeat (first | assumption | exact Heap.le_refl _ | (refine Heap.le_trans ?_ (by assumption))))) (by simp only; omega)
      · rw [hsn 1]
        exact G.again ⟨i + 1, Q ++ [(1, x)], _, _⟩ ⟨sint (by simp), rfl, rfl, rfl, rfl, rfl, rfl, trivial⟩ (by solve | (apply Takes.sub; (repeat (first | apply Takes.nil | apply Take.hd | apply Take.tl | apply Takes.cons)))) ⟨by simp only; omega, by simp only [List.length_append, List.length_cons, List.length_nil]; omega, hk 1 (by rw [if_neg (by omega), if_neg (by omega)])⟩ (by solve | (repeat (first | assumption | exact Heap.le_refl _ | (refine Heap.le_trans ?_ (by assumption))))) (by simp only; omega)
  · obtain rfl : i = P.length := by omega
    rw [List.drop_length] at hinv
    simp only [pcsF, Option.map_some, List.append_nil] at hinv
    subst hinv
    simp only [Option.map_some] at hR0
    subst hR0
    repeat' (first | (refine G.atCode ?_; first | refine G.seq ?_ | refine G.region ?_ | refine G.exit rfl ?_ | refine G.ret ?_ | (refine G.cond rfl ?_ ?_ <;> intro hc <;> (try simp only [tests, reduceCtorEq] at hc) <;> (try (exfalso; first | omega | exact absurd hc (by with_reducible assumption) | exact absurd (by with_reducible assumption) hc | exact Bool.noConfusion hc | exact hc | exact hc trivial | fail)))) | refine G.endOps ?_ | (refine G.atBin ?_; first | refine G.op rfl rfl ?_) | refine G.op rfl rfl ?_ | (refine G.atLoad ?_; first | refine G.loadOwnA rfl (tyy rfl) rfl rfl (by solve | (repeat (first | apply Take.hd | apply Take.tl))) rfl rfl ?_) | (refine G.atSto ?_; refine G.storeOwn rfl rfl (tyy rfl) (by solve | (repeat (first | apply Take.hd | apply Take.tl))) rfl rfl rfl rfl ?_))
    all_goals try (exfalso; first | omega | contradiction)
    refine G.freezeRow (v := .slice A (pcsR Q).length c) (by solve | (repeat (first | apply Take.hd | apply Take.tl))) ?_
    intro h9 hle9 hs9
    exact G.done (rs := [.cell 2 25, .tmp 3]) rfl (.cellA rfl (tyy rfl) rfl rfl (by solve | (repeat (first | apply Take.hd | apply Take.tl))) rfl (.tmp rfl .nil)) rfl [frd g Rt n] (by solve | (apply Takes.sub; (repeat (first | apply Takes.nil | apply Take.hd | apply Take.tl | apply Takes.cons)))) ⟨rfl, _, FlC.mk_ hs9 (HSl.nil _ 5) (FlsC.nil _), rfl⟩
end Go.Proofs.YtcghcdnmpjhifaaDoor
