/- Schemas, in plain Lean: what may be, the chain of a class, what must be there, the structural class. -/
import Derived.Test.YtfmekdmpghhegaaDoorAcE
import Derived.Test.YtfmekdmpghhegaaDoorLibS
namespace Go.Proofs.YtfmekdmpghhegaaDoor
set_option linter.all false
set_option maxRecDepth 4000
open Go.RowKit

/-- The first of that name. -/
def ixM {α : Type} (f : α → List UInt8) (l : List α) (w : List UInt8) : Option Nat := l.findIdx? fun a => sameT (f a) w
theorem ixM_yes {α : Type} {f : α → List UInt8} {l : List α} {w : List UInt8} {i : Nat} {a : α} (h : l[i]? = some a) (h1 : sameT (f a) w = true) (h2 : ∀ (j : Nat) (b : α), j < i → l[j]? = some b → sameT (f b) w = false) : ixM f l w = some i := by
  obtain ⟨hlt, he⟩ := List.getElem?_eq_some_iff.1 h
  unfold ixM
  rw [List.findIdx?_eq_some_iff_getElem]
  refine ⟨hlt, by rw [he]; exact h1, fun j hj => ?_⟩
  have := h2 j _ hj (List.getElem?_eq_getElem (by omega))
  rw [this]; simp
theorem ixM_no {α : Type} {f : α → List UInt8} {l : List α} {w : List UInt8} (h : ∀ (j : Nat) (b : α), l[j]? = some b → sameT (f b) w = false) : ixM f l w = none := by
  unfold ixM
  rw [List.findIdx?_eq_none_iff]
  intro x hx
  obtain ⟨j, hj⟩ := List.getElem?_of_mem hx
  exact h j x hj
theorem ixM_some {α : Type} {f : α → List UInt8} {l : List α} {w : List UInt8} {i : Nat} (h : ixM f l w = some i) : ∃ a, l[i]? = some a ∧ sameT (f a) w = true ∧ ∀ (j : Nat) (b : α), j < i → l[j]? = some b → sameT (f b) w = false := by
  unfold ixM at h
  rw [List.findIdx?_eq_some_iff_getElem] at h
  obtain ⟨hlt, h1, h2⟩ := h
  refine ⟨l[i], List.getElem?_eq_getElem hlt, h1, fun j b hj hb => ?_⟩
  obtain ⟨hlj, rfl⟩ := List.getElem?_eq_some_iff.1 hb
  simpa using h2 j hj
theorem ixM_none {α : Type} {f : α → List UInt8} {l : List α} {w : List UInt8} (h : ixM f l w = none) {j : Nat} {b : α} (hb : l[j]? = some b) : sameT (f b) w = false := by
  unfold ixM at h
  rw [List.findIdx?_eq_none_iff] at h
  exact h b (List.mem_of_getElem? hb)
def ixV (o : Option Nat) : Int := match o with | some i => i | none => -1
def ixT (T : List Ty4) (w : List UInt8) : Option Nat := ixM (fun t : Ty4 => t.1) T w
def ixC (C : List Cls) (w : List UInt8) : Option Nat := ixM (fun c : Cls => c.1) C w
def noTy : Ty4 := ([], 0, false, false)
def noCls : Cls := ([], [], 0, [], [])
def gtT (T : List Ty4) (w : List UInt8) : Ty4 := match ixT T w with | some i => T.getD i noTy | none => noTy
def gtC (C : List Cls) (w : List UInt8) : Cls := match ixC C w with | some i => C.getD i noCls | none => noCls
/-- The first error in a list, each held against those ahead of it. -/
def goM {α : Type} (ck : List α → α → Int) : List α → List α → Int
  | _, [] => 0
  | d, a :: r => if ck d a ≠ 0 then ck d a else goM ck (d ++ [a]) r
theorem goM_step {α : Type} {ck : List α → α → Int} {l : List α} {i : Nat} {a : α} (h : l[i]? = some a) : goM ck (l.take i) (l.drop i) = if ck (l.take i) a ≠ 0 then ck (l.take i) a else goM ck (l.take (i + 1)) (l.drop (i + 1)) := by
  obtain ⟨hlt, he⟩ := List.getElem?_eq_some_iff.1 h
  rw [List.drop_eq_getElem_cons hlt, he, goM, List.take_succ_eq_append_getElem hlt, he]
theorem goM_end {α : Type} {ck : List α → α → Int} {l : List α} : goM ck (l.take l.length) (l.drop l.length) = 0 := by rw [List.drop_length]; rfl
theorem goM_zero {α : Type} {ck : List α → α → Int} : ∀ (r d : List α), goM ck d r = 0 → ∀ (i : Nat) (a : α), r[i]? = some a → ck (d ++ r.take i) a = 0
  | [], d, h, i, a, hi => by simp at hi
  | b :: r, d, h, i, a, hi => by
    rw [goM] at h
    split at h
    · rename_i hne; exact absurd h hne
    · rename_i hz
      cases i with
      | zero => simp at hi; subst hi; simpa using hz
      | succ i =>
        have := goM_zero r (d ++ [b]) h i a (by simpa using hi)
        simpa [List.append_assoc] using this
def tyCk (d : List Ty4) (t : Ty4) : Int := if typeM t.1 = false then 20 else if (ixT d t.1).isSome = true then 21 else if t.2.1 < 1 ∨ 8 < t.2.1 then 23 else 0
def supB (d : List Cls) (c : Cls) : Bool := decide ((c.2.1.length = 0 ∧ c.2.2.1 ≠ 0) ∨ (c.2.1.length ≠ 0 ∧ (gtC d c.2.1).2.2.1 ≠ 0 ∧ (gtC d c.2.1).2.2.1 ≠ c.2.2.1))
def clCk (T : List Ty4) (d : List Cls) (c : Cls) : Int :=
  if typeM c.1 = false then 20 else if (ixC d c.1).isSome = true then 21 else if c.2.2.1 < 0 ∨ 2 < c.2.2.1 then 23
  else if c.2.1.length ≠ 0 ∧ (ixC d c.2.1).isSome = false then 22 else if supB d c = true then 2
  else if (c.2.2.2.1 ++ c.2.2.2.2).all (fun n => (ixT T n).isSome) = false then 22 else 0
def objC : List UInt8 := [111, 98, 106, 101, 99, 116, 67, 108, 97, 115, 115]
def endCk (T : List Ty4) : Int := if (ixT T objC).isSome = false then 22 else if (gtT T objC).2.1 ≠ 3 ∨ (gtT T objC).2.2.1 = true then 2 else 0
/-- What is wrong with a schema. -/
def chkS (T : List Ty4) (C : List Cls) : Int :=
  if 128 < T.length ∨ 128 < C.length then 9 else if goM tyCk [] T ≠ 0 then goM tyCk [] T else if goM (clCk T) [] C ≠ 0 then goM (clCk T) [] C else endCk T
theorem sameT_rfl (a : List UInt8) : sameT a a = true := by unfold sameT; simp
/-- A class, and those above it; of at most so many. -/
def chGo (C : List Cls) : Nat → List UInt8 → List (List UInt8)
  | 0, _ => []
  | n + 1, w => match ixC C w with
    | none => []
    | some i => if (C.getD i noCls).2.1.length = 0 then [(C.getD i noCls).1] else (C.getD i noCls).1 :: chGo C n (C.getD i noCls).2.1
def chM (C : List Cls) (w : List UInt8) : List (List UInt8) := chGo C C.length w
/-- Classes of which each one's upper one stands ahead of it, and of which no two are the same. -/
structure GoodC (C : List Cls) : Prop where
  one : ∀ (i : Nat) (c : Cls), C[i]? = some c → ixC C c.1 = some i
  up : ∀ (i : Nat) (c : Cls), C[i]? = some c → c.2.1.length ≠ 0 → ∃ j, j < i ∧ ixC C c.2.1 = some j
  named : ∀ c ∈ C, c.1.length ≠ 0
theorem getD_of {α : Type} {l : List α} {i : Nat} {a d : α} (h : l[i]? = some a) : l.getD i d = a := by rw [List.getD_eq_getElem?_getD, h]; rfl
theorem ixM_take {α : Type} {f : α → List UInt8} {l : List α} {w : List UInt8} {n i : Nat} (h : ixM f (l.take n) w = some i) : i < n ∧ ixM f l w = some i := by
  obtain ⟨a, h1, h2, h3⟩ := ixM_some h
  have hlt := (List.getElem?_eq_some_iff.1 h1).1
  rw [List.length_take] at hlt
  rw [List.getElem?_take_of_lt (by omega)] at h1
  exact ⟨by omega, ixM_yes h1 h2 fun j b hj hb => h3 j b hj (by rw [List.getElem?_take_of_lt (by omega)]; exact hb)⟩
theorem typeM_ne {s : List UInt8} (h : typeM s = true) : s.length ≠ 0 := by
  intro e
  have : s = [] := List.eq_nil_of_length_eq_zero e
  subst this
  revert h; decide
theorem good_of {T : List Ty4} {C : List Cls} (h : chkS T C = 0) : GoodC C ∧ T.length ≤ 128 ∧ C.length ≤ 128 := by
  unfold chkS at h
  split at h
  · omega
  rename_i hlen
  split at h
  · rename_i h1; exact absurd h h1
  split at h
  · rename_i h1; exact absurd h h1
  rename_i _ hz
  have hz := Decidable.not_not.1 hz
  have hck : ∀ (i : Nat) (c : Cls), C[i]? = some c → typeM c.1 = true ∧ (ixC (C.take i) c.1).isSome = false ∧ (c.2.1.length ≠ 0 → (ixC (C.take i) c.2.1).isSome = true) := by
    intro i c hc
    have := goM_zero C [] hz i c hc
    rw [List.nil_append] at this
    unfold clCk at this
    split at this
    · omega
    rename_i a1
    split at this
    · omega
    rename_i a2
    split at this
    · omega
    split at this
    · omega
    rename_i a4
    exact ⟨by simpa using a1, by simpa using a2, fun hne => by
      cases hh : (ixC (C.take i) c.2.1).isSome with
      | true => rfl
      | false => exact absurd ⟨hne, hh⟩ a4⟩
  refine ⟨⟨fun i c hc => ?_, fun i c hc hne => ?_, fun c hc => ?_⟩, by omega, by omega⟩
  · obtain ⟨_, h2, _⟩ := hck i c hc
    refine ixM_yes hc (sameT_rfl _) fun j b hj hb => ?_
    have hn : ixC (C.take i) c.1 = none := by simpa using h2
    exact ixM_none hn (by rw [List.getElem?_take_of_lt hj]; exact hb)
  · obtain ⟨_, _, h3⟩ := hck i c hc
    have := h3 hne
    obtain ⟨j, hj⟩ := Option.isSome_iff_exists.1 this
    obtain ⟨g1, g2⟩ := ixM_take hj
    exact ⟨j, g1, g2⟩
  · obtain ⟨i, hi⟩ := List.getElem?_of_mem hc
    exact typeM_ne (hck i c hi).1
theorem chGo_more {C : List Cls} (g : GoodC C) : ∀ (n : Nat) (w : List UInt8) (i : Nat), ixC C w = some i → i < n → chGo C n w = chGo C (i + 1) w
  | 0, w, i, h, hn => by omega
  | n + 1, w, i, h, hn => by
    obtain ⟨c, hc, _, _⟩ := ixM_some h
    have e := getD_of (d := noCls) hc
    rw [chGo, chGo, h]
    simp only [e]
    by_cases hz : c.2.1.length = 0
    · rw [if_pos hz, if_pos hz]
    · rw [if_neg hz, if_neg hz]
      obtain ⟨j, hj, hu⟩ := g.up i c hc hz
      rw [chGo_more g n c.2.1 j hu (by omega)]
      rw [show i = (i - 1) + 1 by omega]
      rw [chGo_more g (i - 1 + 1) c.2.1 j hu (by omega)]
theorem chGo_end {C : List Cls} (g : GoodC C) (w : List UInt8) : chGo C (C.length + 1) w = chM C w := by
  unfold chM
  cases h : ixC C w with
  | none =>
    cases hn : C.length with
    | zero => simp only [chGo, h]
    | succ n => simp only [chGo, h]
  | some i =>
    obtain ⟨c, hc, _, _⟩ := ixM_some h
    have hlt := (List.getElem?_eq_some_iff.1 hc).1
    rw [chGo_more g _ w i h (by omega), chGo_more g _ w i h hlt]
/-- A chain, one class on. -/
theorem chM_step {C : List Cls} (g : GoodC C) {w : List UInt8} {i : Nat} {c : Cls} (h : ixC C w = some i) (hc : C[i]? = some c) : chM C w = if c.2.1.length = 0 then [c.1] else c.1 :: chM C c.2.1 := by
  have hlt := (List.getElem?_eq_some_iff.1 hc).1
  have e := getD_of (d := noCls) hc
  rw [← chGo_end g w, chGo, h]
  simp only [e]
  rfl
theorem chM_none {C : List Cls} {w : List UInt8} (h : ixC C w = none) : chM C w = [] := by
  unfold chM
  cases C.length with
  | zero => rfl
  | succ n => rw [chGo, h]
theorem chM_mem {C : List Cls} (g : GoodC C) : ∀ (i : Nat) (w x : List UInt8), ixC C w = some i → x ∈ chM C w → ∃ j c, j ≤ i ∧ C[j]? = some c ∧ x = c.1 := by
  intro i
  induction i using Nat.strongRecOn with
  | _ i ih =>
    intro w x h hx
    obtain ⟨c, hc, _, _⟩ := ixM_some h
    rw [chM_step g h hc] at hx
    split at hx
    · simp at hx; exact ⟨i, c, Nat.le_refl _, hc, hx⟩
    · rename_i hne
      rcases List.mem_cons.1 hx with rfl | hx
      · exact ⟨i, c, Nat.le_refl _, hc, rfl⟩
      · obtain ⟨j, hj, hu⟩ := g.up i c hc hne
        obtain ⟨j2, c2, h1, h2, h3⟩ := ih j hj c.2.1 x hu hx
        exact ⟨j2, c2, by omega, h2, h3⟩
theorem chM_len {C : List Cls} (g : GoodC C) : ∀ (i : Nat) (w : List UInt8), ixC C w = some i → (chM C w).length ≤ i + 1 := by
  intro i
  induction i using Nat.strongRecOn with
  | _ i ih =>
    intro w h
    obtain ⟨c, hc, _, _⟩ := ixM_some h
    rw [chM_step g h hc]
    split
    · simp
    · rename_i hne
      obtain ⟨j, hj, hu⟩ := g.up i c hc hne
      have := ih j hj c.2.1 hu
      simp only [List.length_cons]; omega
end Go.Proofs.YtfmekdmpghhegaaDoor
namespace Go.Proofs.YtfmekdmpghhegaaDoor
set_option linter.all false
set_option maxRecDepth 4000
open Go.RowKit

theorem bl_lt {a b c : List UInt8} (h1 : a < b) (h2 : b < c) : a < c := List.lt_trans h1 h2
theorem bl_irr (a : List UInt8) : ¬ a < a := List.lt_irrefl a
theorem bl_tri (a b : List UInt8) : a < b ∨ a = b ∨ b < a := by
  by_cases h1 : a < b
  · exact .inl h1
  · by_cases h2 : b < a
    · exact .inr (.inr h2)
    · exact .inr (.inl (List.le_antisymm (List.not_lt.1 h2) (List.not_lt.1 h1)))
def Ris (l : List (List UInt8)) : Prop := l.Pairwise fun a b => a < b
def insM : List (List UInt8) → List UInt8 → List (List UInt8)
  | [], s => [s]
  | x :: l, s => if s < x then s :: x :: l else x :: insM l s
/-- A text into a list that rises, if it isn't there. -/
def putU (l : List (List UInt8)) (s : List UInt8) : List (List UInt8) := if s ∈ l then l else insM l s
theorem insM_mem {x s : List UInt8} : ∀ {l : List (List UInt8)}, x ∈ insM l s ↔ x = s ∨ x ∈ l
  | [] => by simp [insM]
  | y :: l => by
    rw [insM]
    split
    · simp
    · rw [List.mem_cons, insM_mem, List.mem_cons]
      constructor
      · rintro (h | h | h)
        · exact .inr (.inl h)
        · exact .inl h
        · exact .inr (.inr h)
      · rintro (h | h | h)
        · exact .inr (.inl h)
        · exact .inl h
        · exact .inr (.inr h)
theorem insM_ris {s : List UInt8} : ∀ {l : List (List UInt8)}, Ris l → s ∉ l → Ris (insM l s)
  | [], _, _ => List.pairwise_singleton _ _
  | y :: l, hr, hs => by
    obtain ⟨h1, h2⟩ := List.pairwise_cons.1 hr
    rw [insM]
    split
    · rename_i hlt
      refine List.pairwise_cons.2 ⟨fun z hz => ?_, hr⟩
      rcases List.mem_cons.1 hz with rfl | hz
      · exact hlt
      · exact bl_lt hlt (h1 z hz)
    · rename_i hlt
      refine List.pairwise_cons.2 ⟨fun z hz => ?_, insM_ris h2 (fun h => hs (List.mem_cons_of_mem _ h))⟩
      rcases insM_mem.1 hz with rfl | hz
      · rcases bl_tri z y with h | h | h
        · exact absurd h hlt
        · exact absurd (by rw [h]; exact List.mem_cons_self) hs
        · exact h
      · exact h1 z hz
theorem putU_mem {x s : List UInt8} {l : List (List UInt8)} : x ∈ putU l s ↔ x = s ∨ x ∈ l := by
  unfold putU
  split
  · rename_i h
    exact ⟨.inr, fun hh => by rcases hh with rfl | hh; exact h; exact hh⟩
  · exact insM_mem
theorem putU_ris {s : List UInt8} {l : List (List UInt8)} (h : Ris l) : Ris (putU l s) := by
  unfold putU
  split
  · exact h
  · rename_i hs; exact insM_ris h hs
def uM (l : List (List UInt8)) : List (List UInt8) := l.foldl putU []
theorem foldl_putU : ∀ (l a : List (List UInt8)), Ris a → Ris (l.foldl putU a) ∧ ∀ x, x ∈ l.foldl putU a ↔ x ∈ a ∨ x ∈ l
  | [], a, h => ⟨h, fun x => by simp⟩
  | s :: l, a, h => by
    obtain ⟨h1, h2⟩ := foldl_putU l (putU a s) (putU_ris h)
    refine ⟨h1, fun x => ?_⟩
    rw [List.foldl_cons, h2 x, putU_mem, List.mem_cons]
    constructor
    · rintro ((h | h) | h)
      · exact .inr (.inl h)
      · exact .inl h
      · exact .inr (.inr h)
    · rintro (h | h | h)
      · exact .inl (.inr h)
      · exact .inl (.inl h)
      · exact .inr h
theorem uM_ris (l : List (List UInt8)) : Ris (uM l) := (foldl_putU l [] List.Pairwise.nil).1
theorem uM_mem {l : List (List UInt8)} {x : List UInt8} : x ∈ uM l ↔ x ∈ l := by
  have := (foldl_putU l [] List.Pairwise.nil).2 x
  simpa [uM] using this
theorem ris_ext : ∀ {a b : List (List UInt8)}, Ris a → Ris b → (∀ x, x ∈ a ↔ x ∈ b) → a = b
  | [], [], _, _, _ => rfl
  | [], y :: b, _, _, h => absurd ((h y).2 List.mem_cons_self) (by simp)
  | x :: a, [], _, _, h => absurd ((h x).1 List.mem_cons_self) (by simp)
  | x :: a, y :: b, ha, hb, h => by
    obtain ⟨a1, a2⟩ := List.pairwise_cons.1 ha
    obtain ⟨b1, b2⟩ := List.pairwise_cons.1 hb
    have hxy : x = y := by
      rcases List.mem_cons.1 ((h x).1 List.mem_cons_self) with e | hx
      · exact e
      · rcases List.mem_cons.1 ((h y).2 List.mem_cons_self) with e | hy
        · exact e.symm
        · exact absurd (bl_lt (b1 x hx) (a1 y hy)) (bl_irr y)
    subst hxy
    rw [ris_ext a2 b2 fun z => ?_]
    constructor
    · intro hz
      rcases List.mem_cons.1 ((h z).1 (List.mem_cons_of_mem _ hz)) with e | hz'
      · subst e; exact absurd (a1 z hz) (bl_irr z)
      · exact hz'
    · intro hz
      rcases List.mem_cons.1 ((h z).2 (List.mem_cons_of_mem _ hz)) with e | hz'
      · subst e; exact absurd (b1 z hz) (bl_irr z)
      · exact hz'
theorem sortM_perm (L : List (List UInt8)) : (sortM L).Perm L := List.mergeSort_perm L _
theorem sortM_ris {L : List (List UInt8)} (hn : L.Nodup) : Ris (sortM L) := by
  have h1 : (sortM L).Pairwise fun x y => decide (x ≤ y) = true := by
    refine List.pairwise_mergeSort (fun a b c h1 h2 => ?_) (fun a b => ?_) L
    · exact decide_eq_true (List.le_trans (of_decide_eq_true h1) (of_decide_eq_true h2))
    · rw [Bool.or_eq_true]
      rcases List.le_total a b with h | h
      · exact .inl (decide_eq_true h)
      · exact .inr (decide_eq_true h)
  have h2 : (sortM L).Nodup := (sortM_perm L).nodup_iff.2 hn
  refine (h1.and h2).imp ?_
  rintro a b ⟨hle, hne⟩
  have hle := of_decide_eq_true hle
  rcases bl_tri a b with h | h | h
  · exact h
  · exact absurd h hne
  · exact absurd h (List.not_lt.2 hle)
/-- Keys, put in order, are the texts they stand for, each once. -/
theorem sortM_uM {K L : List (List UInt8)} (hn : K.Nodup) (h : ∀ x, x ∈ K ↔ x ∈ L) : sortM K = uM L :=
  ris_ext (sortM_ris hn) (uM_ris L) fun x => by rw [(sortM_perm K).mem_iff, uM_mem]; exact h x
/-- Of a class: what must be there, what may. -/
def mustC (C : List Cls) (w : List UInt8) : List (List UInt8) := (chM C w).flatMap fun u => (gtC C u).2.2.2.1.map foldM
def mayC (C : List Cls) (w : List UInt8) : List (List UInt8) := (chM C w).flatMap fun u => (gtC C u).2.2.2.2.map foldM
def mustF (C : List Cls) (ws : List (List UInt8)) : List (List UInt8) := ws.flatMap (mustC C)
def mayF (C : List Cls) (ws : List (List UInt8)) : List (List UInt8) := ws.flatMap (mayC C)
def mayU (C : List Cls) (ws : List (List UInt8)) : List (List UInt8) := (uM (mayF C ws)).filter fun t => !decide (t ∈ mustF C ws)
theorem mayU_ris (C : List Cls) (ws : List (List UInt8)) : Ris (mayU C ws) := List.Pairwise.filter _ (uM_ris _)
theorem mayU_mem {C : List Cls} {ws : List (List UInt8)} {x : List UInt8} : x ∈ mayU C ws ↔ x ∈ mayF C ws ∧ x ∉ mustF C ws := by
  unfold mayU
  rw [List.mem_filter, uM_mem]
  simp
theorem sortM_mayU {C : List Cls} {ws : List (List UInt8)} {K : List (List UInt8)} (hn : K.Nodup) (h : ∀ x, x ∈ K ↔ x ∈ mayF C ws ∧ x ∉ mustF C ws) : sortM K = mayU C ws :=
  ris_ext (sortM_ris hn) (mayU_ris C ws) fun x => by rw [(sortM_perm K).mem_iff, h x, mayU_mem]
/-- The structural classes' own names. -/
def strucs (C : List Cls) (ws : List (List UInt8)) : List (List UInt8) := ((ws.map (gtC C)).filter fun c => decide (c.2.2.1 = 1)).map fun c => c.1
def lowest (C : List Cls) (ws : List (List UInt8)) (n : List UInt8) : Bool := (strucs C ws).all fun o => decide (o ∈ chM C n)
/-- The structural class. -/
def kindM (C : List Cls) (ws : List (List UInt8)) : Option (List UInt8) :=
  if ws.all (fun w => (ixC C w).isSome) = false then none else (strucs C ws).find? (lowest C ws)
theorem gtC_of {C : List Cls} {w : List UInt8} {i : Nat} {c : Cls} (h : ixC C w = some i) (hc : C[i]? = some c) : gtC C w = c := by
  unfold gtC; rw [h]; exact getD_of hc
theorem struc_mem {C : List Cls} {ws : List (List UInt8)} (hall : ws.all (fun w => (ixC C w).isSome) = true) {n : List UInt8} : n ∈ strucs C ws ↔ ∃ w i c, w ∈ ws ∧ ixC C w = some i ∧ C[i]? = some c ∧ c.2.2.1 = 1 ∧ n = c.1 := by
  unfold strucs
  constructor
  · intro h
    obtain ⟨c, hc, rfl⟩ := List.mem_map.1 h
    obtain ⟨h1, h2⟩ := List.mem_filter.1 hc
    obtain ⟨w, hw, rfl⟩ := List.mem_map.1 h1
    obtain ⟨i, hi⟩ := Option.isSome_iff_exists.1 (List.all_eq_true.1 hall w hw)
    obtain ⟨c, hc, _, _⟩ := ixM_some hi
    have e := gtC_of hi hc
    exact ⟨w, i, c, hw, hi, hc, by rw [← e]; exact of_decide_eq_true h2, by rw [e]⟩
  · rintro ⟨w, i, c, hw, hi, hc, hk, rfl⟩
    have e := gtC_of hi hc
    exact List.mem_map.2 ⟨c, List.mem_filter.2 ⟨List.mem_map.2 ⟨w, hw, e⟩, decide_eq_true hk⟩, rfl⟩
end Go.Proofs.YtfmekdmpghhegaaDoor
