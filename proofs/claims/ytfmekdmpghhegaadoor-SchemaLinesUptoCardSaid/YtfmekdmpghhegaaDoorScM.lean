/- Schemas, in plain Lean: what may be, the chain of a class, what must be there, the structural class. -/
import Derived.Test.YtfmekdmpghhegaaDoorAcE
namespace Go.Proofs.YtfmekdmpghhegaaDoor
set_option linter.all false
set_option maxRecDepth 4000
open Go.RowKit

def ixM {α : Type} (f : α -> List UInt8) (l : List α) (w : List UInt8) : Option Nat := l.findIdx? fun a => sameT (f a) w
theorem ixM_yes {α : Type} {f : α -> List UInt8} {l : List α} {w : List UInt8} {i : Nat} {a : α} (h : l[i]? = some a) (h1 : sameT (f a) w = true) (h2 : ∀ (j : Nat) (b : α), j < i -> l[j]? = some b -> sameT (f b) w = false) : ixM f l w = some i := by
  obtain ⟨hlt, he⟩ := List.getElem?_eq_some_iff.1 h
  unfold ixM
  rw [List.findIdx?_eq_some_iff_getElem]
  refine ⟨hlt, by rw [he]; exact h1, fun j hj => ?_⟩
  have := h2 j _ hj (List.getElem?_eq_getElem (by omega))
  rw [this]; simp
theorem ixM_no {α : Type} {f : α -> List UInt8} {l : List α} {w : List UInt8} (h : ∀ (j : Nat) (b : α), l[j]? = some b -> sameT (f b) w = false) : ixM f l w = none := by
  unfold ixM
  rw [List.findIdx?_eq_none_iff]
  intro x hx
  obtain ⟨j, hj⟩ := List.getElem?_of_mem hx
  exact h j x hj
theorem ixM_some {α : Type} {f : α -> List UInt8} {l : List α} {w : List UInt8} {i : Nat} (h : ixM f l w = some i) : ∃ a, l[i]? = some a /\ sameT (f a) w = true /\ ∀ (j : Nat) (b : α), j < i -> l[j]? = some b -> sameT (f b) w = false := by
  unfold ixM at h
  rw [List.findIdx?_eq_some_iff_getElem] at h
  obtain ⟨hlt, h1, h2⟩ := h
  refine ⟨l[i], List.getElem?_eq_getElem hlt, h1, fun j b hj hb => ?_⟩
  obtain ⟨hlj, rfl⟩ := List.getElem?_eq_some_iff.1 hb
  simpa using h2 j hj
theorem ixM_none {α : Type} {f : α -> List UInt8} {l : List α} {w : List UInt8} (h : ixM f l w = none) {j : Nat} {b : α} (hb : l[j]? = some b) : sameT (f b) w = false := by
  unfold ixM at h
  rw [List.findIdx?_eq_none_iff] at h
  exact h b (List.mem_of_getElem? hb)
def ixV (o : Option Nat) : Int := match o with | some i => i | none => -1
def ixT (T : List Ty4) (w : List UInt8) : Option Nat := ixM (fun t : Ty4 => t.1) T w
def ixC (C : List Cls) (w : List UInt8) : Option Nat := ixM (fun c : Cls => c.1) C w
def noTy : Ty4 := ([], 0, false, false)
def noCls : Cls := ([], [], 0, [], [])
def gtT (T : List Ty4) (w : List UInt8) : Ty4 := match ixT T w with | some i => T.getD i noTy | none => noTy
def gtC (C : List Cls) (w : List UInt8) : Cls := match ixC C w with | some i => C.getD i noCls | none => noCls
def goM {α : Type} (ck : List α -> α -> Int) : List α -> List α -> Int
  | _, [] => 0
  | d, a :: r => if ck d a ≠ 0 then ck d a else goM ck (d ++ [a]) r
theorem goM_step {α : Type} {ck : List α -> α -> Int} {l : List α} {i : Nat} {a : α} (h : l[i]? = some a) : goM ck (l.take i) (l.drop i) = if ck (l.take i) a ≠ 0 then ck (l.take i) a else goM ck (l.take (i + 1)) (l.drop (i + 1)) := by
  obtain ⟨hlt, he⟩ := List.getElem?_eq_some_iff.1 h
  rw [List.drop_eq_getElem_cons hlt, he, goM, List.take_succ_eq_append_getElem hlt, he]
theorem goM_end {α : Type} {ck : List α -> α -> Int} {l : List α} : goM ck (l.take l.length) (l.drop l.length) = 0 := by rw [List.drop_length]; rfl
theorem goM_zero {α : Type} {ck : List α -> α -> Int} : ∀ (r d : List α), goM ck d r = 0 -> ∀ (i : Nat) (a : α), r[i]? = some a -> ck (d ++ r.take i) a = 0
  | [], d, h, i, a, hi => by simp at hi
  | b :: r, d, h, i, a, hi => by
    rw [goM] at h
    split at h
    . rename_i hne; exact absurd h hne
    . rename_i hz
      cases i with
      | zero => simp at hi; subst hi; simpa using hz
      | succ i =>
        have := goM_zero r (d ++ [b]) h i a (by simpa using hi)
        simpa [List.append_assoc] using this
def tyCk (d : List Ty4) (t : Ty4) : Int := if typeM t.1 = false then 20 else if (ixT d t.1).isSome = true then 21 else if t.2.1 < 1 \/ 8 < t.2.1 then 23 else 0
def supB (d : List Cls) (c : Cls) : Bool := decide ((c.2.1.length = 0 /\ c.2.2.1 ≠ 0) \/ (c.2.1.length ≠ 0 /\ (gtC d c.2.1).2.2.1 ≠ 0 /\ (gtC d c.2.1).2.2.1 ≠ c.2.2.1))
def clCk (T : List Ty4) (d : List Cls) (c : Cls) : Int :=
  if typeM c.1 = false then 20 else if (ixC d c.1).isSome = true then 21 else if c.2.2.1 < 0 \/ 2 < c.2.2.1 then 23
  else if c.2.1.length ≠ 0 /\ (ixC d c.2.1).isSome = false then 22 else if supB d c = true then 2
  else if (c.2.2.2.1 ++ c.2.2.2.2).all (fun n => (ixT T n).isSome) = false then 22 else 0
def objC : List UInt8 := [111, 98, 106, 101, 99, 116, 67, 108, 97, 115, 115]
def endCk (T : List Ty4) : Int := if (ixT T objC).isSome = false then 22 else if (gtT T objC).2.1 ≠ 3 \/ (gtT T objC).2.2.1 = true then 2 else 0
def chkS (T : List Ty4) (C : List Cls) : Int :=
  if 128 < T.length \/ 128 < C.length then 9 else if goM tyCk [] T ≠ 0 then goM tyCk [] T else if goM (clCk T) [] C ≠ 0 then goM (clCk T) [] C else endCk T
theorem sameT_rfl (a : List UInt8) : sameT a a = true := by unfold sameT; simp
def chGo (C : List Cls) : Nat -> List UInt8 -> List (List UInt8)
  | 0, _ => []
  | n + 1, w => match ixC C w with
    | none => []
    | some i => if (C.getD i noCls).2.1.length = 0 then [(C.getD i noCls).1] else (C.getD i noCls).1 :: chGo C n (C.getD i noCls).2.1
def chM (C : List Cls) (w : List UInt8) : List (List UInt8) := chGo C C.length w
structure GoodC (C : List Cls) : Prop where
  one : ∀ (i : Nat) (c : Cls), C[i]? = some c -> ixC C c.1 = some i
  up : ∀ (i : Nat) (c : Cls), C[i]? = some c -> c.2.1.length ≠ 0 -> ∃ j, j < i /\ ixC C c.2.1 = some j
  named : ∀ c ∈ C, c.1.length ≠ 0
theorem getD_of {α : Type} {l : List α} {i : Nat} {a d : α} (h : l[i]? = some a) : l.getD i d = a := by rw [List.getD_eq_getElem?_getD, h]; rfl
theorem ixM_take {α : Type} {f : α -> List UInt8} {l : List α} {w : List UInt8} {n i : Nat} (h : ixM f (l.take n) w = some i) : i < n /\ ixM f l w = some i := by
  obtain ⟨a, h1, h2, h3⟩ := ixM_some h
  have hlt := (List.getElem?_eq_some_iff.1 h1).1
  rw [List.length_take] at hlt
  rw [List.getElem?_take_of_lt (by omega)] at h1
  exact ⟨by omega, ixM_yes h1 h2 fun j b hj hb => h3 j b hj (by rw [List.getElem?_take_of_lt (by omega)]; exact hb)⟩
theorem typeM_ne {s : List UInt8} (h : typeM s = true) : s.length ≠ 0 := by
  intro e
  have : s = [] := List.eq_nil_of_length_eq_zero e
  subst this
  revert h; decide
theorem good_of {T : List Ty4} {C : List Cls} (h : chkS T C = 0) : GoodC C /\ T.length <= 128 /\ C.length <= 128 := by
  unfold chkS at h
  split at h
  . omega
  rename_i hlen
  split at h
  . rename_i h1; exact absurd h h1
  split at h
  . rename_i h1; exact absurd h h1
  rename_i _ hz
  have hz := Decidable.not_not.1 hz
  have hck : ∀ (i : Nat) (c : Cls), C[i]? = some c -> typeM c.1 = true /\ (ixC (C.take i) c.1).isSome = false /\ (c.2.1.length ≠ 0 -> (ixC (C.take i) c.2.1).isSome = true) := by
    intro i c hc
    have := goM_zero C [] hz i c hc
    rw [List.nil_append] at this
    unfold clCk at this
    split at this
    . omega
    rename_i a1
    split at this
    . omega
    rename_i a2
    split at this
    . omega
    split at this
    . omega
    rename_i a4
    exact ⟨by simpa using a1, by simpa using a2, fun hne => by
      cases hh : (ixC (C.take i) c.2.1).isSome with
      | true => rfl
      | false => exact absurd ⟨hne, hh⟩ a4⟩
  refine ⟨⟨fun i c hc => ?_, fun i c hc hne => ?_, fun c hc => ?_⟩, by omega, by omega⟩
  . obtain ⟨_, h2, _⟩ := hck i c hc
    refine ixM_yes hc (sameT_rfl _) fun j b hj hb => ?_
    have hn : ixC (C.take i) c.1 = none := by simpa using h2
    exact ixM_none hn (by rw [List.getElem?_take_of_lt hj]; exact hb)
  . obtain ⟨_, _, h3⟩ := hck i c hc
    have := h3 hne
    obtain ⟨j, hj⟩ := Option.isSome_iff_exists.1 this
    obtain ⟨g1, g2⟩ := ixM_take hj
    exact ⟨j, g1, g2⟩
  . obtain ⟨i, hi⟩ := List.getElem?_of_mem hc
    exact typeM_ne (hck i c hi).1
theorem chGo_more {C : List Cls} (g : GoodC C) : ∀ (n : Nat) (w : List UInt8) (i : Nat), ixC C w = some i -> i < n -> chGo C n w = chGo C (i + 1) w
  | 0, w, i, h, hn => by omega
  | n + 1, w, i, h, hn => by
    obtain ⟨c, hc, _, _⟩ := ixM_some h
    have e := getD_of (d := noCls) hc
    rw [chGo, chGo, h]
    simp only [e]
    by_cases hz : c.2.1.length = 0
    . rw [if_pos hz, if_pos hz]
    . rw [if_neg hz, if_neg hz]
      obtain ⟨j, hj, hu⟩ := g.up i c hc hz
      rw [chGo_more g n c.2.1 j hu (by omega)]
      rw [show i = (i - 1) + 1 by omega]
      rw [chGo_more g (i - 1 + 1) c.2.1 j hu (by omega)]
theorem chGo_end {C : List Cls} (g : GoodC C) (w : List UInt8) : chGo C (C.length + 1) w = chM C w := by
  unfold chM
  cases h : ixC C w with
  | none =>
    cases hn : C.length with
    | zero => simp only [chGo, h]
    | succ n => simp only [chGo, h]
  | some i =>
    obtain ⟨c, hc, _, _⟩ := ixM_some h
    have hlt := (List.getElem?_eq_some_iff.1 hc).1
    rw [chGo_more g _ w i h (by omega), chGo_more g _ w i h hlt]
theorem chM_step {C : List Cls} (g : GoodC C) {w : List UInt8} {i : Nat} {c : Cls} (h : ixC C w = some i) (hc : C[i]? = some c) : chM C w = if c.2.1.length = 0 then [c.1] else c.1 :: chM C c.2.1 := by
  have hlt := (List.getElem?_eq_some_iff.1 hc).1
  have e := getD_of (d := noCls) hc
  rw [<- chGo_end g w, chGo, h]
  simp only [e]
  rfl
theorem chM_none {C : List Cls} {w : List UInt8} (h : ixC C w = none) : chM C w = [] := by
  unfold chM
  cases C.length with
  | zero => rfl
  | succ n => rw [chGo, h]
theorem chM_mem {C : List Cls} (g : GoodC C) : ∀ (i : Nat) (w x : List UInt8), ixC C w = some i -> x ∈ chM C w -> ∃ j c, j <= i /\ C[j]? = some c /\ x = c.1 := by
  intro i
  induction i using Nat.strongRecOn with
  | _ i ih =>
    intro w x h hx
    obtain ⟨c, hc, _, _⟩ := ixM_some h
    rw [chM_step g h hc] at hx
    split at hx
    . simp at hx; exact ⟨i, c, Nat.le_refl _, hc, hx⟩
    . rename_i hne
      rcases List.mem_cons.1 hx with rfl | hx
      . exact ⟨i, c, Nat.le_refl _, hc, rfl⟩
      . obtain ⟨j, hj, hu⟩ := g.up i c hc hne
        obtain ⟨j2, c2, h1, h2, h3⟩ := ih j hj c.2.1 x hu hx
        exact ⟨j2, c2, by omega, h2, h3⟩
theorem chM_len {C : List Cls} (g : GoodC C) : ∀ (i : Nat) (w : List UInt8), ixC C w = some i -> (chM C w).length <= i + 1 := by
  intro i
  induction i using Nat.strongRecOn with
  | _ i ih =>
    intro w h
    obtain ⟨c, hc, _, _⟩ := ixM_some h
    rw [chM_step g h hc]
    split
    . simp
    . rename_i hne
      obtain ⟨j, hj, hu⟩ := g.up i c hc hne
      have := ih j hj c.2.1 hu
      simp only [List.length_cons]; omega
end Go.Proofs.YtfmekdmpghhegaaDoor
