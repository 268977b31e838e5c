/- Lists of texts that rise; what must be there and what may, of classes; the structural class. -/
import Derived.Test.YtfmekdmpghhegaaDoorScM
import Derived.Test.YtfmekdmpghhegaaDoorLibS
namespace Go.Proofs.YtfmekdmpghhegaaDoor
set_option linter.all false
set_option maxRecDepth 4000
open Go.RowKit

theorem bl_lt {a b c : List UInt8} (h1 : a < b) (h2 : b < c) : a < c := List.lt_trans h1 h2
theorem bl_irr (a : List UInt8) : ¬ a < a := List.lt_irrefl a
theorem bl_tri (a b : List UInt8) : a < b \/ a = b \/ b < a := by
  by_cases h1 : a < b
  . exact .inl h1
  . by_cases h2 : b < a
    . exact .inr (.inr h2)
    . exact .inr (.inl (List.le_antisymm (List.not_lt.1 h2) (List.not_lt.1 h1)))
def Ris (l : List (List UInt8)) : Prop := l.Pairwise fun a b => a < b
def insM : List (List UInt8) -> List UInt8 -> List (List UInt8)
  | [], s => [s]
  | x :: l, s => if s < x then s :: x :: l else x :: insM l s
def putU (l : List (List UInt8)) (s : List UInt8) : List (List UInt8) := if s ∈ l then l else insM l s
theorem insM_mem {x s : List UInt8} : ∀ {l : List (List UInt8)}, x ∈ insM l s ↔ x = s \/ x ∈ l
  | [] => by simp [insM]
  | y :: l => by
    rw [insM]
    split
    . simp
    . rw [List.mem_cons, insM_mem, List.mem_cons]
      constructor
      . rintro (h | h | h)
        . exact .inr (.inl h)
        . exact .inl h
        . exact .inr (.inr h)
      . rintro (h | h | h)
        . exact .inr (.inl h)
        . exact .inl h
        . exact .inr (.inr h)
theorem insM_ris {s : List UInt8} : ∀ {l : List (List UInt8)}, Ris l -> s ∉ l -> Ris (insM l s)
  | [], _, _ => List.pairwise_singleton _ _
  | y :: l, hr, hs => by
    obtain ⟨h1, h2⟩ := List.pairwise_cons.1 hr
    rw [insM]
    split
    . rename_i hlt
      refine List.pairwise_cons.2 ⟨fun z hz => ?_, hr⟩
      rcases List.mem_cons.1 hz with rfl | hz
      . exact hlt
      . exact bl_lt hlt (h1 z hz)
    . rename_i hlt
      refine List.pairwise_cons.2 ⟨fun z hz => ?_, insM_ris h2 (fun h => hs (List.mem_cons_of_mem _ h))⟩
      rcases insM_mem.1 hz with rfl | hz
      . rcases bl_tri z y with h | h | h
        . exact absurd h hlt
        . exact absurd (by rw [h]; exact List.mem_cons_self) hs
        . exact h
      . exact h1 z hz
theorem putU_mem {x s : List UInt8} {l : List (List UInt8)} : x ∈ putU l s ↔ x = s \/ x ∈ l := by
  unfold putU
  split
  . rename_i h
    exact ⟨.inr, fun hh => by rcases hh with rfl | hh; exact h; exact hh⟩
  . exact insM_mem
theorem putU_ris {s : List UInt8} {l : List (List UInt8)} (h : Ris l) : Ris (putU l s) := by
  unfold putU
  split
  . exact h
  . rename_i hs; exact insM_ris h hs
def uM (l : List (List UInt8)) : List (List UInt8) := l.foldl putU []
theorem foldl_putU : ∀ (l a : List (List UInt8)), Ris a -> Ris (l.foldl putU a) /\ ∀ x, x ∈ l.foldl putU a ↔ x ∈ a \/ x ∈ l
  | [], a, h => ⟨h, fun x => by simp⟩
  | s :: l, a, h => by
    obtain ⟨h1, h2⟩ := foldl_putU l (putU a s) (putU_ris h)
    refine ⟨h1, fun x => ?_⟩
    rw [List.foldl_cons, h2 x, putU_mem, List.mem_cons]
    constructor
    . rintro ((h | h) | h)
      . exact .inr (.inl h)
      . exact .inl h
      . exact .inr (.inr h)
    . rintro (h | h | h)
      . exact .inl (.inr h)
      . exact .inl (.inl h)
      . exact .inr h
theorem uM_ris (l : List (List UInt8)) : Ris (uM l) := (foldl_putU l [] List.Pairwise.nil).1
theorem uM_mem {l : List (List UInt8)} {x : List UInt8} : x ∈ uM l ↔ x ∈ l := by
  have := (foldl_putU l [] List.Pairwise.nil).2 x
  simpa [uM] using this
theorem ris_ext : ∀ {a b : List (List UInt8)}, Ris a -> Ris b -> (∀ x, x ∈ a ↔ x ∈ b) -> a = b
  | [], [], _, _, _ => rfl
  | [], y :: b, _, _, h => absurd ((h y).2 List.mem_cons_self) (by simp)
  | x :: a, [], _, _, h => absurd ((h x).1 List.mem_cons_self) (by simp)
  | x :: a, y :: b, ha, hb, h => by
    obtain ⟨a1, a2⟩ := List.pairwise_cons.1 ha
    obtain ⟨b1, b2⟩ := List.pairwise_cons.1 hb
    have hxy : x = y := by
      rcases List.mem_cons.1 ((h x).1 List.mem_cons_self) with e | hx
      . exact e
      . rcases List.mem_cons.1 ((h y).2 List.mem_cons_self) with e | hy
        . exact e.symm
        . exact absurd (bl_lt (b1 x hx) (a1 y hy)) (bl_irr y)
    subst hxy
    rw [ris_ext a2 b2 fun z => ?_]
    constructor
    . intro hz
      rcases List.mem_cons.1 ((h z).1 (List.mem_cons_of_mem _ hz)) with e | hz'
      . subst e; exact absurd (a1 z hz) (bl_irr z)
      . exact hz'
    . intro hz
      rcases List.mem_cons.1 ((h z).2 (List.mem_cons_of_mem _ hz)) with e | hz'
      . subst e; exact absurd (b1 z hz) (bl_irr z)
      . exact hz'
theorem sortM_perm (L : List (List UInt8)) : (sortM L).Perm L := List.mergeSort_perm L _
theorem sortM_ris {L : List (List UInt8)} (hn : L.Nodup) : Ris (sortM L) := by
  have h1 : (sortM L).Pairwise fun x y => decide (x <= y) = true := by
    refine List.pairwise_mergeSort (fun a b c h1 h2 => ?_) (fun a b => ?_) L
    . exact decide_eq_true (List.le_trans (of_decide_eq_true h1) (of_decide_eq_true h2))
    . rw [Bool.or_eq_true]
      rcases List.le_total a b with h | h
      . exact .inl (decide_eq_true h)
      . exact .inr (decide_eq_true h)
  have h2 : (sortM L).Nodup := (sortM_perm L).nodup_iff.2 hn
  refine (h1.and h2).imp ?_
  rintro a b ⟨hle, hne⟩
  have hle := of_decide_eq_true hle
  rcases bl_tri a b with h | h | h
  . exact h
  . exact absurd h hne
  . exact absurd h (List.not_lt.2 hle)
theorem sortM_uM {K L : List (List UInt8)} (hn : K.Nodup) (h : ∀ x, x ∈ K ↔ x ∈ L) : sortM K = uM L :=
  ris_ext (sortM_ris hn) (uM_ris L) fun x => by rw [(sortM_perm K).mem_iff, uM_mem]; exact h x
def mustC (C : List Cls) (w : List UInt8) : List (List UInt8) := (chM C w).flatMap fun u => (gtC C u).2.2.2.1.map foldM
def mayC (C : List Cls) (w : List UInt8) : List (List UInt8) := (chM C w).flatMap fun u => (gtC C u).2.2.2.2.map foldM
def mustF (C : List Cls) (ws : List (List UInt8)) : List (List UInt8) := ws.flatMap (mustC C)
def mayF (C : List Cls) (ws : List (List UInt8)) : List (List UInt8) := ws.flatMap (mayC C)
def mayU (C : List Cls) (ws : List (List UInt8)) : List (List UInt8) := (uM (mayF C ws)).filter fun t => !decide (t ∈ mustF C ws)
theorem mayU_ris (C : List Cls) (ws : List (List UInt8)) : Ris (mayU C ws) := List.Pairwise.filter _ (uM_ris _)
theorem mayU_mem {C : List Cls} {ws : List (List UInt8)} {x : List UInt8} : x ∈ mayU C ws ↔ x ∈ mayF C ws /\ x ∉ mustF C ws := by
  unfold mayU
  rw [List.mem_filter, uM_mem]
  simp
theorem sortM_mayU {C : List Cls} {ws : List (List UInt8)} {K : List (List UInt8)} (hn : K.Nodup) (h : ∀ x, x ∈ K ↔ x ∈ mayF C ws /\ x ∉ mustF C ws) : sortM K = mayU C ws :=
  ris_ext (sortM_ris hn) (mayU_ris C ws) fun x => by rw [(sortM_perm K).mem_iff, h x, mayU_mem]
def strucs (C : List Cls) (ws : List (List UInt8)) : List (List UInt8) := ((ws.map (gtC C)).filter fun c => decide (c.2.2.1 = 1)).map fun c => c.1
def lowest (C : List Cls) (ws : List (List UInt8)) (n : List UInt8) : Bool := (strucs C ws).all fun o => decide (o ∈ chM C n)
def kindM (C : List Cls) (ws : List (List UInt8)) : Option (List UInt8) :=
  if ws.all (fun w => (ixC C w).isSome) = false then none else (strucs C ws).find? (lowest C ws)
theorem gtC_of {C : List Cls} {w : List UInt8} {i : Nat} {c : Cls} (h : ixC C w = some i) (hc : C[i]? = some c) : gtC C w = c := by
  unfold gtC; rw [h]; exact getD_of hc
theorem struc_mem {C : List Cls} {ws : List (List UInt8)} (hall : ws.all (fun w => (ixC C w).isSome) = true) {n : List UInt8} : n ∈ strucs C ws ↔ ∃ w i c, w ∈ ws /\ ixC C w = some i /\ C[i]? = some c /\ c.2.2.1 = 1 /\ n = c.1 := by
  unfold strucs
  constructor
  . intro h
    obtain ⟨c, hc, rfl⟩ := List.mem_map.1 h
    obtain ⟨h1, h2⟩ := List.mem_filter.1 hc
    obtain ⟨w, hw, rfl⟩ := List.mem_map.1 h1
    obtain ⟨i, hi⟩ := Option.isSome_iff_exists.1 (List.all_eq_true.1 hall w hw)
    obtain ⟨c, hc, _, _⟩ := ixM_some hi
    have e := gtC_of hi hc
    exact ⟨w, i, c, hw, hi, hc, by rw [<- e]; exact of_decide_eq_true h2, by rw [e]⟩
  . rintro ⟨w, i, c, hw, hi, hc, hk, rfl⟩
    have e := gtC_of hi hc
    exact List.mem_map.2 ⟨c, List.mem_filter.2 ⟨List.mem_map.2 ⟨w, hw, e⟩, decide_eq_true hk⟩, rfl⟩
end Go.Proofs.YtfmekdmpghhegaaDoor
