/- Maps whose keys stand for a set of texts; how far a range over one has come. -/
import Derived.Test.YtfmekdmpghhegaaDoorLtW
namespace Go.Proofs.YtfmekdmpghhegaaDoor
set_option linter.all false
set_option maxRecDepth 4000
open Go.RowKit

abbrev Ens := List (List UInt8 × Value × Nat)
structure SetM (es : Ens) (c : Nat) (L : List (List UInt8)) : Prop where
  k : (es.map (·.1)).Nodup
  b : (es.map (·.2.2)).Nodup
  bc : ∀ x ∈ es, x.2.2 < c
  m : ∀ x, x ∈ es.map (·.1) ↔ x ∈ L
theorem SetM.nil : SetM [] 0 [] := ⟨List.nodup_nil, List.nodup_nil, fun x hx => by simp at hx, fun x => by simp⟩
theorem mHasS_iff (q : List UInt8) : ∀ es : Ens, mHasS q es = true ↔ q ∈ es.map (·.1)
  | [] => by simp [mHasS]
  | (j, v, b) :: es => by
    rw [mHasS, List.map_cons, List.mem_cons]
    by_cases h : q = j
    . simp [h]
    . rw [if_neg h, mHasS_iff q es]; simp [h]
theorem map_modify {α β : Type} {g : α -> β} {f : α -> α} (h : ∀ x, g (f x) = g x) : ∀ (l : List α) (i : Nat), (l.modify i f).map g = l.map g
  | [], i => by cases i <;> rfl
  | x :: l, 0 => by simp [h]
  | x :: l, i + 1 => by simp [map_modify h l i]
theorem SetM.put {es : Ens} {c : Nat} {L : List (List UInt8)} (s : SetM es c L) (q : List UInt8) (v : Value) : SetM (mPutS q v es c) (mTickS q es c) (L ++ [q]) := by
  rcases mFind_getS v q es 0 with ⟨h1, h2, h3⟩ | ⟨j, u, h1, h2, h3⟩
  . have hno : q ∉ es.map (·.1) := fun hh => by rw [(mHasS_iff q es).2 hh] at h3; cases h3
    unfold mPutS mTickS
    rw [h1, h3]
    simp only [Bool.false_eq_true, if_false]
    refine ⟨?_, ?_, ?_, ?_⟩
    . rw [List.map_append, List.nodup_append]
      refine ⟨s.k, by simp, fun a ha b hb => ?_⟩
      simp at hb; subst hb
      exact fun e => hno (e ▸ ha)
    . rw [List.map_append, List.nodup_append]
      refine ⟨s.b, by simp, fun a ha b hb => ?_⟩
      simp at hb; subst hb
      obtain ⟨x, hx, rfl⟩ := List.mem_map.1 ha
      have := s.bc x hx
      omega
    . intro x hx
      rcases List.mem_append.1 hx with hx | hx
      . have := s.bc x hx; omega
      . simp at hx; subst hx; simp
    . intro x
      rw [List.map_append, List.mem_append, s.m x, List.mem_append]; simp
  . have hyes : q ∈ es.map (·.1) := (mHasS_iff q es).1 h3
    unfold mPutS mTickS
    rw [h1, h3]
    simp only [if_true]
    have e1 : (es.modify j fun x => (x.1, v, x.2.2)).map (·.1) = es.map (·.1) := map_modify (g := fun x : List UInt8 × Value × Nat => x.1) (f := fun x => (x.1, v, x.2.2)) (fun x => rfl) es j
    have e2 : (es.modify j fun x => (x.1, v, x.2.2)).map (·.2.2) = es.map (·.2.2) := map_modify (g := fun x : List UInt8 × Value × Nat => x.2.2) (f := fun x => (x.1, v, x.2.2)) (fun x => rfl) es j
    refine ⟨by rw [e1]; exact s.k, by rw [e2]; exact s.b, fun x hx => ?_, fun x => ?_⟩
    . have : x.2.2 ∈ (es.modify j fun x => (x.1, v, x.2.2)).map (·.2.2) := List.mem_map.2 ⟨x, hx, rfl⟩
      rw [e2] at this
      obtain ⟨y, hy, e⟩ := List.mem_map.1 this
      have := s.bc y hy
      rw [<- e]; exact this
    . rw [e1, s.m x, List.mem_append, List.mem_singleton]
      exact ⟨.inl, fun hh => by rcases hh with hh | rfl; exact hh; exact (s.m _).1 hyes⟩
theorem mDelS_sub (q : List UInt8) : ∀ es : Ens, (mDelS q es).Sublist es
  | [] => .slnil
  | (j, v, b) :: es => by
    unfold mDelS
    split
    . exact List.sublist_cons_self _ _
    . exact (mDelS_sub q es).cons₂ _
theorem mDelS_mem {q : List UInt8} : ∀ {es : Ens}, (es.map (·.1)).Nodup -> ∀ x, x ∈ (mDelS q es).map (·.1) ↔ x ∈ es.map (·.1) /\ x ≠ q
  | [], _, x => by simp [mDelS]
  | (j, v, b) :: es, hn, x => by
    rw [List.map_cons, List.nodup_cons] at hn
    unfold mDelS
    by_cases h : q = j
    . rw [if_pos h, List.map_cons, List.mem_cons]
      constructor
      . intro hx; exact ⟨.inr hx, fun e => hn.1 (h ▸ e ▸ hx)⟩
      . rintro ⟨hx | hx, hne⟩
        . exact absurd (hx.trans h.symm) hne
        . exact hx
    . rw [if_neg h, List.map_cons, List.mem_cons, mDelS_mem hn.2 x, List.map_cons, List.mem_cons]
      constructor
      . rintro (hx | ⟨hx, hne⟩)
        . exact ⟨.inl hx, fun e => h (e.symm.trans hx)⟩
        . exact ⟨.inr hx, hne⟩
      . rintro ⟨hx | hx, hne⟩
        . exact .inl hx
        . exact .inr ⟨hx, hne⟩
theorem SetM.del {es : Ens} {c : Nat} {L L' : List (List UInt8)} (s : SetM es c L) (q : List UInt8) (h : ∀ x, x ∈ L' ↔ x ∈ L /\ x ≠ q) : SetM (mDelS q es) c L' :=
  ⟨s.k.sublist ((mDelS_sub q es).map _), s.b.sublist ((mDelS_sub q es).map _), fun x hx => s.bc x ((mDelS_sub q es).subset hx), fun x => by rw [mDelS_mem s.k, s.m x, h x]⟩
structure Seen (es : Ens) (seen : Array Nat) (P : List (List UInt8)) : Prop where
  nd : P.Nodup
  sub : ∀ x ∈ P, x ∈ es.map (·.1)
  at_ : ∀ e ∈ es, seen.contains e.2.2 = true ↔ e.1 ∈ P
theorem Seen.nil (es : Ens) : Seen es #[] [] := ⟨List.nodup_nil, fun x hx => by simp at hx, fun e _ => by simp⟩
theorem ens_one {es : Ens} (hk : (es.map (·.1)).Nodup) {x y : List UInt8 × Value × Nat} (hx : x ∈ es) (hy : y ∈ es) (h : x.1 = y.1) : x = y := by
  induction es with
  | nil => simp at hx
  | cons z es ih =>
    rw [List.map_cons, List.nodup_cons] at hk
    rcases List.mem_cons.1 hx with e1 | hx'
    . rcases List.mem_cons.1 hy with e2 | hy'
      . exact e1.trans e2.symm
      . exact absurd (List.mem_map.2 ⟨y, hy', by rw [<- h, e1]⟩) hk.1
    . rcases List.mem_cons.1 hy with e2 | hy'
      . exact absurd (List.mem_map.2 ⟨x, hx', by rw [h, e2]⟩) hk.1
      . exact ih hk.2 hx' hy'
theorem ens_oneB {es : Ens} (hk : (es.map (·.2.2)).Nodup) {x y : List UInt8 × Value × Nat} (hx : x ∈ es) (hy : y ∈ es) (h : x.2.2 = y.2.2) : x = y := by
  induction es with
  | nil => simp at hx
  | cons z es ih =>
    rw [List.map_cons, List.nodup_cons] at hk
    rcases List.mem_cons.1 hx with e1 | hx'
    . rcases List.mem_cons.1 hy with e2 | hy'
      . exact e1.trans e2.symm
      . exact absurd (List.mem_map.2 ⟨y, hy', by rw [<- h, e1]⟩) hk.1
    . rcases List.mem_cons.1 hy with e2 | hy'
      . exact absurd (List.mem_map.2 ⟨x, hx', by rw [h, e2]⟩) hk.1
      . exact ih hk.2 hx' hy'
theorem Seen.step {es : Ens} {c : Nat} {L : List (List UInt8)} (hs : SetM es c L) {seen : Array Nat} {P : List (List UInt8)} (s : Seen es seen P) {q : List UInt8} {v : Value} {b : Nat} (h : (q, v, b) ∈ es) (hb : seen.contains b = false) : Seen es (seen.push b) (P ++ [q]) := by
  have hq : q ∉ P := fun hh => by
    have := (s.at_ _ h).2 hh
    rw [this] at hb; cases hb
  refine ⟨?_, fun x hx => ?_, fun e he => ?_⟩
  . rw [List.nodup_append]
    refine ⟨s.nd, by simp, fun a ha b hb => ?_⟩
    simp at hb; subst hb
    exact fun e => hq (e ▸ ha)
  . rcases List.mem_append.1 hx with hx | hx
    . exact s.sub x hx
    . simp at hx; subst hx; exact List.mem_map.2 ⟨_, h, rfl⟩
  . have e1 : (seen.push b).contains e.2.2 = true ↔ e.2.2 = b \/ seen.contains e.2.2 = true := by
      rw [Array.contains_push, Bool.or_eq_true]
      constructor
      . rintro (h | h)
        . exact .inr h
        . exact .inl (by simpa using h)
      . rintro (h | h)
        . exact .inr (by simpa using h)
        . exact .inl h
    rw [e1, s.at_ e he, List.mem_append, List.mem_singleton]
    constructor
    . rintro (hh | hh)
      . have := ens_oneB hs.b he h hh
        subst this; exact .inr rfl
      . exact .inl hh
    . rintro (hh | hh)
      . exact .inr hh
      . have := ens_one hs.k he h hh
        subst this; exact .inl rfl
theorem nodup_len {α : Type} [DecidableEq α] : ∀ {l m : List α}, l.Nodup -> (∀ x ∈ l, x ∈ m) -> l.length <= m.length
  | [], m, _, _ => by simp
  | x :: l, m, hn, hs => by
    rw [List.nodup_cons] at hn
    have hx := hs x List.mem_cons_self
    have := nodup_len (l := l) (m := m.erase x) hn.2 fun y hy => by
      exact (List.mem_erase_of_ne (fun e => hn.1 (by rw [<- e]; exact hy))).2 (hs y (List.mem_cons_of_mem _ hy))
    rw [List.length_erase_of_mem hx] at this
    have := List.length_pos_of_mem hx
    simp only [List.length_cons]; omega
theorem Seen.len {es : Ens} {seen : Array Nat} {P : List (List UInt8)} (s : Seen es seen P) : P.length <= es.length := by
  have := nodup_len s.nd s.sub
  simpa using this
theorem Seen.lt {es : Ens} {seen : Array Nat} {P : List (List UInt8)} (s : Seen es seen P) {q : List UInt8} {v : Value} {b : Nat} (h : (q, v, b) ∈ es) (hb : seen.contains b = false) : P.length < es.length := by
  have hq : q ∉ P := fun hh => by
    have := (s.at_ _ h).2 hh
    rw [this] at hb; cases hb
  have h1 : (q :: P).Nodup := List.nodup_cons.2 ⟨hq, s.nd⟩
  have := nodup_len (m := es.map (·.1)) h1 fun x hx => by
    rcases List.mem_cons.1 hx with rfl | hx
    . exact List.mem_map.2 ⟨_, h, rfl⟩
    . exact s.sub x hx
  simp only [List.length_cons, List.length_map] at this; omega
theorem Seen.over {es : Ens} {c : Nat} {L : List (List UInt8)} (hs : SetM es c L) {seen : Array Nat} {P : List (List UInt8)} (s : Seen es seen P) (h : ∀ x ∈ es, seen.contains x.2.2 = true) : ∀ x, x ∈ P ↔ x ∈ L := fun x => by
  rw [<- hs.m x]
  refine ⟨s.sub x, fun hx => ?_⟩
  obtain ⟨e, he, rfl⟩ := List.mem_map.1 hx
  exact (s.at_ e he).1 (h e he)
end Go.Proofs.YtfmekdmpghhegaaDoor
