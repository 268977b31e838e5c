/- A light walk: frames as short lists of known slots, memory as an immutable part and a list of owned chunks, a judgement 'G' with one rule per operation. This text: the judgement and its structural rules. -/
import Derived.WalkKit
import Derived.Laws.Append
import Derived.Maps.AppendAt
import Derived.StillTail
import Derived.Deep.Quiet
import Derived.Lib.Hide
namespace Go.Proofs.YtibkffoeioidlaaDoor
set_option linter.all false
set_option maxRecDepth 4000
open Go.RowKit

abbrev Fr := List (Nat × Value)
def Fr.get : Fr -> Nat -> Option Value
  | [], _ => none
  | (j, v) :: r, i => bif Nat.beq j i then some v else Fr.get r i

structure FSat (n : Nat) (f : Fr) (a : Act) : Prop where
  size : a.tmps.size = n
  defers : a.defers = []
  get : ∀ i v, Fr.get f i = some v -> a.tmps.getD i undef = v

theorem FSat.put {n : Nat} {f : Fr} {a : Act} (h : FSat n f a) (d : Nat) (v : Value) (hd : Nat.blt d n = true) : FSat n ((d, v) :: f) (a.put (some d) v) := by
  have hd' : d < a.tmps.size := by rw [h.size]; simpa [Nat.blt_eq] using hd
  refine ⟨by simp [Act.put, h.size], h.defers, fun i u hu => ?_⟩
  simp only [Fr.get] at hu
  by_cases hi : d = i
  . subst hi
    simp at hu
    subst hu
    simp [Act.put, Array.getD_eq_getD_getElem?, hd']
  . have hb : Nat.beq d i = false := by
      rw [Bool.eq_false_iff]; intro hb; exact hi (Nat.eq_of_beq_eq_true hb)
    rw [hb] at hu
    simp only [cond_false] at hu
    have := h.get i u hu
    simp only [Act.put, Array.getD_eq_getD_getElem?, Array.getElem?_setIfInBounds] at this ⊢
    simp [hi, this]

theorem FSat.putU {n : Nat} {f : Fr} {a : Act} (h : FSat n f a) (d : Option Nat) (v : Value) (hf : ∀ i, d = some i -> Fr.get f i = none) : FSat n f (a.put d v) := by
  cases d with
  | none => exact h
  | some d =>
    refine ⟨by simp [Act.put, h.size], h.defers, fun i u hu => ?_⟩
    have hi : d ≠ i := fun e => by rw [e] at hf; rw [hf i rfl] at hu; cases hu
    have := h.get i u hu
    simp only [Act.put, Array.getD_eq_getD_getElem?, Array.getElem?_setIfInBounds] at this ⊢
    simp [hi, this]

theorem FSat.cons {n : Nat} {f : Fr} {a : Act} (h : FSat n f a) (d : Nat) (v : Value) (hd : a.tmps.getD d undef = v) : FSat n ((d, v) :: f) a := by
  refine ⟨h.size, h.defers, fun i u hu => ?_⟩
  simp only [Fr.get] at hu
  cases hb : Nat.beq d i with
  | true =>
    rw [hb] at hu
    have := Nat.eq_of_beq_eq_true hb
    subst this
    simp at hu
    subst hu
    exact hd
  | false =>
    rw [hb] at hu
    exact h.get i u hu

def SubFr : Fr -> Fr -> Prop
  | [], _ => True
  | (i, v) :: g, f => Fr.get f i = some v /\ SubFr g f
theorem SubFr.get : ∀ {g f : Fr}, SubFr g f -> ∀ i v, Fr.get g i = some v -> Fr.get f i = some v
  | [], _, _, _, _, h => by cases h
  | (j, u) :: g, f, hs, i, v, h => by
    simp only [Fr.get] at h
    cases hb : Nat.beq j i with
    | true =>
      rw [hb] at h
      have := Nat.eq_of_beq_eq_true hb
      subst this
      simp at h
      subst h
      exact hs.1
    | false => rw [hb] at h; exact SubFr.get hs.2 i v h
theorem FSat.sub {n : Nat} {f g : Fr} {a : Act} (h : FSat n f a) (hs : SubFr g f) : FSat n g a := ⟨h.size, h.defers, fun i v hg => h.get i v (hs.get i v hg)⟩

def ev (f : Fr) : Operand -> Option Value
  | .tmp t => Fr.get f t
  | .const v => some v
  | .global g => some (.pointer (some ⟨g, 0, none⟩))
  | .func g => some (.func (.func g) #[] #[])
theorem ev_eq {n : Nat} {f : Fr} {a : Act} (h : FSat n f a) {x : Operand} {v : Value} (hx : ev f x = some v) : a.eval x = v := by
  cases x with
  | tmp t => exact h.get t v hx
  | const u => simp [ev] at hx; simp [Act.eval, hx]
  | global g => simp [ev] at hx; simp [Act.eval, hx]
  | func g => simp [ev] at hx; simp [Act.eval, hx]

abbrev Heap := Nat -> Option Obj
def Heap.le (h h' : Heap) : Prop := ∀ b o, h b = some o -> h' b = some o
theorem Heap.le_refl (h : Heap) : Heap.le h h := fun _ _ x => x
theorem Heap.le_trans {a b c : Heap} (h : Heap.le a b) (k : Heap.le b c) : Heap.le a c := fun i o x => k i o (h i o x)
def Heap.cell? (h : Heap) (a : Addr) : Option Value :=
  match h a.block with
  | some (.cells c _ _) => if a.spot.isSome then none else c[a.off]?
  | _ => none
theorem Heap.cell_mono {h h' : Heap} (hl : Heap.le h h') {a : Addr} {v : Value} (hc : Heap.cell? h a = some v) : Heap.cell? h' a = some v := by
  unfold Heap.cell? at *
  cases hb : h a.block with
  | none => rw [hb] at hc; cases hc
  | some o => rw [hb] at hc; rw [hl _ _ hb]; exact hc

def Unfz (fz : Nat × Nat) (n : Nat) : Prop := ∀ i, i < n -> ¬ (fz.1 <= i /\ i < fz.2)

inductive Chunk where
  | blk (g : Nat) (cs : List Value) (t : TypeId)
  | row (v : Value) (e : TypeId) (sz : Nat) (rows : List (List Value))
  | obj (g : Nat) (o : Obj)

def Chunk.key : Chunk -> Option Nat
  | .blk g _ _ => some g
  | .row v _ _ _ => v.ownBlock
  | .obj g _ => some g

def Rowed (sz : Nat) (rows : List (List Value)) : Prop := ∀ r ∈ rows, r.length = sz

def Chunk.holds (w : World) : Chunk -> Prop
  | .blk g cs t => ∃ fz, w.heap[g]? = some (.cells cs.toArray t fz) /\ Unfz fz cs.length
  | .row v e sz rows => Rowed sz rows /\ ((v = .slice none 0 0 /\ rows = []) ∨
      ∃ g cap cur fz, v = .slice (some ⟨g, 0, none⟩) rows.length cap /\ w.heap[g]? = some (.cells cur e fz) /\ Unfz fz cur.size /\ rows.length <= cap /\ cap <= maxLen /\ cur.size = cap * sz /\ cur.toList.take (rows.length * sz) = rows.flatten)
  | .obj g o => w.heap[g]? = some o

theorem lt_of_get {w : World} {g : Nat} {o : Obj} (h : w.heap[g]? = some o) : g < w.heap.size := (Array.getElem?_eq_some_iff.1 h).1

theorem Chunk.holds_lt {w : World} {x : Chunk} (h : x.holds w) : ∀ g, x.key = some g -> g < w.heap.size := by
  intro g hg
  cases x with
  | blk b cs t => obtain ⟨fz, hb, _⟩ := h; simp [Chunk.key] at hg; subst hg; exact lt_of_get hb
  | row v e sz rows =>
    rcases h.2 with ⟨rfl, _⟩ | ⟨b, cap, cur, fz, rfl, hb, _⟩
    . simp [Chunk.key, Value.ownBlock] at hg
    . simp [Chunk.key, Value.ownBlock] at hg; subst hg; exact lt_of_get hb
  | obj b o => simp [Chunk.key] at hg; subst hg; exact lt_of_get h

theorem Chunk.holds_congr {w w' : World} {x : Chunk} (hk : ∀ g, x.key = some g -> w'.heap[g]? = w.heap[g]?) (h : x.holds w) : x.holds w' := by
  cases x with
  | blk b cs t => obtain ⟨fz, hb, hu⟩ := h; exact ⟨fz, (hk b rfl).trans hb, hu⟩
  | row v e sz rows =>
    refine ⟨h.1, ?_⟩
    rcases h.2 with h0 | ⟨b, cap, cur, fz, rfl, hb, hr⟩
    . exact .inl h0
    . exact .inr ⟨b, cap, cur, fz, rfl, (hk b (by simp [Chunk.key, Value.ownBlock])).trans hb, hr⟩
  | obj b o => exact (hk b rfl).trans h

def keys (H : List Chunk) : List Nat := H.filterMap Chunk.key
theorem mem_keys {H : List Chunk} {g : Nat} : g ∈ keys H ↔ ∃ x ∈ H, x.key = some g := by simp [keys]
theorem keys_append (A B : List Chunk) : keys (A ++ B) = keys A ++ keys B := by simp [keys]

structure Ctx where
  W0 : World
  K0 : List Nat
  h0 : Heap

structure St (c : Ctx) (h : Heap) (H : List Chunk) (w : World) : Prop where
  os : w.os = c.W0.os
  tape : w.tape = c.W0.tape
  output : w.output = c.W0.output
  size : c.W0.heap.size <= w.heap.size
  fr : ∀ b, b < c.W0.heap.size -> b ∉ c.K0 -> w.heap[b]? = c.W0.heap[b]?
  mono : Heap.le c.h0 h
  imm : ∀ b o, h b = some o -> w.heap[b]? = some o
  own : ∀ x ∈ H, x.holds w
  nodup : (keys H).Nodup
  sep : ∀ g ∈ keys H, h g = none
  ksub : ∀ g ∈ keys H, g ∈ c.K0 \/ c.W0.heap.size <= g
  isub : ∀ b o, h b = some o -> (∃ o', c.h0 b = some o') \/ b ∈ c.K0 \/ c.W0.heap.size <= b

structure StI (h : Heap) (H : List Chunk) (w : World) : Prop where
  imm : ∀ b o, h b = some o -> w.heap[b]? = some o
  own : ∀ x ∈ H, x.holds w
  nodup : (keys H).Nodup
  sep : ∀ g ∈ keys H, h g = none

theorem St.toI {c : Ctx} {h : Heap} {H : List Chunk} {w : World} (s : St c h H w) : StI h H w := ⟨s.imm, s.own, s.nodup, s.sep⟩
theorem StI.start {h : Heap} {H : List Chunk} {w : World} (s : StI h H w) : St ⟨w, keys H, h⟩ h H w :=
  ⟨rfl, rfl, rfl, Nat.le_refl _, fun _ _ _ => rfl, Heap.le_refl h, s.imm, s.own, s.nodup, s.sep, fun _ hg => .inl hg, fun b o hb => .inl ⟨o, hb⟩⟩

structure Spec (P : Program) (g : FuncId) (args : List Value) (h : Heap) (H : List Chunk) (R : Value -> Heap -> List Chunk -> Prop) : Prop where
  run : ∀ w, StI h H w -> Calls P g args.toArray w fun e w' => ∃ v h' H', e = .returned v /\ R v h' H' /\ St ⟨w, keys H, h⟩ h' H' w'

theorem Spec.mono {P : Program} {g : FuncId} {args : List Value} {h : Heap} {H : List Chunk} {R R' : Value -> Heap -> List Chunk -> Prop} (s : Spec P g args h H R)
    (hr : ∀ v h' H', R v h' H' -> Heap.le h h' -> R' v h' H') : Spec P g args h H R' :=
  ⟨fun w hw => (s.run w hw).mono fun _ _ ⟨v, h', H', he, r, st⟩ => ⟨v, h', H', he, hr v h' H' r st.mono, st⟩⟩

theorem St.after {c : Ctx} {h h' : Heap} {H1 H2 H1' : List Chunk} {w w' : World} (s : St c h (H1 ++ H2) w) (t : St ⟨w, keys H1, h⟩ h' H1' w') : St c h' (H1' ++ H2) w' := by
  have hnd := s.nodup
  rw [keys_append, List.nodup_append] at hnd
  obtain ⟨n1, n2, n12⟩ := hnd
  have hlt2 : ∀ g ∈ keys H2, g < w.heap.size := fun g hg => by
    obtain ⟨x, hx, hk⟩ := mem_keys.1 hg
    exact Chunk.holds_lt (s.own x (List.mem_append_right _ hx)) g hk
  have hk2 : ∀ g ∈ keys H2, g ∉ keys H1 := fun g hg h1 => n12 g h1 g hg rfl
  refine ⟨t.os.trans s.os, t.tape.trans s.tape, t.output.trans s.output, Nat.le_trans s.size t.size, fun b hb hK => ?_, Heap.le_trans s.mono t.mono, t.imm, fun x hx => ?_, ?_, fun g hg => ?_, fun g hg => ?_, fun b o hb => ?_⟩
  . rw [<- s.fr b hb hK]
    refine t.fr b (Nat.lt_of_lt_of_le hb s.size) fun h1 => ?_
    rcases s.ksub b (by rw [keys_append]; exact List.mem_append_left _ h1) with h2 | h2
    . exact hK h2
    . omega
  . rcases List.mem_append.1 hx with hx | hx
    . exact t.own x hx
    . refine Chunk.holds_congr (fun g hg => ?_) (s.own x (List.mem_append_right _ hx))
      have hm : g ∈ keys H2 := mem_keys.2 ⟨x, hx, hg⟩
      exact t.fr g (hlt2 g hm) (hk2 g hm)
  . rw [keys_append, List.nodup_append]
    refine ⟨t.nodup, n2, fun a ha b hb hab => ?_⟩
    subst hab
    rcases t.ksub a ha with h1 | h1
    . exact hk2 a hb h1
    . have := hlt2 a hb; simp only at h1; omega
  . rw [keys_append] at hg
    rcases List.mem_append.1 hg with hg | hg
    . exact t.sep g hg
    . cases hh : h' g with
      | none => rfl
      | some o =>
        exfalso
        rcases t.isub g o hh with ⟨o', h1⟩ | h1 | h1
        . have := s.sep g (by rw [keys_append]; exact List.mem_append_right _ hg)
          simp only at h1
          rw [this] at h1
          cases h1
        . exact hk2 g hg h1
        . have := hlt2 g hg; simp only at h1; omega
  . rw [keys_append] at hg
    rcases List.mem_append.1 hg with hg | hg
    . rcases t.ksub g hg with h1 | h1
      . exact s.ksub g (by rw [keys_append]; exact List.mem_append_left _ h1)
      . exact .inr (Nat.le_trans s.size h1)
    . exact s.ksub g (by rw [keys_append]; exact List.mem_append_right _ hg)
  . rcases t.isub b o hb with ⟨o', h1⟩ | h1 | h1
    . exact s.isub b o' h1
    . rcases s.ksub b (by rw [keys_append]; exact List.mem_append_left _ h1) with h2 | h2
      . exact .inr (.inl h2)
      . exact .inr (.inr h2)
    . exact .inr (.inr (Nat.le_trans s.size h1))

def SubH (A B : List Chunk) : Prop := ∃ C, B.Perm (A ++ C)
theorem St.sub {c : Ctx} {h : Heap} {A B : List Chunk} {w : World} (s : St c h B w) (hs : SubH A B) : St c h A w := by
  obtain ⟨C, hp⟩ := hs
  have hk : (keys B).Perm (keys A ++ keys C) := by
    have := hp.filterMap Chunk.key
    rw [List.filterMap_append] at this
    exact this
  have hmem : ∀ g ∈ keys A, g ∈ keys B := fun g hg => hk.mem_iff.2 (List.mem_append_left _ hg)
  exact ⟨s.os, s.tape, s.output, s.size, s.fr, s.mono, s.imm, fun x hx => s.own x (hp.mem_iff.2 (List.mem_append_left _ hx)),
    (List.nodup_append.1 (hk.nodup_iff.1 s.nodup)).1, fun g hg => s.sep g (hmem g hg), fun g hg => s.ksub g (hmem g hg), s.isub⟩
theorem StI.sub {h : Heap} {A B : List Chunk} {w : World} (s : StI h B w) (hs : SubH A B) : StI h A w := (s.start.sub hs).toI

inductive Take : Chunk -> List Chunk -> List Chunk -> Prop
  | hd {x : Chunk} {l : List Chunk} : Take x (x :: l) l
  | tl {x y : Chunk} {l r : List Chunk} : Take x l r -> Take x (y :: l) (y :: r)
theorem Take.perm {x : Chunk} {l r : List Chunk} (h : Take x l r) : l.Perm (x :: r) := by
  induction h with
  | hd => exact List.Perm.refl _
  | tl _ ih => exact (List.Perm.cons _ ih).trans (List.Perm.swap _ _ _)
theorem Take.mem {x : Chunk} {l r : List Chunk} (h : Take x l r) : x ∈ l := h.perm.mem_iff.2 (by simp)
inductive Takes : List Chunk -> List Chunk -> List Chunk -> Prop
  | nil {l : List Chunk} : Takes [] l l
  | cons {x : Chunk} {xs l m r : List Chunk} : Take x l m -> Takes xs m r -> Takes (x :: xs) l r
theorem Takes.perm {xs l r : List Chunk} (h : Takes xs l r) : l.Perm (xs ++ r) := by
  induction h with
  | nil => exact List.Perm.refl _
  | cons h _ ih => exact h.perm.trans (List.Perm.cons _ ih)
theorem Takes.sub {xs l r : List Chunk} (h : Takes xs l r) : SubH xs l := ⟨r, h.perm⟩
theorem Zh {x : Chunk} {l : List Chunk} : Take x (x :: l) l := Take.hd
theorem Zt {x y : Chunk} {l r : List Chunk} : Take x l r → Take x (y :: l) (y :: r) := Take.tl
theorem Zn {l : List Chunk} : Takes [] l l := Takes.nil
theorem Zc {x : Chunk} {xs l m r : List Chunk} : Take x l m → Takes xs m r → Takes (x :: xs) l r := Takes.cons
theorem Zs {xs l r : List Chunk} (h : Takes xs l r) : SubH xs l := h.sub
theorem Zm {l : List Chunk} : SubH [] l := Takes.nil.sub
theorem Zk {x : Chunk} {xs l m : List Chunk} (t : Take x l m) (s : SubH xs m) : SubH (x :: xs) l := by
  obtain ⟨r, h⟩ := s
  exact ⟨r, t.perm.trans (List.Perm.cons x h)⟩
theorem Zb {a : Bool} (h : a = !a) : False := by cases a <;> cases h
theorem Zx {a : Prop} (h : a) (k : ¬a := by with_reducible assumption) : False := k h
theorem Zy {a : Prop} (k : ¬a) (h : a := by with_reducible assumption) : False := k h
theorem Zr (h : Heap) : Heap.le h h := Heap.le_refl h
theorem Zq {a b c : Heap} (h : Heap.le a b) (k : Heap.le b c) : Heap.le a c := Heap.le_trans h k
theorem Za {p : Prop} (h : p := by solve | repeat first | apply Zh | apply Zt) : p := h
theorem Zo {p : Prop} (h : p := by first | omega | (simp only [lens] at *; omega)) : p := h
theorem Zl {p : Prop} (h : p := by solve | (repeat (first | assumption | (apply HSl.mono; rotate_left; assumption)))) : p := h
theorem Zj {p : Prop} (h : p := by first | (simp only [Int.reduceToNat]; rfl) | with_reducible apply Int.toNat_natCast | exact Eq.refl _) : p := h
theorem Zg {p : Prop} (h : p := by first | apply Heap.none_le | apply Heap.le_refl | assumption | (refine Zq ?_ (by assumption); assumption)) : p := h
theorem Zu {p : Prop} (h : p := by solve | repeat first | apply Zm | apply Zh | apply Zt | apply Zk) : p := h
theorem Zp {p : Prop} (h : p := by assumption) : p := h
theorem Ze {p : Prop} (h : p := by solve | repeat first | apply Zn | apply Zh | apply Zt | apply Zc) : p := h
theorem Zd {p : Prop} (h : p := by solve | (repeat (first | apply DropS.nil | (apply DropS.cons; rfl; solve | repeat (first | apply Take.hd | apply Take.tl)) | (apply DropS.rows; repeat (first | apply DropRows.nil | apply DropRows.drop | apply DropRows.keep)) | apply DropS.skip))) : p := h
theorem Zi {p : Prop} (h : p := by simp only [inR]; omega) : p := h
theorem Zw {p : Prop} (h : p := by decide +kernel) : p := h
theorem Zv {p : Prop} (h : p := by solve | repeat first | assumption | exact Zr _ | refine Zq ?_ (by assumption)) : p := h
theorem Zz {p : Prop} (h : p := by solve | exact Heap.none_le _ | assumption | exact Zr _ | (repeat first | assumption | exact Zr _ | refine Zq ?_ (by assumption))) : p := h
theorem Zf {p : Prop} (h : False := by first | omega | exact Zx hc | exact Zy hc | exact Zb hc | exact hc | exact hc trivial | fail) : p := h.elim
theorem SubH.rfl_ (l : List Chunk) : SubH l l := ⟨[], by simp⟩
theorem SubH.nil (l : List Chunk) : SubH [] l := ⟨l, by simp⟩

end Go.Proofs.YtibkffoeioidlaaDoor
