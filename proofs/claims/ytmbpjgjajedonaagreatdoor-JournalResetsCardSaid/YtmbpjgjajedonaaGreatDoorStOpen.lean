/- From a contract over the whole memory to what a row asks of a call. -/
import Derived.Test.YtmbpjgjajedonaaGreatDoorLtJ
import Derived.Test.YtmbpjgjajedonaaGreatDoorLtM
import Derived.ProofKit
import Derived.OpenShut
import Derived.SliceStrings
import Derived.ShutString
import Derived.Test.YtmbpjgjajedonaaGreatDoorRows
import Derived.Test.YtmbpjgjajedonaaGreatDoorJoM
import Derived.LaidMore
import Derived.Stop.Joined
import Derived.ChangeArms
import Derived.Deep.Strs
import Derived.Test.YtmbpjgjajedonaaGreatDoorJpH
import Derived.Test.YtmbpjgjajedonaaGreatDoorDkL
namespace Go.Proofs.YtmbpjgjajedonaaGreatDoor
set_option linter.all false
set_option maxRecDepth 4000
open Go.RowKit

def heapOf (w : World) : Heap := fun b => w.heap[b]?
theorem Spec.law {P : Program} {g : FuncId} {args : List Value} {w : World} {v : Value} (s : Spec P g args (heapOf w) [] (fun u _ _ => u = v)) :
    Calls P g args.toArray w fun e w' => e = .returned v /\ Below w.heap.size w w' := by
  refine (s.run w ⟨fun b o hb => hb, fun x hx => absurd hx (by simp), by simp [keys], fun g hg => by simp [keys] at hg⟩).mono ?_
  rintro e w' ⟨u, h', H', rfl, rfl, st⟩
  exact ⟨rfl, st.os, st.tape, st.output, st.size, fun b hb => st.fr b hb (by simp [keys])⟩
end Go.Proofs.YtmbpjgjajedonaaGreatDoor
namespace Go.Proofs.YtmbpjgjajedonaaGreatDoor
set_option linter.all false
set_option maxRecDepth 4000
open Go.RowKit

theorem string_eq (s : ByteArray) : Value.string s = str s.data.toList := by cases s; simp [str]
theorem inR_of_wf {k : IntKind} {n : Int} (h : (Lit.int k n).wf = true) : inR k n := by
  simp only [Lit.wf, Bool.and_eq_true, decide_eq_true_eq] at h
  cases k <;> exact h
end Go.Proofs.YtmbpjgjajedonaaGreatDoor
namespace Go.Proofs.YtmbpjgjajedonaaGreatDoor
set_option linter.all false
set_option maxRecDepth 4000
open Go.ChangeShapes Go.WideShapes Go.ChangeAt Go.RowKit

abbrev laidL : List (String × DataW Unit) := [("unicode/utf8.acceptRanges", Rows.laid_unicode_utf8_acceptRanges), ("unicode/utf8.first", Rows.laid_unicode_utf8_first)]
theorem tabs_of {W : World} (_ : laidMetH Tryz.prog laidL W) : True := trivial
end Go.Proofs.YtmbpjgjajedonaaGreatDoor
namespace Go.Proofs.YtmbpjgjajedonaaGreatDoor
set_option linter.all false
set_option maxRecDepth 4000
open Go.ChangeShapes Go.WideShapes Go.RowKit

theorem bulkAll_snoc {H : Type} (d : DataW H) : ∀ l : List (DataW H), Rows.uptoBulkAll (l ++ [d]) = Rows.uptoBulkAll l + Rows.uptoBulk d
  | [] => by simp [Rows.uptoBulkAll]
  | x :: l => by simp only [List.cons_append, Rows.uptoBulkAll, bulkAll_snoc d l]; omega
section
variable {H : Type} {enc : TypeId × Value -> H} {W : World} {P : Program}
theorem sl_go {α : Type} {R : α -> List Value -> Prop} {m : α -> Nat} {c e sz n' : Nat} (ih : ∀ cs (x : DataW H × List MemPlace), DataW.trod enc P W 0 (fun _ => true) true n' e cs = some x -> ∃ a : α, R a cs /\ m a <= c * Rows.uptoBulk x.1)
    {a : Addr} {len : Nat} {elems : List (DataW H × List MemPlace)} (hlen : elems.length = len)
    (hel : ∀ i, i < len -> (W.cells? 0 (a.add (i * sz)) sz).bind (DataW.trod enc P W 0 (fun _ => true) true n' e) = elems[i]?) :
    ∀ k, k <= len -> ∃ (l : List α) (rows : List (List Value)), rows.length = k /\ l.length = k /\ Rowed sz rows /\ (∀ (i : Nat) (b : α), l[i]? = some b -> ∃ r, rows[i]? = some r /\ R b r) /\ (∀ j u, rows.flatten[j]? = some u -> Heap.cell? (heapOf W) (a.add j) = some u) ∧
      (l.map m).sum <= c * Rows.uptoBulkAll ((elems.take k).map (·.1))
  | 0, _ => ⟨[], [], rfl, rfl, fun r hr => absurd hr (by simp), fun i b hb => by simp at hb, fun j u hj => by simp at hj, by simp⟩
  | k + 1, hk => by
    obtain ⟨l, rows, h1, h0, h2, h3, h4, h5⟩ := sl_go ih hlen hel k (by omega)
    have hkl : k < elems.length := by omega
    have he := hel k (by omega)
    rw [List.getElem?_eq_getElem hkl] at he
    obtain ⟨cs, hc, ht⟩ := Option.bind_eq_some_iff.1 he
    obtain ⟨b, g1, g2⟩ := ih cs _ ht
    obtain ⟨_, hcl, hat⟩ := World.cells?_some hc
    have htk : elems.take (k + 1) = elems.take k ++ [elems[k]] := List.take_succ_eq_append_getElem hkl
    refine ⟨l ++ [b], rows ++ [cs], by simp [h1], by simp [h0], h2.append (fun r hr => by simp at hr; subst hr; exact hcl), fun i b' hb => ?_, fun j u hj => ?_, ?_⟩
    . by_cases hi : i < k
      . rw [List.getElem?_append_left (by omega)] at hb
        obtain ⟨r, hr1, hr2⟩ := h3 i b' hb
        exact ⟨r, by rw [List.getElem?_append_left (by omega)]; exact hr1, hr2⟩
      . have hi2 := (List.getElem?_eq_some_iff.1 hb).1
        rw [List.length_append, h0] at hi2
        simp only [List.length_cons, List.length_nil] at hi2
        obtain rfl : i = k := by omega
        rw [List.getElem?_append_right (by omega), h0, Nat.sub_self] at hb
        simp only [List.getElem?_cons_zero, Option.some.injEq] at hb
        subst hb
        exact ⟨cs, by rw [List.getElem?_append_right (by omega), h1, Nat.sub_self]; rfl, g1⟩
    . simp only [List.flatten_append, List.flatten_cons, List.flatten_nil, List.append_nil] at hj
      have hfl : rows.flatten.length = k * sz := by rw [flatten_length h2, h1]
      by_cases hjl : j < rows.flatten.length
      . rw [List.getElem?_append_left hjl] at hj; exact h4 j u hj
      . rw [List.getElem?_append_right (by omega)] at hj
        have hlt : j - rows.flatten.length < sz := by rw [<- hcl]; exact (List.getElem?_eq_some_iff.1 hj).1
        have := hat _ hlt
        rw [hj, add_add_, show k * sz + (j - rows.flatten.length) = j by omega] at this
        exact this
    . simp only [htk, List.map_append, List.map_cons, List.map_nil, bulkAll_snoc, List.sum_append, List.sum_cons, List.sum_nil, Nat.mul_add, Nat.add_zero]
      omega
theorem sl_open {α : Type} {R : α -> List Value -> Prop} {m : α -> Nat} {c t e sz fuel : Nat} {v : Value} {x : DataW H × List MemPlace} (hs : P.underlying t = some (.slice e)) (hce : P.cellsOf e = sz) (hc1 : 1 <= c)
    (ih : ∀ n', n' < fuel -> ∀ cs (x : DataW H × List MemPlace), DataW.trod enc P W 0 (fun _ => true) true n' e cs = some x -> ∃ a : α, R a cs /\ m a <= c * Rows.uptoBulk x.1)
    (h : DataW.trod enc P W 0 (fun _ => true) true fuel t [v] = some x) :
    ∃ (l : List α) (rows : List (List Value)), HSl (heapOf W) v sz rows /\ l.length = rows.length /\ (∀ (i : Nat) (b : α), l[i]? = some b -> ∃ r, rows[i]? = some r /\ R b r) /\ (l.map m).sum + 1 <= c * Rows.uptoBulk x.1 := by
  rcases DataW.trod_slice hs h with ⟨hc, hy⟩ | ⟨a, len, cap, elems, rest, n', hn', hc, hy, _, hl1, hm1, hlen1, hel, _, _⟩
  . simp only [List.cons.injEq, and_true] at hc
    subst hc
    refine ⟨[], [], HSl.nil _ sz, rfl, fun i b hb => by simp at hb, ?_⟩
    rw [hy]; simp only [Rows.uptoBulk, List.map_nil, List.sum_nil]; omega
  . simp only [List.cons.injEq, and_true] at hc
    subst hc
    rw [hce] at hel
    obtain ⟨l, rows, h1, h0, h2, h3, h4, h5⟩ := sl_go (fun cs x hh => ih n' (by omega) cs x hh) hlen1 hel len (Nat.le_refl _)
    rw [List.take_of_length_le (by omega)] at h5
    refine ⟨l, rows, ⟨h2, some a, cap, by rw [h1], by rw [h1]; exact hl1, hm1, fun _ => ⟨a, rfl, h4⟩⟩, by omega, h3, ?_⟩
    rw [hy]; simp only [Rows.uptoBulk, Nat.mul_add]; omega
end
end Go.Proofs.YtmbpjgjajedonaaGreatDoor
namespace Go.Proofs.YtmbpjgjajedonaaGreatDoor
set_option linter.all false
set_option maxRecDepth 4000
open Go.RowKit

def LC {α : Type} (R : Heap -> α -> List Value -> Prop) (h : Heap) : List α -> List (List Value) -> Prop
  | [], rows => rows = []
  | a :: l, rows => ∃ r rest, rows = r :: rest /\ R h a r /\ LC R h l rest
theorem LC.mono {α : Type} {R : Heap -> α -> List Value -> Prop} {h h' : Heap} (hR : ∀ {a r}, R h a r -> R h' a r) : ∀ {l : List α} {rows : List (List Value)}, LC R h l rows -> LC R h' l rows
  | [], _, e => e
  | _ :: _, _, ⟨v, rest, e, h1, h2⟩ => ⟨v, rest, e, hR h1, h2.mono hR⟩
theorem LC.len {α : Type} {R : Heap -> α -> List Value -> Prop} {h : Heap} : ∀ {l : List α} {rows : List (List Value)}, LC R h l rows -> rows.length = l.length
  | [], _, e => by simp only [LC] at e; subst e; rfl
  | _ :: _, _, ⟨v, rest, e, h1, h2⟩ => by subst e; simp [h2.len]
theorem LC.append {α : Type} {R : Heap -> α -> List Value -> Prop} {h : Heap} : ∀ {a b : List α} {ra rb : List (List Value)}, LC R h a ra -> LC R h b rb -> LC R h (a ++ b) (ra ++ rb)
  | [], b, ra, rb, ha, hb => by simp only [LC] at ha; subst ha; exact hb
  | _ :: _, b, ra, rb, ⟨v, rest, e, h1, h2⟩, hb => by subst e; exact ⟨v, rest ++ rb, rfl, h1, h2.append hb⟩
theorem LC.one {α : Type} {R : Heap -> α -> List Value -> Prop} {h : Heap} {a : α} {r : List Value} (hv : R h a r) : LC R h [a] [r] := ⟨r, [], rfl, hv, rfl⟩
theorem LC.get {α : Type} {R : Heap -> α -> List Value -> Prop} {h : Heap} : ∀ {l : List α} {rows : List (List Value)} {i : Nat} {a : α}, LC R h l rows -> l[i]? = some a -> ∃ r, rows[i]? = some r /\ R h a r
  | [], _, i, r, _, hi => by simp at hi
  | _ :: _, _, 0, r, ⟨v, rest, e, h1, h2⟩, hi => by simp at hi; subst hi; subst e; exact ⟨v, rfl, h1⟩
  | _ :: _, _, i + 1, r, ⟨v, rest, e, h1, h2⟩, hi => by
    subst e
    simp at hi
    obtain ⟨v', h3, h4⟩ := h2.get hi
    exact ⟨v', by simpa using h3, h4⟩
theorem LC.drop {α : Type} {R : Heap -> α -> List Value -> Prop} {h : Heap} : ∀ {l : List α} {rows : List (List Value)} (i : Nat), LC R h l rows -> LC R h (l.drop i) (rows.drop i)
  | _, _, 0, e => by simpa using e
  | [], _, i + 1, e => by simp only [LC] at e; subst e; simp [LC]
  | _ :: _, _, i + 1, ⟨v, rest, e, h1, h2⟩ => by subst e; simpa using h2.drop i
theorem LC.take {α : Type} {R : Heap -> α -> List Value -> Prop} {h : Heap} : ∀ {l : List α} {rows : List (List Value)} (i : Nat), LC R h l rows -> LC R h (l.take i) (rows.take i)
  | _, _, 0, e => by simp [LC]
  | [], _, i + 1, e => by simp only [LC] at e; subst e; simp [LC]
  | _ :: _, _, i + 1, ⟨v, rest, e, h1, h2⟩ => by subst e; exact ⟨v, rest.take i, by simp, h1, h2.take i⟩
theorem LC.rowed {α : Type} {R : Heap -> α -> List Value -> Prop} {h : Heap} {n : Nat} (hR : ∀ {a r}, R h a r -> r.length = n) : ∀ {l : List α} {rows : List (List Value)}, LC R h l rows -> Rowed n rows
  | [], _, e => by simp only [LC] at e; subst e; intro r hr; simp at hr
  | _ :: _, _, ⟨v, rest, e, h1, h2⟩ => by
    subst e
    intro r hr
    rcases List.mem_cons.1 hr with rfl | hr
    . exact hR h1
    . exact h2.rowed hR r hr
theorem LC.all {α : Type} {R : Heap -> α -> List Value -> Prop} {h : Heap} {p : List Value -> Prop} (hR : ∀ {a r}, R h a r -> p r) : ∀ {l : List α} {rows : List (List Value)}, LC R h l rows -> ∀ r ∈ rows, p r
  | [], _, e => by simp only [LC] at e; subst e; intro r hr; simp at hr
  | _ :: _, _, ⟨v, rest, e, h1, h2⟩ => by
    subst e
    intro r hr
    rcases List.mem_cons.1 hr with rfl | hr
    . exact hR h1
    . exact h2.all hR r hr
theorem LC.of {α : Type} {R : Heap -> α -> List Value -> Prop} {h : Heap} : ∀ (l : List α) (rows : List (List Value)), l.length = rows.length -> (∀ (i : Nat) b, l[i]? = some b -> ∃ r, rows[i]? = some r /\ R h b r) -> LC R h l rows
  | [], [], _, _ => rfl
  | [], _ :: _, h, _ => by simp at h
  | _ :: _, [], h, _ => by simp at h
  | b :: l, r :: rows, h, hr => by
    obtain ⟨r0, h0, h1⟩ := hr 0 b rfl
    simp only [List.getElem?_cons_zero, Option.some.injEq] at h0
    have ih := LC.of l rows (by simpa using h) (fun i b' hb => by simpa using hr (i + 1) b' (by simpa using hb))
    exact ⟨r, rows, rfl, h0 ▸ h1, ih⟩
def SC {α : Type} (R : Heap -> α -> List Value -> Prop) (n : Nat) (h : Heap) (l : List α) (v : Value) : Prop := ∃ rows, HSl h v n rows /\ LC R h l rows
theorem SC.mono {α : Type} {R : Heap -> α -> List Value -> Prop} {n : Nat} {h h' : Heap} (hR : ∀ {a r}, R h a r -> R h' a r) (hl : Heap.le h h') {l : List α} {v : Value} : SC R n h l v -> SC R n h' l v
  | ⟨rows, h1, h2⟩ => ⟨rows, h1.mono hl, h2.mono hR⟩
theorem SC.nil {α : Type} (R : Heap -> α -> List Value -> Prop) (n : Nat) (h : Heap) : SC R n h [] (.slice none 0 0) := ⟨[], HSl.nil h n, rfl⟩
theorem SC.form {α : Type} {R : Heap -> α -> List Value -> Prop} {n : Nat} {h : Heap} {l : List α} {v : Value} : SC R n h l v -> ∃ A c, v = .slice A l.length c /\ l.length <= c /\ l.length <= 9223372036854775807
  | ⟨rows, h1, h2⟩ => by
    obtain ⟨A, c, e, h3, h4, _⟩ := h1.form
    rw [h2.len] at e h3
    simp only [maxLen] at h4
    exact ⟨A, c, e, h3, by omega⟩
end Go.Proofs.YtmbpjgjajedonaaGreatDoor
namespace Go.Proofs.YtmbpjgjajedonaaGreatDoor
set_option linter.all false
set_option maxRecDepth 4000
open Go.RowKit

structure St6 where
  what : Int
  n : Int
  body : B8
  bodies : List B8
  loss : Ls
structure St6.Ok (s : St6) : Prop where
  n : s.n <= 9223372036854775807
  b : s.body.length <= 9223372036854775807
  bs : ∀ b ∈ s.bodies, b.length <= 9223372036854775807
  l : s.loss.keep < 18446744073709551616 /\ inR .i64 s.loss.pos
theorem layT_len2 (ss : List B8) {D : Dk} (a : Nat) (h : D.lasts.length <= 8192) : (trR (layT D a ss)).length <= 8192 := by rw [trR, List.length_map]; exact layT_len ss a h
theorem resetT_len {D : Dk} (J : Jn) (bs : List B8) (h : D.lasts.length <= 8192) : (trR (resetT D J bs)).length <= 8192 := by
  unfold resetT
  split
  . exact Nat.zero_le _
  . split
    . exact Nat.zero_le _
    . split
      . exact Nat.zero_le _
      . split
        . exact layT_len2 _ _ h
        . exact layT_len2 _ _ (by rw [(layJ_shp _ D _).2]; exact h)
theorem crashT_len {D : Dk} (l : Ls) (h : D.lasts.length <= 8192) : (trR (crashT D l)).length <= 8192 := by
  unfold crashT
  split
  . exact Nat.zero_le _
  . rw [trR, List.length_map]
    have := loseTo_len D l D.lasts.length
    unfold loseT
    omega
structure PS where
  o : Option (Nat × Nat × Jn)
  tv : Value
  lim : Bool
  most : Int
  T : List (List Value)
  D : Dk
structure PI (b : Nat) (x : PS) : Prop where
  ok : x.D.Ok
  wk : x.D.Wk
  lim : 0 <= x.D.limit
  lr : LimR x.lim x.most x.D
  t : x.T.length <= b
  j : ∀ g q J, x.o = some (g, q, J) -> JI x.D J
end Go.Proofs.YtmbpjgjajedonaaGreatDoor
namespace Go.Proofs.YtmbpjgjajedonaaGreatDoor
set_option linter.all false
set_option maxRecDepth 4000
open Go.ChangeShapes Go.WideShapes Go.RowKit

theorem rows6 {α : Type} {f : α -> List Value} : ∀ (l : List α) (rows : List (List Value)), l.length = rows.length -> (∀ (i : Nat) b, l[i]? = some b -> ∃ r, rows[i]? = some r /\ r = f b) -> rows = l.map f
  | [], [], _, _ => rfl
  | [], _ :: _, h, _ => by simp at h
  | _ :: _, [], h, _ => by simp at h
  | b :: l, r :: rows, h, hr => by
    obtain ⟨r0, h0, h1⟩ := hr 0 b rfl
    simp only [List.getElem?_cons_zero, Option.some.injEq] at h0
    have ih := rows6 l rows (by simpa using h) (fun i b' hb => by simpa using hr (i + 1) b' (by simpa using hb))
    rw [h0, h1, ih]; rfl
theorem cellsStr6 : Tryz.prog.cellsOf 9 = 1 := by kernel_rfl
theorem cellsInt6 : Tryz.prog.cellsOf 3 = 1 := by kernel_rfl
theorem cellsU646 : Tryz.prog.cellsOf 30 = 1 := by kernel_rfl
theorem cellsLoss6 : Tryz.prog.cellsOf 32 = 3 := by kernel_rfl
theorem cellsCut6 : Tryz.prog.cellsOf 34 = 4 := by kernel_rfl
section
variable {H : Type} {enc : TypeId × Value -> H} {W : World}
theorem int6_open {n t : Nat} {k : IntKind} {cs : List Value} {x : DataW H × List MemPlace} (hu : Tryz.prog.underlying t = some (.int k)) (h : DataW.trod enc Tryz.prog W 0 (fun _ => true) true n t cs = some x) : ∃ s : Int, cs = [.int k s] /\ inR k s /\ 1 <= Rows.uptoBulk x.1 := by
  obtain ⟨s, hs, hx, hw⟩ := DataW.trod_int hu h
  subst hs
  exact ⟨_, rfl, inR_of_wf hw, by rw [hx]; simp only [Rows.uptoBulk]; omega⟩
theorem strB6_open {n t : Nat} {cs : List Value} {x : DataW H × List MemPlace} (hu : Tryz.prog.underlying t = some .string) (h : DataW.trod enc Tryz.prog W 0 (fun _ => true) true n t cs = some x) : ∃ s : List UInt8, cs = [str s] /\ s.length <= 9223372036854775807 /\ 1 <= Rows.uptoBulk x.1 := by
  obtain ⟨s, hs, hx, hw⟩ := DataW.trod_string hu h
  subst hs
  rw [string_eq]
  have h9 : s.data.toList.length <= maxLen := hw
  simp only [maxLen] at h9
  exact ⟨_, rfl, by omega, by rw [hx]; simp only [Rows.uptoBulk]; omega⟩
theorem strs6_open {fuel : Nat} {v : Value} {x : DataW H × List MemPlace} (h : DataW.trod enc Tryz.prog W 0 (fun _ => true) true fuel 22 [v] = some x) : ∃ L : List (List UInt8), HSl (heapOf W) v 1 (strsR L) /\ ∀ b ∈ L, b.length <= 9223372036854775807 := by
  obtain ⟨l, rows, h1, h2, h3, h4⟩ := sl_open (R := fun (a : List UInt8) r => r = [str a] /\ a.length <= 9223372036854775807) (m := fun _ => 1) (c := 1) Tryz.underlying22 cellsStr6 (by decide) (fun n' _ cs x hh => by
    obtain ⟨s, hs, hl, hb⟩ := strB6_open Tryz.underlying9 hh
    exact ⟨s, ⟨hs, hl⟩, by omega⟩) h
  rw [rows6 (f := fun a => [str a]) l rows h2 (fun i b hb => by obtain ⟨r, e, q, _⟩ := h3 i b hb; exact ⟨r, e, q⟩)] at h1
  refine ⟨l, h1, fun b hm => ?_⟩
  obtain ⟨i, hi⟩ := List.getElem?_of_mem hm
  obtain ⟨_, _, _, q⟩ := h3 i b hi
  exact q
set_option maxRecDepth 20000 in
theorem loss_open {fuel : Nat} {cs : List Value} {x : DataW H × List MemPlace} (h : DataW.trod enc Tryz.prog W 0 (fun _ => true) true fuel 32 cs = some x) : ∃ l : Ls, cs = [.int .u64 l.keep, .int .i64 l.torn, .int .i64 l.pos] /\ l.keep < 18446744073709551616 /\ inR .i64 l.pos := by
  obtain ⟨xs, n, hn, hx, hl, hlen, hfl⟩ := DataW.trod_struct Tryz.underlying32 h
  rw [cellsLoss6] at hl
  match cs, hl, xs, hlen with
  | [c0, c1, c2], _, [y0, y1, y2], _ =>
    have e0 : DataW.trod enc Tryz.prog W 0 (fun _ => true) true n 30 ((List.drop 0 [c0, c1, c2]).take (Tryz.prog.cellsOf 30)) = some y0 := hfl 0 _ rfl
    have e1 : DataW.trod enc Tryz.prog W 0 (fun _ => true) true n 3 ((List.drop 1 [c0, c1, c2]).take (Tryz.prog.cellsOf 3)) = some y1 := hfl 1 _ rfl
    have e2 : DataW.trod enc Tryz.prog W 0 (fun _ => true) true n 3 ((List.drop 2 [c0, c1, c2]).take (Tryz.prog.cellsOf 3)) = some y2 := hfl 2 _ rfl
    rw [cellsU646] at e0
    rw [cellsInt6] at e1 e2
    obtain ⟨k0, hs0, hr0, _⟩ := int6_open Tryz.underlying30 e0
    obtain ⟨k1, hs1, hr1, _⟩ := int6_open Tryz.underlying3 e1
    obtain ⟨k2, hs2, hr2, _⟩ := int6_open Tryz.underlying3 e2
    simp only [List.drop_zero, List.take_succ_cons, List.take_zero, List.drop_succ_cons, List.cons.injEq, and_true] at hs0 hs1 hs2
    subst hs0 hs1 hs2
    have hk : 0 <= k0 /\ k0 < 18446744073709551616 := by simp only [inR] at hr0; omega
    exact ⟨⟨k0.toNat, k1, k2⟩, by simp only [Int.toNat_of_nonneg hk.1], by simp only; omega, hr2⟩
end
end Go.Proofs.YtmbpjgjajedonaaGreatDoor
