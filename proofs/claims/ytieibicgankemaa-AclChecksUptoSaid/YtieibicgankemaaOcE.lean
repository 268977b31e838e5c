/- octet.Prep, castellanref01.Prep: small letters, and no blank too many. -/
import Derived.Test.YtieibicgankemaaOcA
import Derived.Test.YtieibicgankemaaLtT
namespace Go.Proofs.Ytieibicgankemaa
set_option linter.all false
set_option maxRecDepth 4000
open Go.RowKit

/-- What is written so far, and whether a blank waits. -/
def prS (x : List UInt8 × Bool) (c : UInt8) : List UInt8 × Bool := if c.toNat = 32 then (x.1, !x.1.isEmpty) else (x.1 ++ (if x.2 then [32] else []) ++ [c], false)
def prF (t : List UInt8) : List UInt8 × Bool := t.foldl prS ([], false)
def prepM (s : List UInt8) : List UInt8 := (prF (foldM s)).1
def prB (x : List UInt8 × Bool) : List UInt8 := x.1 ++ (if x.2 then [32] else [])
theorem prF_snoc {t : List UInt8} {i : Nat} (h : i < t.length) : prF (t.take (i + 1)) = prS (prF (t.take i)) (t[i]'h) := by
  unfold prF; rw [List.take_succ_eq_append_getElem h, List.foldl_append]; rfl
structure PrOk (x : List UInt8 × Bool) : Prop where
  wait : x.2 = true → x.1 ≠ []
  last : ∀ e, x.1.getLast? = some e → e.toNat ≠ 32
theorem prS_ok {x : List UInt8 × Bool} (h : PrOk x) (c : UInt8) : PrOk (prS x c) := by
  unfold prS
  split
  · exact ⟨fun e => by simpa using e, h.last⟩
  · rename_i hc
    refine ⟨fun e => Bool.noConfusion e, fun e he => ?_⟩
    rw [List.getLast?_append] at he
    simp at he
    subst he
    exact hc
theorem prF_ok (t : List UInt8) : PrOk (prF t) := by
  unfold prF
  have : ∀ (l : List UInt8) (x : List UInt8 × Bool), PrOk x → PrOk (l.foldl prS x) := by
    intro l
    induction l with
    | nil => exact fun x h => h
    | cons c l ih => exact fun x h => ih _ (prS_ok h c)
  refine this t _ ⟨fun e => Bool.noConfusion e, fun e he => ?_⟩
  simp at he
theorem bytesR_take (l : List UInt8) (n : Nat) : (bytesR l).take n = bytesR (l.take n) := by simp [bytesR, List.map_take]
theorem byteAt_last {B : List UInt8} {e : UInt8} (h : B.getLast? = some e) : byteAt B (B.length - 1) = e.toNat := by
  unfold byteAt
  rw [← List.getLast?_eq_getElem?, h]; rfl
theorem prB_len0 {x : List UInt8 × Bool} (h : PrOk x) : (prB x).length = 0 ↔ x.1 = [] := by
  obtain ⟨e, p⟩ := x
  cases p with
  | false => simp [prB]
  | true => have := h.wait rfl; simp [prB]; exact this
theorem prB_last {x : List UInt8 × Bool} (h : PrOk x) (hl : 1 ≤ (prB x).length) : byteAt (prB x) ((prB x).length - 1) = 32 ↔ x.2 = true := by
  obtain ⟨e, p⟩ := x
  cases p with
  | true => rw [byteAt_last (e := 32) (by simp [prB])]; simp
  | false =>
    simp only [prB, Bool.false_eq_true, if_false, List.append_nil] at hl ⊢
    cases hg : e.getLast? with
    | none => rw [List.getLast?_eq_none_iff] at hg; subst hg; simp at hl
    | some c => rw [byteAt_last hg]; have := h.last c hg; simp [this]
theorem prep_skip {t : List UInt8} {i : Nat} (h : i < t.length) (hc : byteAt t i = 32) (hb : (prB (prF (t.take i))).length = 0 ∨ byteAt (prB (prF (t.take i))) ((prB (prF (t.take i))).length - 1) = 32) : prB (prF (t.take (i + 1))) = prB (prF (t.take i)) := by
  have ok := prF_ok (t.take i)
  rw [byteAt_eq h] at hc
  rw [prF_snoc h, prS, if_pos hc]
  generalize prF (t.take i) = x at *
  by_cases h0 : (prB x).length = 0
  · have h1 := (prB_len0 ok).1 h0
    have h2 : x.2 = false := by cases hx : x.2 with
      | false => rfl
      | true => exact absurd h1 (ok.wait hx)
    simp [prB, h1, h2]
  · have h1 := (prB_last ok (by omega)).1 (hb.resolve_left h0)
    have h2 : x.1 ≠ [] := ok.wait h1
    simp [prB, h1, h2]
theorem prep_add {t : List UInt8} {i : Nat} (h : i < t.length) (hb : byteAt t i = 32 → (prB (prF (t.take i))).length ≠ 0 ∧ byteAt (prB (prF (t.take i))) ((prB (prF (t.take i))).length - 1) ≠ 32) : prB (prF (t.take (i + 1))) = prB (prF (t.take i)) ++ [t[i]'h] := by
  have ok := prF_ok (t.take i)
  rw [byteAt_eq h] at hb
  rw [prF_snoc h, prS]
  generalize prF (t.take i) = x at *
  split
  · rename_i hc
    obtain ⟨h1, h2⟩ := hb hc
    have h3 : x.2 = false := by cases hx : x.2 with
      | false => rfl
      | true => exact absurd ((prB_last ok (by omega)).2 hx) h2
    have h4 : x.1 ≠ [] := fun e => h1 ((prB_len0 ok).2 e)
    have e32 : t[i] = 32 := UInt8.toNat_inj.1 (by rw [hc]; rfl)
    simp [prB, h3, h4, e32]
  · simp [prB]
theorem prep_end (t : List UInt8) : (1 ≤ (prB (prF t)).length → byteAt (prB (prF t)) ((prB (prF t)).length - 1) = 32 → (prB (prF t)).take ((prB (prF t)).length - 1) = (prF t).1) ∧
    (¬ (1 ≤ (prB (prF t)).length ∧ byteAt (prB (prF t)) ((prB (prF t)).length - 1) = 32) → prB (prF t) = (prF t).1) := by
  have ok := prF_ok t
  generalize prF t = x at *
  constructor
  · intro h1 h2
    have := (prB_last ok h1).1 h2
    obtain ⟨e, p⟩ := x
    simp only at this
    subst this
    simp [prB]
  · intro h1
    obtain ⟨e, p⟩ := x
    cases p with
    | false => simp [prB]
    | true =>
      exfalso
      have h2 : 1 ≤ (prB (e, true)).length := by simp [prB]
      exact h1 ⟨h2, (prB_last ok h2).2 rfl⟩
theorem prS_len (x : List UInt8 × Bool) (c : UInt8) : (prB (prS x c)).length ≤ (prB x).length + 1 := by
  unfold prS prB
  split
  · simp only [List.length_append]; split <;> split <;> simp <;> omega
  · simp only [List.length_append, List.length_cons, List.length_nil, Bool.false_eq_true, if_false]; omega
theorem prF_len (t : List UInt8) : (prB (prF t)).length ≤ t.length := by
  have : ∀ (l : List UInt8) (x : List UInt8 × Bool), (prB (l.foldl prS x)).length ≤ (prB x).length + l.length := by
    intro l
    induction l with
    | nil => exact fun x => Nat.le_refl _
    | cons c l ih => intro x; have h1 := ih (prS x c); have h2 := prS_len x c; simp only [List.foldl_cons, List.length_cons]; omega
  have h1 := this t ([], false)
  unfold prF
  have h0 : (prB ([], false)).length = 0 := rfl
  omega
theorem callPrep : Callable Try.prog 49 := ⟨_, Try.func49, by kernel_rfl, rfl⟩
set_option maxRecDepth 8000 in
theorem octet_Prep (s : List UInt8) (hs : s.length ≤ 100000000) (h : Heap) : Spec Try.prog 49 [str s] h [] (fun u _ H' => u = str (prepM s) ∧ H' = []) := by
  have hfl := foldM_len s
  unfold prepM
  refine Spec.enter Try.func49 rfl rfl ?_; intro w0
  generalize hT : foldM s = T at *
  repeat' (first | (show G _ (.ops .seq _ (⟨some _, .call { callee := .value (.func 27), args := _, argTypes := _ }, _, _, _, none⟩ :: _) :: _) _ _ _; refine G.call callFold rfl rfl (octet_Fold s hs _) (by solve | (repeat (first | apply Takes.nil | apply Take.hd | apply Take.tl | apply Takes.cons))) ?_; rintro _ h2 H2 ⟨rfl, rfl⟩ hle2; rw [hT]) | (refine G.atCode ?_; refine G.stopLoop ?_) | (refine G.atCode ?_; first | refine G.seq ?_ | refine G.region ?_ | refine G.block ?_) | refine G.endOps ?_ | refine G.op rfl rfl ?_ | (refine G.atLen ?_; first | refine G.lenRowB rfl (tyy rfl) (by solve | (repeat (first | apply Take.hd | apply Take.tl))) rfl ?_) | (refine G.atConv ?_; first | (refine G.convBytes rfl (tyy rfl) (tyy rfl) (tyy rfl) rfl (by first | omega | (simp only [lens] at *; omega)) ?_; intro _)))
  rename_i v
  refine G.nilRowB 5 ?_
  refine G.go ?_
  refine G.loop (σ := Nat × Value) (fun x => [(10, .int .i64 x.1), (9, .int .i64 T.length), (8, v), (3, x.2)])
    (fun x => [.row v 5 1 (bytesR T), .row x.2 5 1 (bytesR (prB (prF (T.take x.1))))])
    (fun x _ => x.1 ≤ T.length) (fun x => T.length - x.1) ⟨0, .slice none 0 0⟩ ⟨rfl, rfl, rfl, rfl, trivial⟩ (by solve | (apply Takes.sub; (repeat (first | apply Takes.nil | apply Take.hd | apply Take.tl | apply Takes.cons)))) (Nat.zero_le _) ?_
  rintro ⟨i, v2⟩ h1 hle1 hi
  simp only at hi
  refine G.norm (by (try dsimp only) <;> exact rfl) (by (try dsimp only) <;> exact rfl) ?_
  have hpl := prF_len (T.take i)
  have hml : (T.take i).length ≤ i := by rw [List.length_take]; omega
  by_cases hlt : i < T.length
  · have hsk := prep_skip hlt
    have had := prep_add hlt
    have hof := ofNat_byteAt hlt
    generalize prB (prF (T.take i)) = B at *
    have hL : ((B.length : Int) - 1).toNat = B.length - 1 := by omega
    repeat' (first | (refine G.atIdx ?_; refine G.idxRow' rfl rfl (tyy rfl) (tyy rfl) (by solve | (repeat (first | apply Take.hd | apply Take.tl))) (by first | (simp only [Int.reduceToNat]; rfl) | with_reducible apply Int.toNat_natCast | exact Eq.refl _) rfl (by rw [bytesR_length]; omega) ?_; intro _ _) | (refine G.atCode ?_; first | refine G.seq ?_ | refine G.region ?_ | refine G.block ?_ | refine G.skip ?_ | refine G.exit rfl ?_ | (refine G.cond rfl ?_ ?_ <;> intro hc <;> (try simp only [tests, reduceCtorEq] at hc) <;> (try (exfalso; first | omega | exact absurd hc (by with_reducible assumption) | exact absurd (by with_reducible assumption) hc | exact Bool.noConfusion hc | exact hc | exact hc trivial | fail)))) | refine G.endOps ?_ | refine G.endBlk ?_ | (refine G.atGd ?_; first | refine G.guardYes rfl rfl ?_ | refine G.guardNoS rfl rfl rfl ?_ | refine G.guardU rfl rfl rfl ?_ | (refine G.guardS rfl rfl rfl ?_ ?_ <;> intro hc <;> (try simp only [tests, reduceCtorEq] at hc) <;> (try (exfalso; first | omega | exact absurd hc (by with_reducible assumption) | exact absurd (by with_reducible assumption) hc | exact Bool.noConfusion hc | exact hc | exact hc trivial | fail)))) | (refine G.atBin ?_; first | (refine G.atAdd ?_; first | refine G.arith rfl rfl rfl rfl rfl (by simp only [inR]; omega) ?_) | (refine G.atSub ?_; first | refine G.arith rfl rfl rfl rfl rfl (by simp only [inR]; omega) ?_) | (refine G.atEql ?_; first | refine G.op rfl rfl ?_) | refine G.op rfl rfl ?_) | refine G.op rfl rfl ?_ | (refine G.atLen ?_; first | refine G.lenRowB rfl (tyy rfl) (by solve | (repeat (first | apply Take.hd | apply Take.tl))) rfl ?_) | (refine G.atLoad ?_; first | (refine G.loadRowB rfl (tyy rfl) (by assumption) (by solve | (repeat (first | apply Take.hd | apply Take.tl))) (by first | omega | (simp only [lens] at *; omega)) rfl ?_; intro _)) | (refine G.atBsl ?_; refine G.buildSlice (tyy rfl) (tyy rfl) rfl rfl rfl rfl ?_; intro _) | (refine G.atApp ?_; first | (refine G.append1B rfl rfl (tyy rfl) (tyy rfl) rfl rfl (by solve | (repeat (first | apply Take.hd | apply Take.tl))) (by solve | (repeat (first | apply Take.hd | apply Take.tl))) rfl (by first | omega | (simp only [lens] at *; omega)) (by first | omega | (simp only [lens] at *; omega)) ?_; intro _)))
    all_goals (try rw [hL] at *)
    all_goals first
      | (have e := hsk (by omega) (by omega)
         exact G.again ⟨i + 1, _⟩ ⟨sint (by simp), rfl, rfl, rfl, trivial⟩ (by rw [e]; exact (by solve | (apply Takes.sub; (repeat (first | apply Takes.nil | apply Take.hd | apply Take.tl | apply Takes.cons))))) (by simp only; omega) (Heap.le_refl _) (by simp only; omega))
      | (have e := had (by omega)
         rw [Int.toNat_natCast, hof, ← e]
         exact G.again ⟨i + 1, _⟩ ⟨sint (by simp), rfl, rfl, rfl, trivial⟩ (by solve | (apply Takes.sub; (repeat (first | apply Takes.nil | apply Take.hd | apply Take.tl | apply Takes.cons)))) (by simp only; omega) (Heap.le_refl _) (by simp only; omega))
  · obtain rfl : i = T.length := by omega
    obtain ⟨he1, he2⟩ := prep_end T
    rw [List.take_length] at hpl ⊢
    generalize prB (prF T) = B at *
    have hL : ((B.length : Int) - 1).toNat = B.length - 1 := by omega
    repeat' (first | (refine G.atIdx ?_; refine G.idxRow' rfl rfl (tyy rfl) (tyy rfl) (by solve | (repeat (first | apply Take.hd | apply Take.tl))) (by first | (simp only [Int.reduceToNat]; rfl) | with_reducible apply Int.toNat_natCast | exact Eq.refl _) rfl (by rw [bytesR_length]; omega) ?_; intro _ _) | (refine G.cutRow rfl rfl (tyy rfl) (tyy rfl) (by solve | (repeat (first | apply Take.hd | apply Take.tl))) rfl (by rw [bytesR_length]; omega) rfl ?_; intro _; (try rw [hL] at *); rw [bytesR_take, he1 (by omega) (by omega)]) | (refine G.atCode ?_; first | refine G.seq ?_ | refine G.region ?_ | refine G.skip ?_ | refine G.exit rfl ?_ | refine G.ret ?_ | (refine G.cond rfl ?_ ?_ <;> intro hc <;> (try simp only [tests, reduceCtorEq] at hc) <;> (try (exfalso; first | omega | exact absurd hc (by with_reducible assumption) | exact absurd (by with_reducible assumption) hc | exact Bool.noConfusion hc | exact hc | exact hc trivial | fail)))) | refine G.endOps ?_ | (refine G.atGd ?_; first | refine G.guardYes rfl rfl ?_ | refine G.guardNoS rfl rfl rfl ?_ | (refine G.guardS rfl rfl rfl ?_ ?_ <;> intro hc <;> (try simp only [tests, reduceCtorEq] at hc) <;> (try (exfalso; first | omega | exact absurd hc (by with_reducible assumption) | exact absurd (by with_reducible assumption) hc | exact Bool.noConfusion hc | exact hc | exact hc trivial | fail)))) | (refine G.atBin ?_; first | (refine G.atSub ?_; first | refine G.arith rfl rfl rfl rfl rfl (by simp only [inR]; omega) ?_) | (refine G.atEql ?_; first | refine G.op rfl rfl ?_) | refine G.op rfl rfl ?_) | refine G.op rfl rfl ?_ | (refine G.atLen ?_; first | refine G.lenRowB rfl (tyy rfl) (by solve | (repeat (first | apply Take.hd | apply Take.tl))) rfl ?_) | (refine G.atLoad ?_; first | (refine G.loadRowB rfl (tyy rfl) (by assumption) (by solve | (repeat (first | apply Take.hd | apply Take.tl))) (by first | omega | (simp only [lens] at *; omega)) rfl ?_; intro _)) | (refine G.atConv ?_; first | refine G.convStr rfl (tyy rfl) (tyy rfl) (tyy rfl) (by solve | (repeat (first | apply Take.hd | apply Take.tl))) rfl ?_))
    all_goals (try rw [hL] at *)
    all_goals first
      | exact G.done1 rfl rfl _ (SubH.nil _) ⟨rfl, rfl⟩
      | (rw [he2 (by omega)]; exact G.done1 rfl rfl _ (SubH.nil _) ⟨rfl, rfl⟩)
end Go.Proofs.Ytieibicgankemaa
