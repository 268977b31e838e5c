/- octet.Prep, castellanref01.Prep: small letters, and no blank too many. -/
import Derived.Test.YtahpemfnhepgoaaOcA
import Derived.Test.YtahpemfnhepgoaaLtT
namespace Go.Proofs.Ytahpemfnhepgoaa
set_option linter.all false
set_option maxRecDepth 4000
open Go.RowKit

def prS (x : List UInt8 × Bool) (c : UInt8) : List UInt8 × Bool := if c.toNat = 32 then (x.1, !x.1.isEmpty) else (x.1 ++ (if x.2 then [32] else []) ++ [c], false)
def prF (t : List UInt8) : List UInt8 × Bool := t.foldl prS ([], false)
def prepM (s : List UInt8) : List UInt8 := (prF (foldM s)).1
def prB (x : List UInt8 × Bool) : List UInt8 := x.1 ++ (if x.2 then [32] else [])
theorem prF_snoc {t : List UInt8} {i : Nat} (h : i < t.length) : prF (t.take (i + 1)) = prS (prF (t.take i)) (t[i]'h) := by
  unfold prF; rw [List.take_succ_eq_append_getElem h, List.foldl_append]; rfl
structure PrOk (x : List UInt8 × Bool) : Prop where
  wait : x.2 = true -> x.1 ≠ []
  last : ∀ e, x.1.getLast? = some e -> e.toNat ≠ 32
theorem prS_ok {x : List UInt8 × Bool} (h : PrOk x) (c : UInt8) : PrOk (prS x c) := by
  unfold prS
  split
  . exact ⟨fun e => by simpa using e, h.last⟩
  . rename_i hc
    refine ⟨fun e => Bool.noConfusion e, fun e he => ?_⟩
    rw [List.getLast?_append] at he
    simp at he
    subst he
    exact hc
theorem prF_ok (t : List UInt8) : PrOk (prF t) := by
  unfold prF
  have : ∀ (l : List UInt8) (x : List UInt8 × Bool), PrOk x -> PrOk (l.foldl prS x) := by
    intro l
    induction l with
    | nil => exact fun x h => h
    | cons c l ih => exact fun x h => ih _ (prS_ok h c)
  refine this t _ ⟨fun e => Bool.noConfusion e, fun e he => ?_⟩
  simp at he
theorem bytesR_take (l : List UInt8) (n : Nat) : (bytesR l).take n = bytesR (l.take n) := by simp [bytesR, List.map_take]
theorem byteAt_last {B : List UInt8} {e : UInt8} (h : B.getLast? = some e) : byteAt B (B.length - 1) = e.toNat := by
  unfold byteAt
  rw [<- List.getLast?_eq_getElem?, h]; rfl
theorem prB_len0 {x : List UInt8 × Bool} (h : PrOk x) : (prB x).length = 0 ↔ x.1 = [] := by
  obtain ⟨e, p⟩ := x
  cases p with
  | false => simp [prB]
  | true => have := h.wait rfl; simp [prB]; exact this
theorem prB_last {x : List UInt8 × Bool} (h : PrOk x) (hl : 1 <= (prB x).length) : byteAt (prB x) ((prB x).length - 1) = 32 ↔ x.2 = true := by
  obtain ⟨e, p⟩ := x
  cases p with
  | true => rw [byteAt_last (e := 32) (by simp [prB])]; simp
  | false =>
    simp only [prB, Bool.false_eq_true, if_false, List.append_nil] at hl ⊢
    cases hg : e.getLast? with
    | none => rw [List.getLast?_eq_none_iff] at hg; subst hg; simp at hl
    | some c => rw [byteAt_last hg]; have := h.last c hg; simp [this]
theorem prep_skip {t : List UInt8} {i : Nat} (h : i < t.length) (hc : byteAt t i = 32) (hb : (prB (prF (t.take i))).length = 0 \/ byteAt (prB (prF (t.take i))) ((prB (prF (t.take i))).length - 1) = 32) : prB (prF (t.take (i + 1))) = prB (prF (t.take i)) := by
  have ok := prF_ok (t.take i)
  rw [byteAt_eq h] at hc
  rw [prF_snoc h, prS, if_pos hc]
  generalize prF (t.take i) = x at *
  by_cases h0 : (prB x).length = 0
  . have h1 := (prB_len0 ok).1 h0
    have h2 : x.2 = false := by cases hx : x.2 with
      | false => rfl
      | true => exact absurd h1 (ok.wait hx)
    simp [prB, h1, h2]
  . have h1 := (prB_last ok (by omega)).1 (hb.resolve_left h0)
    have h2 : x.1 ≠ [] := ok.wait h1
    simp [prB, h1, h2]
theorem prep_add {t : List UInt8} {i : Nat} (h : i < t.length) (hb : byteAt t i = 32 -> (prB (prF (t.take i))).length ≠ 0 /\ byteAt (prB (prF (t.take i))) ((prB (prF (t.take i))).length - 1) ≠ 32) : prB (prF (t.take (i + 1))) = prB (prF (t.take i)) ++ [t[i]'h] := by
  have ok := prF_ok (t.take i)
  rw [byteAt_eq h] at hb
  rw [prF_snoc h, prS]
  generalize prF (t.take i) = x at *
  split
  . rename_i hc
    obtain ⟨h1, h2⟩ := hb hc
    have h3 : x.2 = false := by cases hx : x.2 with
      | false => rfl
      | true => exact absurd ((prB_last ok (by omega)).2 hx) h2
    have h4 : x.1 ≠ [] := fun e => h1 ((prB_len0 ok).2 e)
    have e32 : t[i] = 32 := UInt8.toNat_inj.1 (by rw [hc]; rfl)
    simp [prB, h3, h4, e32]
  . simp [prB]
theorem prep_end (t : List UInt8) : (1 <= (prB (prF t)).length -> byteAt (prB (prF t)) ((prB (prF t)).length - 1) = 32 -> (prB (prF t)).take ((prB (prF t)).length - 1) = (prF t).1) ∧
    (¬ (1 <= (prB (prF t)).length /\ byteAt (prB (prF t)) ((prB (prF t)).length - 1) = 32) -> prB (prF t) = (prF t).1) := by
  have ok := prF_ok t
  generalize prF t = x at *
  constructor
  . intro h1 h2
    have := (prB_last ok h1).1 h2
    obtain ⟨e, p⟩ := x
    simp only at this
    subst this
    simp [prB]
  . intro h1
    obtain ⟨e, p⟩ := x
    cases p with
    | false => simp [prB]
    | true =>
      exfalso
      have h2 : 1 <= (prB (e, true)).length := by simp [prB]
      exact h1 ⟨h2, (prB_last ok h2).2 rfl⟩
theorem prS_len (x : List UInt8 × Bool) (c : UInt8) : (prB (prS x c)).length <= (prB x).length + 1 := by
  unfold prS prB
  split
  . simp only [List.length_append]; split <;> split <;> simp <;> omega
  . simp only [List.length_append, List.length_cons, List.length_nil, Bool.false_eq_true, if_false]; omega
theorem prF_len (t : List UInt8) : (prB (prF t)).length <= t.length := by
  have : ∀ (l : List UInt8) (x : List UInt8 × Bool), (prB (l.foldl prS x)).length <= (prB x).length + l.length := by
    intro l
    induction l with
    | nil => exact fun x => Nat.le_refl _
    | cons c l ih => intro x; have h1 := ih (prS x c); have h2 := prS_len x c; simp only [List.foldl_cons, List.length_cons]; omega
  have h1 := this t ([], false)
  unfold prF
  have h0 : (prB ([], false)).length = 0 := rfl
  omega
theorem callPrep : Callable Try.prog 45 := ⟨_, Try.func45, by kernel_rfl, rfl⟩
theorem callRPrep : Callable Try.prog 50 := ⟨_, Try.func50, by kernel_rfl, rfl⟩
set_option maxRecDepth 8000 in
theorem octet_Prep (s : List UInt8) (hs : s.length <= 100000000) (h : Heap) : Spec Try.prog 45 [str s] h [] (fun u _ H' => u = str (prepM s) /\ H' = []) := by
  have hfl := foldM_len s
  unfold prepM
  refine Spec.enter Try.func45 rfl rfl ?_; intro w0
  generalize hT : foldM s = T at *
  repeat' (first | (show G _ (.ops .seq _ (⟨some _, .call { callee := .value (.func 41), args := _, argTypes := _ }, _, _, _, none⟩ :: _) :: _) _ _ _; refine G.call callFold rfl rfl (octet_Fold s hs _) Ze ?_; rintro _ h2 H2 ⟨rfl, rfl⟩ hle2; rw [hT]) | (refine G.atCode ?_; refine G.stopLoop ?_) | (refine G.atCode ?_; first | refine G.seq ?_ | refine G.region ?_ | refine G.block ?_) | refine G.endOps ?_ | refine G.op rfl rfl ?_ | (refine G.atLen ?_; first | refine G.lenRowB rfl (tyy rfl) Za rfl ?_) | (refine G.atConv ?_; first | (refine G.convBytes rfl (tyy rfl) (tyy rfl) (tyy rfl) rfl Zo ?_; intro _)))
  rename_i v
  refine G.nilRowB 5 ?_
  refine G.go ?_
  refine G.loop (σ := Nat × Value) (fun x => [(10, .int .i64 x.1), (9, .int .i64 T.length), (8, v), (3, x.2)])
    (fun x => [.row v 5 1 (bytesR T), .row x.2 5 1 (bytesR (prB (prF (T.take x.1))))])
    (fun x _ => x.1 <= T.length) (fun x => T.length - x.1) ⟨0, .slice none 0 0⟩ ⟨rfl, rfl, rfl, rfl, trivial⟩ Zu (Nat.zero_le _) ?_
  rintro ⟨i, v2⟩ h1 hle1 hi
  simp only at hi
  refine G.norm (by (try dsimp only) <;> exact rfl) (by (try dsimp only) <;> exact rfl) ?_
  have hpl := prF_len (T.take i)
  have hml : (T.take i).length <= i := by rw [List.length_take]; omega
  by_cases hlt : i < T.length
  . have hsk := prep_skip hlt
    have had := prep_add hlt
    have hof := ofNat_byteAt hlt
    generalize prB (prF (T.take i)) = B at *
    have hL : ((B.length : Int) - 1).toNat = B.length - 1 := by omega
    repeat' (first | (refine G.atIdx ?_; refine G.idxRow' rfl rfl (tyy rfl) (tyy rfl) Za Zj rfl (by rw [bytesR_length]; omega) ?_; intro _ _) | (refine G.atCode ?_; first | refine G.seq ?_ | refine G.region ?_ | refine G.block ?_ | refine G.skip ?_ | refine G.exit rfl ?_ | (refine G.cond rfl ?_ ?_ <;> intro hc <;> (try simp only [tests, reduceCtorEq] at hc) <;> (try exact Zf))) | refine G.endOps ?_ | refine G.endBlk ?_ | (refine G.atGd ?_; first | refine G.guardYes rfl rfl ?_ | refine G.guardNoS rfl rfl rfl ?_ | refine G.guardU rfl rfl rfl ?_ | (refine G.guardS rfl rfl rfl ?_ ?_ <;> intro hc <;> (try simp only [tests, reduceCtorEq] at hc) <;> (try exact Zf))) | (refine G.atBin ?_; first | (refine G.atAdd ?_; first | refine G.arith rfl rfl rfl rfl rfl Zi ?_) | (refine G.atSub ?_; first | refine G.arith rfl rfl rfl rfl rfl Zi ?_) | (refine G.atEql ?_; first | refine G.op rfl rfl ?_) | refine G.op rfl rfl ?_) | refine G.op rfl rfl ?_ | (refine G.atLen ?_; first | refine G.lenRowB rfl (tyy rfl) Za rfl ?_) | (refine G.atLoad ?_; first | (refine G.loadRowB rfl (tyy rfl) Zp Za Zo rfl ?_; intro _)) | (refine G.atBsl ?_; refine G.buildSlice (tyy rfl) (tyy rfl) rfl rfl rfl rfl ?_; intro _) | (refine G.atApp ?_; first | (refine G.append1B rfl rfl (tyy rfl) (tyy rfl) rfl rfl Za Za rfl Zo Zo ?_; intro _)))
    all_goals (try rw [hL] at *)
    all_goals first
      | (have e := hsk (by omega) (by omega)
         exact G.again ⟨i + 1, _⟩ ⟨sint (by simp), rfl, rfl, rfl, trivial⟩ (by rw [e]; exact Zu) (by simp only; omega) (Heap.le_refl _) (by simp only; omega))
      | (have e := had (by omega)
         rw [Int.toNat_natCast, hof, ← e]
         exact G.again ⟨i + 1, _⟩ ⟨sint (by simp), rfl, rfl, rfl, trivial⟩ Zu (by simp only; omega) (Heap.le_refl _) (by simp only; omega))
  . obtain rfl : i = T.length := by omega
    obtain ⟨he1, he2⟩ := prep_end T
    rw [List.take_length] at hpl ⊢
    generalize prB (prF T) = B at *
    have hL : ((B.length : Int) - 1).toNat = B.length - 1 := by omega
    repeat' (first | (refine G.atIdx ?_; refine G.idxRow' rfl rfl (tyy rfl) (tyy rfl) Za Zj rfl (by rw [bytesR_length]; omega) ?_; intro _ _) | (refine G.cutRow rfl rfl (tyy rfl) (tyy rfl) Za rfl (by rw [bytesR_length]; omega) rfl ?_; intro _; (try rw [hL] at *); rw [bytesR_take, he1 (by omega) (by omega)]) | (refine G.atCode ?_; first | refine G.seq ?_ | refine G.region ?_ | refine G.skip ?_ | refine G.exit rfl ?_ | refine G.ret ?_ | (refine G.cond rfl ?_ ?_ <;> intro hc <;> (try simp only [tests, reduceCtorEq] at hc) <;> (try exact Zf))) | refine G.endOps ?_ | (refine G.atGd ?_; first | refine G.guardYes rfl rfl ?_ | refine G.guardNoS rfl rfl rfl ?_ | (refine G.guardS rfl rfl rfl ?_ ?_ <;> intro hc <;> (try simp only [tests, reduceCtorEq] at hc) <;> (try exact Zf))) | (refine G.atBin ?_; first | (refine G.atSub ?_; first | refine G.arith rfl rfl rfl rfl rfl Zi ?_) | (refine G.atEql ?_; first | refine G.op rfl rfl ?_) | refine G.op rfl rfl ?_) | refine G.op rfl rfl ?_ | (refine G.atLen ?_; first | refine G.lenRowB rfl (tyy rfl) Za rfl ?_) | (refine G.atLoad ?_; first | (refine G.loadRowB rfl (tyy rfl) Zp Za Zo rfl ?_; intro _)) | (refine G.atConv ?_; first | refine G.convStr rfl (tyy rfl) (tyy rfl) (tyy rfl) Za rfl ?_))
    all_goals (try rw [hL] at *)
    all_goals first
      | exact G.done1 rfl rfl _ (SubH.nil _) ⟨rfl, rfl⟩
      | (rw [he2 (by omega)]; exact G.done1 rfl rfl _ (SubH.nil _) ⟨rfl, rfl⟩)
def laterM (t : List UInt8) (i : Nat) : Bool := (t.drop i).any fun b => decide (b.toNat ≠ 32)
theorem laterM_step {t : List UInt8} {i : Nat} (h : i < t.length) : laterM t i = (decide (byteAt t i ≠ 32) || laterM t (i + 1)) := by
  unfold laterM; rw [List.drop_eq_getElem_cons h, List.any_cons, byteAt_eq h]
theorem laterM_end (t : List UInt8) : laterM t t.length = false := by simp [laterM]
def rB (t : List UInt8) (i : Nat) : List UInt8 := (prF (t.take i)).1 ++ (if (prF (t.take i)).2 && laterM t i then [32] else [])
theorem rB_len (t : List UInt8) (i : Nat) : (rB t i).length <= i := by
  have h1 := prF_len (t.take i)
  rw [List.length_take] at h1
  unfold prB at h1
  unfold rB
  rw [List.length_append] at h1 ⊢
  have : (if (prF (t.take i)).2 && laterM t i then ([32] : List UInt8) else []).length <= (if (prF (t.take i)).2 then ([32] : List UInt8) else []).length := by
    cases (prF (t.take i)).2 <;> cases laterM t i <;> simp
  omega
theorem prF_prev {t : List UInt8} {i : Nat} (h0 : 1 <= i) (h : i <= t.length) : (byteAt t (i - 1) = 32 -> (prF (t.take i)).2 = !(prF (t.take i)).1.isEmpty) /\ (byteAt t (i - 1) ≠ 32 -> (prF (t.take i)).2 = false /\ (prF (t.take i)).1 ≠ []) := by
  obtain ⟨j, rfl⟩ : ∃ j, i = j + 1 := ⟨i - 1, by omega⟩
  rw [prF_snoc (by omega), Nat.add_sub_cancel, byteAt_eq (by omega)]
  unfold prS
  constructor
  . intro hc; rw [if_pos hc]
  . intro hc; rw [if_neg hc]; simp
theorem rB_skip0 {t : List UInt8} {i : Nat} (h : i < t.length) (hl : laterM t i = false) : rB t (i + 1) = rB t i := by
  have h1 := laterM_step h
  rw [hl] at h1
  have h2 : byteAt t i = 32 := by
    by_cases hb : byteAt t i = 32
    . exact hb
    . rw [decide_eq_true hb] at h1; simp at h1
  have h3 : laterM t (i + 1) = false := by rw [h2] at h1; simpa using h1.symm
  unfold rB
  rw [hl, h3, prF_snoc h, prS, if_pos (by rw [<- byteAt_eq h]; exact h2)]
  simp
theorem rB_skip {t : List UInt8} {i : Nat} (h : i < t.length) (hl : laterM t i = true) (hc : byteAt t i = 32) (hb : (rB t i).length = 0 \/ 1 <= i /\ byteAt t (i - 1) = 32) : rB t (i + 1) = rB t i := by
  have h1 := laterM_step h
  rw [hl, hc] at h1
  have h3 : laterM t (i + 1) = true := by simpa using h1.symm
  have ok := prF_ok (t.take i)
  unfold rB at hb ⊢
  rw [hl, h3, prF_snoc h, prS, if_pos (by rw [<- byteAt_eq h]; exact hc)]
  rw [hl] at hb
  rcases hb with hb | hb
  . have h4 : (prF (t.take i)).1 = [] := by
      rw [List.length_append] at hb
      exact List.eq_nil_of_length_eq_zero (by omega)
    have h5 : (prF (t.take i)).2 = false := by cases hx : (prF (t.take i)).2 with
      | false => rfl
      | true => exact absurd h4 (ok.wait hx)
    simp [h4, h5]
  . have h4 := (prF_prev hb.1 (by omega)).1 hb.2
    simp [h4]
theorem rB_add {t : List UInt8} {i : Nat} (h : i < t.length) (hl : laterM t i = true) (hb : byteAt t i = 32 -> (rB t i).length ≠ 0 /\ byteAt t (i - 1) ≠ 32) : rB t (i + 1) = rB t i ++ [t[i]'h] := by
  have h1 := laterM_step h
  by_cases hc : byteAt t i = 32
  . obtain ⟨h5, h6⟩ := hb hc
    have h0 : 1 <= i := by have := rB_len t i; omega
    obtain ⟨h7, h8⟩ := (prF_prev h0 (by omega)).2 h6
    rw [hl, hc] at h1
    have h3 : laterM t (i + 1) = true := by simpa using h1.symm
    have e32 : t[i] = 32 := UInt8.toNat_inj.1 (by rw [<- byteAt_eq h, hc]; rfl)
    unfold rB
    rw [hl, h3, prF_snoc h, prS, if_pos (by rw [<- byteAt_eq h]; exact hc)]
    simp [h7, h8, e32]
  . unfold rB
    rw [hl, prF_snoc h, prS, if_neg (by rw [<- byteAt_eq h]; exact hc)]
    simp
theorem rB_end (t : List UInt8) : rB t t.length = (prF t).1 := by
  unfold rB; rw [laterM_end, List.take_length]; simp
set_option maxRecDepth 8000 in
theorem ref01_Prep (s : List UInt8) (hs : s.length <= 100000000) (h : Heap) : Spec Try.prog 50 [str s] h [] (fun u _ H' => u = str (prepM s) /\ H' = []) := by
  have hfl := foldM_len s
  unfold prepM
  refine Spec.enter Try.func50 rfl rfl ?_; intro w0
  generalize hT : foldM s = T at *
  repeat' (first | (show G _ (.ops .seq _ (⟨some _, .call { callee := .value (.func 31), args := _, argTypes := _ }, _, _, _, none⟩ :: _) :: _) _ _ _; refine G.call callRFold rfl rfl (ref01_Fold s hs _) Ze ?_; rintro _ h2 H2 ⟨rfl, rfl⟩ hle2; rw [hT]) | (refine G.atCode ?_; refine G.stopLoop ?_) | (refine G.atCode ?_; first | refine G.seq ?_ | refine G.region ?_ | refine G.block ?_) | refine G.endOps ?_ | refine G.op rfl rfl ?_)
  refine G.nilRowB 5 ?_
  refine G.go ?_
  refine G.loop (σ := Nat × Value) (fun x => [(5, .int .i64 x.1), (4, x.2), (3, str T)])
    (fun x => [.row x.2 5 1 (bytesR (rB T x.1))])
    (fun x _ => x.1 <= T.length) (fun x => T.length - x.1) ⟨0, .slice none 0 0⟩ ⟨rfl, rfl, rfl, trivial⟩ Zu (Nat.zero_le _) ?_
  rintro ⟨i, v2⟩ h1 hle1 hi
  simp only at hi
  refine G.norm (by (try dsimp only) <;> exact rfl) (by (try dsimp only) <;> exact rfl) ?_
  have hpl := rB_len T i
  by_cases hlt : i < T.length
  . repeat' (first | (refine G.atCode ?_; refine G.stopLoop ?_) | (refine G.atCode ?_; first | refine G.seq ?_ | refine G.region ?_ | refine G.block ?_ | refine G.skip ?_ | (refine G.cond rfl ?_ ?_ <;> intro hc <;> (try simp only [tests, reduceCtorEq] at hc) <;> (try exact Zf))) | refine G.endOps ?_ | (refine G.atBin ?_; first | refine G.op rfl rfl ?_) | refine G.op rfl rfl ?_ | (refine G.atLen ?_; first | refine G.lenStr rfl (tyy rfl) rfl ?_))
    refine G.go ?_
    refine G.loop (σ := Nat × Bool) (fun x => [(7, .int .i64 x.1), (6, .bool x.2), (5, .int .i64 i), (4, v2), (3, str T)])
      (fun x => [.row v2 5 1 (bytesR (rB T i))])
      (fun x _ => i <= x.1 /\ x.1 <= T.length /\ (x.2 = true -> laterM T i = true) /\ (x.2 = false -> laterM T i = laterM T x.1)) (fun x => T.length - x.1) ⟨i, false⟩ ⟨rfl, rfl, rfl, rfl, rfl, trivial⟩ Zu ⟨Nat.le_refl _, by simp only; omega, fun e => Bool.noConfusion e, fun _ => rfl⟩ ?_
    rintro ⟨q, lat⟩ h3 hle3 ⟨hq1, hq2, hy, hn⟩
    simp only at hq1 hq2 hy hn
    refine G.norm (by (try dsimp only) <;> exact rfl) (by (try dsimp only) <;> exact rfl) ?_
    have hsk0 := rB_skip0 hlt
    have hsk := rB_skip hlt
    have had := rB_add hlt
    have hof := ofNat_byteAt hlt
    generalize hB : rB T i = B at *
    have hI : ((i : Int) - 1).toNat = i - 1 := by omega
    cases lat with
    | true =>
      have hlat := hy rfl
      repeat' (first | (refine G.atCode ?_; first | refine G.seq ?_ | refine G.region ?_ | refine G.skip ?_ | refine G.exit rfl ?_ | (refine G.cond rfl ?_ ?_ <;> intro hc <;> (try simp only [tests, reduceCtorEq] at hc) <;> (try exact Zf))) | refine G.endOps ?_ | refine G.endBlk ?_ | (refine G.atGd ?_; first | refine G.guardYes rfl rfl ?_ | refine G.guardNoS rfl rfl rfl ?_ | refine G.guardU rfl rfl rfl ?_ | (refine G.guardS rfl rfl rfl ?_ ?_ <;> intro hc <;> (try simp only [tests, reduceCtorEq] at hc) <;> (try exact Zf))) | (refine G.atBin ?_; first | (refine G.atAdd ?_; first | refine G.arith rfl rfl rfl rfl rfl Zi ?_) | (refine G.atSub ?_; first | refine G.arith rfl rfl rfl rfl rfl Zi ?_) | (refine G.atEql ?_; first | refine G.op rfl rfl ?_) | refine G.op rfl rfl ?_) | refine G.op rfl rfl ?_ | (refine G.atLen ?_; first | refine G.lenStr rfl (tyy rfl) rfl ?_ | refine G.lenRowB rfl (tyy rfl) Za rfl ?_) | (refine G.atBsl ?_; refine G.buildSlice (tyy rfl) (tyy rfl) rfl rfl rfl rfl ?_; intro _) | (refine G.atApp ?_; first | (refine G.append1B rfl rfl (tyy rfl) (tyy rfl) rfl rfl Za Za rfl Zo Zo ?_; intro _)) | (refine G.atInd ?_; refine G.idxStr rfl rfl (tyy rfl) rfl Zj Zo ?_; intro _))
      all_goals (try rw [hI] at *)
      all_goals first
        | (have e := hsk hlat (by omega) (by omega)
           exact G.again ⟨i + 1, _⟩ ⟨sint (by simp), rfl, rfl, trivial⟩ (by rw [e]; exact Zu) (by simp only; omega) (by solve | repeat first | assumption | exact Zr _ | refine Zq ?_ Zp) (by simp only; omega))
        | (have e := had hlat (by omega)
           rw [Int.toNat_natCast, hof, ← e]
           exact G.again ⟨i + 1, _⟩ ⟨sint (by simp), rfl, rfl, trivial⟩ Zu (by simp only; omega) (by solve | repeat first | assumption | exact Zr _ | refine Zq ?_ Zp) (by simp only; omega))
    | false =>
      have hlat := hn rfl
      by_cases hqt : q < T.length
      . have hstep := laterM_step hqt
        repeat' (first | (refine G.atCode ?_; first | refine G.seq ?_ | refine G.region ?_ | refine G.block ?_ | refine G.skip ?_ | (refine G.cond rfl ?_ ?_ <;> intro hc <;> (try simp only [tests, reduceCtorEq] at hc) <;> (try exact Zf))) | refine G.endOps ?_ | refine G.endBlk ?_ | (refine G.atGd ?_; first | refine G.guardYes rfl rfl ?_ | (refine G.guardS rfl rfl rfl ?_ ?_ <;> intro hc <;> (try simp only [tests, reduceCtorEq] at hc) <;> (try exact Zf))) | (refine G.atBin ?_; first | (refine G.atAdd ?_; first | refine G.arith rfl rfl rfl rfl rfl Zi ?_) | (refine G.atNeq ?_; first | refine G.op rfl rfl ?_) | refine G.op rfl rfl ?_) | refine G.op rfl rfl ?_ | (refine G.atLen ?_; first | refine G.lenStr rfl (tyy rfl) rfl ?_) | (refine G.atInd ?_; refine G.idxStr rfl rfl (tyy rfl) rfl Zj Zo ?_; intro _))
        all_goals first
          | exact G.again ⟨q + 1, !decide ((byteAt T q : Int) = 32)⟩ ⟨sint (by simp), rfl, rfl, rfl, rfl, trivial⟩ Zu ⟨by simp only; omega, by simp only; omega, fun e => by rw [hlat, hstep]; have : byteAt T q ≠ 32 := (fun h => by simp [h] at e); simp [this], fun e => by rw [hlat, hstep]; have : byteAt T q = 32 := (by simp at e; omega); simp [this]⟩ (by solve | repeat first | assumption | exact Zr _ | refine Zq ?_ Zp) (by simp only; omega)
      . obtain rfl : q = T.length := by omega
        rw [laterM_end] at hlat
        have e := hsk0 hlat
        repeat' (first | (refine G.atCode ?_; first | refine G.seq ?_ | refine G.region ?_ | refine G.exit rfl ?_ | (refine G.cond rfl ?_ ?_ <;> intro hc <;> (try simp only [tests, reduceCtorEq] at hc) <;> (try exact Zf))) | refine G.endOps ?_ | (refine G.atGd ?_; first | refine G.guardNoS rfl rfl rfl ?_ | refine G.guardU rfl rfl rfl ?_ | (refine G.guardS rfl rfl rfl ?_ ?_ <;> intro hc <;> (try simp only [tests, reduceCtorEq] at hc) <;> (try exact Zf))) | (refine G.atBin ?_; first | (refine G.atAdd ?_; first | refine G.arith rfl rfl rfl rfl rfl Zi ?_) | refine G.op rfl rfl ?_) | refine G.op rfl rfl ?_ | (refine G.atLen ?_; first | refine G.lenStr rfl (tyy rfl) rfl ?_))
        all_goals first
          | (exfalso; omega)
          | exact G.again ⟨i + 1, _⟩ ⟨sint (by simp), rfl, rfl, trivial⟩ (by rw [e]; exact Zu) (by simp only; omega) (by solve | repeat first | assumption | exact Zr _ | refine Zq ?_ Zp) (by simp only; omega)
  . obtain rfl : i = T.length := by omega
    rw [rB_end]
    repeat' (first | (refine G.atCode ?_; first | refine G.seq ?_ | refine G.region ?_ | refine G.exit rfl ?_ | refine G.ret ?_ | (refine G.cond rfl ?_ ?_ <;> intro hc <;> (try simp only [tests, reduceCtorEq] at hc) <;> (try exact Zf))) | refine G.endOps ?_ | (refine G.atBin ?_; first | refine G.op rfl rfl ?_) | refine G.op rfl rfl ?_ | (refine G.atLen ?_; first | refine G.lenStr rfl (tyy rfl) rfl ?_) | (refine G.atConv ?_; first | refine G.convStr rfl (tyy rfl) (tyy rfl) (tyy rfl) Za rfl ?_))
    all_goals exact G.done1 rfl rfl _ (SubH.nil _) ⟨rfl, rfl⟩
end Go.Proofs.Ytahpemfnhepgoaa
