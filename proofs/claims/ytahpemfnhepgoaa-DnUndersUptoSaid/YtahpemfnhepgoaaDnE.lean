/- Names: a text's name; dn.Parse. -/
import Derived.Test.YtahpemfnhepgoaaDnD
import Derived.Test.YtahpemfnhepgoaaOcB
namespace Go.Proofs.Ytahpemfnhepgoaa
set_option linter.all false
set_option maxRecDepth 4000
open Go.RowKit

def parD : Nat -> Dn -> Rdn -> List UInt8 -> Except Int Dn
  | 0, _, _, _ => .error 9
  | n + 1, out, now, s =>
    if out.length = 32 \/ now.length = 8 then .error 9
    else if posB 61 s = s.length \/ typeM (s.take (posB 61 s)) = false then .error 4
    else if hasM now (s.take (posB 61 s)) = true then .error 21
    else match valM (s.drop (posB 61 s + 1)).length true (s.drop (posB 61 s + 1)) with
      | none => .error 4
      | some (v, []) => .ok (out ++ [now ++ [(s.take (posB 61 s), v)]])
      | some (v, c :: r) => if c.toNat = 44 then parD n (out ++ [now ++ [(s.take (posB 61 s), v)]]) [] r else parD n out (now ++ [(s.take (posB 61 s), v)]) r
theorem valM_len : ∀ (n : Nat) (f : Bool) (s : List UInt8) (v r : List UInt8), valM n f s = some (v, r) -> r.length <= s.length /\ ∃ k, r = s.drop k := by
  intro n
  induction n with
  | zero => intro f s v r h; simp [valM] at h; obtain ⟨_, rfl⟩ := h; exact ⟨Nat.le_refl _, 0, rfl⟩
  | succ n ih =>
    intro f s v r h
    rw [valM] at h
    split at h
    . simp at h; obtain ⟨_, rfl⟩ := h; exact ⟨Nat.le_refl _, 0, rfl⟩
    . split at h
      . cases h
      . rename_i x k bl hu
        split at h
        . cases h
        . simp only [Option.map_eq_some_iff, Prod.mk.injEq, Prod.exists] at h
          obtain ⟨v1, r1, h1, rfl, rfl⟩ := h
          obtain ⟨h2, k2, rfl⟩ := ih _ _ _ _ h1
          refine ⟨by simp only [List.length_drop]; omega, k + k2, by rw [List.drop_drop]⟩
theorem valM_endB : ∀ (n : Nat) (f : Bool) (s : List UInt8) (v r : List UInt8), s.length <= n -> valM n f s = some (v, r) -> endB r = true := by
  intro n
  induction n with
  | zero =>
    intro f s v r hs h
    have : s = [] := List.eq_nil_of_length_eq_zero (by omega)
    subst this
    simp [valM] at h; obtain ⟨_, rfl⟩ := h; rfl
  | succ n ih =>
    intro f s v r hs h
    rw [valM] at h
    split at h
    . rename_i he
      simp at h; obtain ⟨_, rfl⟩ := h; exact he
    . split at h
      . cases h
      . rename_i x k bl hu
        have hk := unitM_pos hu
        split at h
        . cases h
        . simp only [Option.map_eq_some_iff, Prod.mk.injEq, Prod.exists] at h
          obtain ⟨v1, r1, h1, rfl, rfl⟩ := h
          exact ih _ _ _ _ (by simp; omega) h1
theorem parM_two : ∀ (n m : Nat) (out : Dn) (now : Rdn) (s : List UInt8), s.length < n -> s.length < m -> parD n out now s = parD m out now s := by
  intro n
  induction n with
  | zero => intro m out now s h; exact absurd h (by omega)
  | succ n ih =>
    intro m out now s h h'
    cases m with
    | zero => exact absurd h' (by omega)
    | succ m =>
      rw [parD, parD]
      have hp := posB_le 61 s
      by_cases h1 : out.length = 32 \/ now.length = 8
      . rw [if_pos h1, if_pos h1]
      . rw [if_neg h1, if_neg h1]
        by_cases h2 : posB 61 s = s.length \/ typeM (s.take (posB 61 s)) = false
        . rw [if_pos h2, if_pos h2]
        . rw [if_neg h2, if_neg h2]
          by_cases h3 : hasM now (s.take (posB 61 s)) = true
          . rw [if_pos h3, if_pos h3]
          . rw [if_neg h3, if_neg h3]
            cases hv : valM (s.drop (posB 61 s + 1)).length true (s.drop (posB 61 s + 1)) with
            | none => rfl
            | some y =>
              obtain ⟨v, r⟩ := y
              have hl := (valM_len _ _ _ _ _ hv).1
              rw [List.length_drop] at hl
              cases r with
              | nil => rfl
              | cons c r =>
                simp only [List.length_cons] at hl
                simp only
                rw [ih m _ _ r (by omega) (by omega), ih m _ _ r (by omega) (by omega)]
def parseM (s : List UInt8) : Except Int Dn := if s.length > 4096 then .error 5 else if s = [] then .ok [] else parD (s.length + 1) [] [] s
def ParR (h : Heap) (m : Except Int Dn) (u : Value) : Prop := match m with
  | .ok d => ∃ v, u = .tuple #[v, .int .i64 0] /\ DnC h d v
  | .error e => u = .tuple #[.slice none 0 0, .int .i64 e]
theorem callParse : Callable Try.prog 9 := ⟨_, Try.func9, by kernel_rfl, rfl⟩
theorem callRParse : Callable Try.prog 10 := ⟨_, Try.func10, by kernel_rfl, rfl⟩
theorem tysOk_snoc {r : Rdn} {a : List UInt8 × List UInt8} (h : TysOk r) (ha : a.1.length <= 100000000) : TysOk (r ++ [a]) := by
  intro x hx
  rcases List.mem_append.1 hx with hx | hx
  . exact h x hx
  . rw [List.mem_singleton.1 hx]; exact ha
theorem tysOk_nil : TysOk [] := fun a ha => by simp at ha
theorem avaR_snoc (r : Rdn) (a b : List UInt8) : avaR r ++ [[str a, str b]] = avaR (r ++ [(a, b)]) := by simp [avaR]
set_option maxRecDepth 8000 in
set_option maxHeartbeats 2000000 in
theorem dn_Parse (s : List UInt8) (hs : s.length <= 10000000) (h : Heap) : Spec Try.prog 9 [str s] h [] (fun u h' H' => ParR h' (parseM s) u /\ H' = []) := by
  by_cases hlong : s.length > 4096
  . have e : parseM s = .error 5 := by unfold parseM; rw [if_pos hlong]
    rw [e]
    refine Spec.enter Try.func9 rfl rfl ?_; intro w0
    repeat' (first | (refine G.atCode ?_; first | refine G.seq ?_ | refine G.region ?_ | refine G.block ?_ | refine G.skip ?_ | refine G.exit rfl ?_ | refine G.ret ?_ | (refine G.cond rfl ?_ ?_ <;> intro hc <;> (try simp only [tests, reduceCtorEq] at hc) <;> (try exact Zf))) | refine G.endOps ?_ | refine G.endStill ?_ | refine G.endHeld ?_ | refine G.back ?_ | refine G.endBlk ?_ | (refine G.atGd ?_; first | refine G.guardYes rfl rfl ?_ | refine G.guardNoS rfl rfl rfl ?_ | refine G.guardU rfl rfl rfl ?_ | (refine G.guardS rfl rfl rfl ?_ ?_ <;> intro hc <;> (try simp only [tests, reduceCtorEq] at hc) <;> (try exact Zf)) | refine G.guardNo rfl rfl ?_ (by rintro i ⟨⟩; rfl) | (refine G.guard rfl rfl ?_ ?_ (by rintro i ⟨⟩; rfl) <;> intro hc <;> (try simp only [tests, reduceCtorEq] at hc) <;> (try exact Zf))) | (refine G.atBin ?_; first | (refine G.atEql ?_; first | refine G.op rfl rfl ?_ | refine G.eqStr0 rfl rfl rfl ?_ | refine G.eqStr rfl rfl rfl ?_ | refine G.eqPtr rfl rfl (tyy rfl) rfl ?_ | refine G.eqBool rfl rfl (tyy rfl) rfl ?_) | refine G.op rfl rfl ?_ ) | refine G.op rfl rfl ?_ | (refine G.atLen ?_; first | refine G.lenStr rfl (tyy rfl) rfl ?_ | refine G.lenSlice rfl (tyy rfl) rfl ?_ | refine G.lenRowB rfl (tyy rfl) Za rfl ?_ | refine G.lenRowS rfl (tyy rfl) Za rfl ?_ | refine G.lenRow rfl (tyy rfl) Za rfl ?_ | refine G.lenImmB rfl (tyy rfl) Zl rfl ?_ | refine G.lenImmI rfl (tyy rfl) Zl rfl ?_ | refine G.lenImmS rfl (tyy rfl) Zl rfl ?_ | refine G.lenImm rfl (tyy rfl) Zl rfl ?_) | (refine G.atBld ?_; refine G.build (tyy rfl) rfl rfl rfl ?_) | (refine G.atBsl ?_; refine G.buildSlice (tyy rfl) (tyy rfl) rfl rfl rfl rfl ?_; intro _) | (refine G.atApp ?_; first | (refine G.append1S rfl rfl (tyy rfl) (tyy rfl) rfl rfl Za Za rfl Zo ?_; intro _) | (refine G.appendImmS rfl rfl (tyy rfl) (tyy rfl) rfl rfl Za Zl rfl Zo ?_; intro _) | (refine G.append1B rfl rfl (tyy rfl) (tyy rfl) rfl rfl Za Za rfl Zo Zo ?_; intro _) | (refine G.appendStr rfl rfl (tyy rfl) (tyy rfl) (tyy rfl) rfl rfl Za rfl Zo ?_; intro _) | (refine G.append1 rfl rfl (tyy rfl) (tyy rfl) rfl rfl Za Za rfl rfl rfl Zo ?_; intro _; refine G.rowForm Take.hd ?_; rintro _ _ rfl)) | (refine G.atInd ?_; refine G.idxStr rfl rfl (tyy rfl) rfl Zj Zo ?_; intro _) | (refine G.atSlc ?_; first | refine G.dropStr rfl rfl (tyy rfl) rfl Zj Zo ?_ | refine G.takeStr rfl rfl (tyy rfl) rfl Zj Zo ?_ | refine G.sliceStr rfl rfl rfl (tyy rfl) rfl Zj Zj Zo rfl ?_))
    all_goals exact G.done2 rfl rfl rfl _ (SubH.nil _) ⟨rfl, rfl⟩
  by_cases hnil : s = []
  . subst hnil
    have e : parseM [] = .ok [] := rfl
    rw [e]
    refine Spec.enter Try.func9 rfl rfl ?_; intro w0
    repeat' (first | (refine G.atCode ?_; first | refine G.seq ?_ | refine G.region ?_ | refine G.block ?_ | refine G.skip ?_ | refine G.exit rfl ?_ | refine G.ret ?_ | (refine G.cond rfl ?_ ?_ <;> intro hc <;> (try simp only [tests, reduceCtorEq] at hc) <;> (try exact Zf))) | refine G.endOps ?_ | refine G.endStill ?_ | refine G.endHeld ?_ | refine G.back ?_ | refine G.endBlk ?_ | (refine G.atGd ?_; first | refine G.guardYes rfl rfl ?_ | refine G.guardNoS rfl rfl rfl ?_ | refine G.guardU rfl rfl rfl ?_ | (refine G.guardS rfl rfl rfl ?_ ?_ <;> intro hc <;> (try simp only [tests, reduceCtorEq] at hc) <;> (try exact Zf)) | refine G.guardNo rfl rfl ?_ (by rintro i ⟨⟩; rfl) | (refine G.guard rfl rfl ?_ ?_ (by rintro i ⟨⟩; rfl) <;> intro hc <;> (try simp only [tests, reduceCtorEq] at hc) <;> (try exact Zf))) | (refine G.atBin ?_; first | (refine G.atEql ?_; first | refine G.op rfl rfl ?_ | refine G.eqStr0 rfl rfl rfl ?_ | refine G.eqStr rfl rfl rfl ?_ | refine G.eqPtr rfl rfl (tyy rfl) rfl ?_ | refine G.eqBool rfl rfl (tyy rfl) rfl ?_) | refine G.op rfl rfl ?_ ) | refine G.op rfl rfl ?_ | (refine G.atLen ?_; first | refine G.lenStr rfl (tyy rfl) rfl ?_ | refine G.lenSlice rfl (tyy rfl) rfl ?_ | refine G.lenRowB rfl (tyy rfl) Za rfl ?_ | refine G.lenRowS rfl (tyy rfl) Za rfl ?_ | refine G.lenRow rfl (tyy rfl) Za rfl ?_ | refine G.lenImmB rfl (tyy rfl) Zl rfl ?_ | refine G.lenImmI rfl (tyy rfl) Zl rfl ?_ | refine G.lenImmS rfl (tyy rfl) Zl rfl ?_ | refine G.lenImm rfl (tyy rfl) Zl rfl ?_) | (refine G.atBld ?_; refine G.build (tyy rfl) rfl rfl rfl ?_) | (refine G.atBsl ?_; refine G.buildSlice (tyy rfl) (tyy rfl) rfl rfl rfl rfl ?_; intro _) | (refine G.atApp ?_; first | (refine G.append1S rfl rfl (tyy rfl) (tyy rfl) rfl rfl Za Za rfl Zo ?_; intro _) | (refine G.appendImmS rfl rfl (tyy rfl) (tyy rfl) rfl rfl Za Zl rfl Zo ?_; intro _) | (refine G.append1B rfl rfl (tyy rfl) (tyy rfl) rfl rfl Za Za rfl Zo Zo ?_; intro _) | (refine G.appendStr rfl rfl (tyy rfl) (tyy rfl) (tyy rfl) rfl rfl Za rfl Zo ?_; intro _) | (refine G.append1 rfl rfl (tyy rfl) (tyy rfl) rfl rfl Za Za rfl rfl rfl Zo ?_; intro _; refine G.rowForm Take.hd ?_; rintro _ _ rfl)) | (refine G.atInd ?_; refine G.idxStr rfl rfl (tyy rfl) rfl Zj Zo ?_; intro _) | (refine G.atSlc ?_; first | refine G.dropStr rfl rfl (tyy rfl) rfl Zj Zo ?_ | refine G.takeStr rfl rfl (tyy rfl) rfl Zj Zo ?_ | refine G.sliceStr rfl rfl rfl (tyy rfl) rfl Zj Zj Zo rfl ?_))
    all_goals first
      | exact G.done2 rfl rfl rfl _ (SubH.nil _) ⟨⟨_, rfl, DnC.nil _⟩, rfl⟩
      | (exfalso; first | exact absurd rfl (by assumption : ¬ ([] : List UInt8).length = 0) | (simp only [List.length_nil] at *; omega))
  have e : parseM s = parD (s.length + 1) [] [] s := by unfold parseM; rw [if_neg hlong, if_neg hnil]
  rw [e]
  have hls : 1 <= s.length := by cases s with
    | nil => exact absurd rfl hnil
    | cons c r => simp
  clear hnil e
  generalize hR0 : parD (s.length + 1) [] [] s = R
  refine Spec.enter Try.func9 rfl rfl ?_; intro w0
  repeat' (first | (refine G.atCode ?_; refine G.stopLoop ?_) | (refine G.atCode ?_; first | refine G.seq ?_ | refine G.region ?_ | refine G.block ?_ | refine G.skip ?_ | refine G.exit rfl ?_ | refine G.ret ?_ | (refine G.cond rfl ?_ ?_ <;> intro hc <;> (try simp only [tests, reduceCtorEq] at hc) <;> (try exact Zf))) | refine G.endOps ?_ | refine G.endStill ?_ | refine G.endHeld ?_ | refine G.back ?_ | refine G.endBlk ?_ | (refine G.atGd ?_; first | refine G.guardYes rfl rfl ?_ | refine G.guardNoS rfl rfl rfl ?_ | refine G.guardU rfl rfl rfl ?_ | (refine G.guardS rfl rfl rfl ?_ ?_ <;> intro hc <;> (try simp only [tests, reduceCtorEq] at hc) <;> (try exact Zf)) | refine G.guardNo rfl rfl ?_ (by rintro i ⟨⟩; rfl) | (refine G.guard rfl rfl ?_ ?_ (by rintro i ⟨⟩; rfl) <;> intro hc <;> (try simp only [tests, reduceCtorEq] at hc) <;> (try exact Zf))) | (refine G.atBin ?_; first | (refine G.atEql ?_; first | refine G.op rfl rfl ?_ | refine G.eqStr0 rfl rfl rfl ?_ | refine G.eqStr rfl rfl rfl ?_ | refine G.eqPtr rfl rfl (tyy rfl) rfl ?_ | refine G.eqBool rfl rfl (tyy rfl) rfl ?_) | refine G.op rfl rfl ?_ ) | refine G.op rfl rfl ?_ | (refine G.atLen ?_; first | refine G.lenStr rfl (tyy rfl) rfl ?_ | refine G.lenSlice rfl (tyy rfl) rfl ?_ | refine G.lenRowB rfl (tyy rfl) Za rfl ?_ | refine G.lenRowS rfl (tyy rfl) Za rfl ?_ | refine G.lenRow rfl (tyy rfl) Za rfl ?_ | refine G.lenImmB rfl (tyy rfl) Zl rfl ?_ | refine G.lenImmI rfl (tyy rfl) Zl rfl ?_ | refine G.lenImmS rfl (tyy rfl) Zl rfl ?_ | refine G.lenImm rfl (tyy rfl) Zl rfl ?_) | (refine G.atBld ?_; refine G.build (tyy rfl) rfl rfl rfl ?_) | (refine G.atBsl ?_; refine G.buildSlice (tyy rfl) (tyy rfl) rfl rfl rfl rfl ?_; intro _) | (refine G.atApp ?_; first | (refine G.append1S rfl rfl (tyy rfl) (tyy rfl) rfl rfl Za Za rfl Zo ?_; intro _) | (refine G.appendImmS rfl rfl (tyy rfl) (tyy rfl) rfl rfl Za Zl rfl Zo ?_; intro _) | (refine G.append1B rfl rfl (tyy rfl) (tyy rfl) rfl rfl Za Za rfl Zo Zo ?_; intro _) | (refine G.appendStr rfl rfl (tyy rfl) (tyy rfl) (tyy rfl) rfl rfl Za rfl Zo ?_; intro _) | (refine G.append1 rfl rfl (tyy rfl) (tyy rfl) rfl rfl Za Za rfl rfl rfl Zo ?_; intro _; refine G.rowForm Take.hd ?_; rintro _ _ rfl)) | (refine G.atInd ?_; refine G.idxStr rfl rfl (tyy rfl) rfl Zj Zo ?_; intro _) | (refine G.atSlc ?_; first | refine G.dropStr rfl rfl (tyy rfl) rfl Zj Zo ?_ | refine G.takeStr rfl rfl (tyy rfl) rfl Zj Zo ?_ | refine G.sliceStr rfl rfl rfl (tyy rfl) rfl Zj Zj Zo rfl ?_))
  refine G.nilRow 51 2 ?_
  refine G.nilRow 45 1 ?_
  refine G.go ?_
  refine G.loop (σ := List UInt8 × Value × Value × List (List Value) × Dn × Rdn) (fun x => [(0, str x.1), (4, x.2.1), (5, x.2.2.1)])
    (fun x => [.row x.2.1 45 1 x.2.2.2.1, .row x.2.2.1 51 2 (avaR x.2.2.2.2.2)])
    (fun x h1 => x.1.length <= s.length /\ TysOk x.2.2.2.2.2 /\ RdnsC h1 x.2.2.2.2.1 x.2.2.2.1 /\ parD (x.1.length + 1) x.2.2.2.2.1 x.2.2.2.2.2 x.1 = R /\ x.2.2.2.2.1.length <= 32 /\ x.2.2.2.2.2.length <= 8) (fun x => x.1.length) ⟨s, .slice none 0 0, .slice none 0 0, [], [], []⟩ ⟨rfl, rfl, rfl, trivial⟩ Zu ⟨Nat.le_refl _, tysOk_nil, rfl, hR0, Nat.zero_le _, Nat.zero_le _⟩ ?_
  rintro ⟨q, ov, nv, rows, out, now⟩ h1 hle1 ⟨hq, hty, hrows, hR, hol, hnl⟩
  simp only at hq hty hrows hR hol hnl
  refine G.norm (by (try dsimp only) <;> exact rfl) (by (try dsimp only) <;> exact rfl) ?_
  have hrl := hrows.len
  have hal := avaR_length now
  have hp := posB_le 61 q
  rw [parD] at hR
  by_cases hm : out.length = 32 \/ now.length = 8
  . rw [if_pos hm] at hR
    subst hR
    repeat' (first | (refine G.atCode ?_; first | refine G.seq ?_ | refine G.region ?_ | refine G.block ?_ | refine G.skip ?_ | refine G.exit rfl ?_ | refine G.ret ?_ | (refine G.cond rfl ?_ ?_ <;> intro hc <;> (try simp only [tests, reduceCtorEq] at hc) <;> (try exact Zf))) | refine G.endOps ?_ | refine G.endStill ?_ | refine G.endHeld ?_ | refine G.back ?_ | refine G.endBlk ?_ | (refine G.atGd ?_; first | refine G.guardYes rfl rfl ?_ | refine G.guardNoS rfl rfl rfl ?_ | refine G.guardU rfl rfl rfl ?_ | (refine G.guardS rfl rfl rfl ?_ ?_ <;> intro hc <;> (try simp only [tests, reduceCtorEq] at hc) <;> (try exact Zf)) | refine G.guardNo rfl rfl ?_ (by rintro i ⟨⟩; rfl) | (refine G.guard rfl rfl ?_ ?_ (by rintro i ⟨⟩; rfl) <;> intro hc <;> (try simp only [tests, reduceCtorEq] at hc) <;> (try exact Zf))) | (refine G.atBin ?_; first | (refine G.atEql ?_; first | refine G.op rfl rfl ?_ | refine G.eqStr0 rfl rfl rfl ?_ | refine G.eqStr rfl rfl rfl ?_ | refine G.eqPtr rfl rfl (tyy rfl) rfl ?_ | refine G.eqBool rfl rfl (tyy rfl) rfl ?_) | refine G.op rfl rfl ?_ ) | refine G.op rfl rfl ?_ | (refine G.atLen ?_; first | refine G.lenStr rfl (tyy rfl) rfl ?_ | refine G.lenSlice rfl (tyy rfl) rfl ?_ | refine G.lenRowB rfl (tyy rfl) Za rfl ?_ | refine G.lenRowS rfl (tyy rfl) Za rfl ?_ | refine G.lenRow rfl (tyy rfl) Za rfl ?_ | refine G.lenImmB rfl (tyy rfl) Zl rfl ?_ | refine G.lenImmI rfl (tyy rfl) Zl rfl ?_ | refine G.lenImmS rfl (tyy rfl) Zl rfl ?_ | refine G.lenImm rfl (tyy rfl) Zl rfl ?_) | (refine G.atBld ?_; refine G.build (tyy rfl) rfl rfl rfl ?_) | (refine G.atBsl ?_; refine G.buildSlice (tyy rfl) (tyy rfl) rfl rfl rfl rfl ?_; intro _) | (refine G.atApp ?_; first | (refine G.append1S rfl rfl (tyy rfl) (tyy rfl) rfl rfl Za Za rfl Zo ?_; intro _) | (refine G.appendImmS rfl rfl (tyy rfl) (tyy rfl) rfl rfl Za Zl rfl Zo ?_; intro _) | (refine G.append1B rfl rfl (tyy rfl) (tyy rfl) rfl rfl Za Za rfl Zo Zo ?_; intro _) | (refine G.appendStr rfl rfl (tyy rfl) (tyy rfl) (tyy rfl) rfl rfl Za rfl Zo ?_; intro _) | (refine G.append1 rfl rfl (tyy rfl) (tyy rfl) rfl rfl Za Za rfl rfl rfl Zo ?_; intro _; refine G.rowForm Take.hd ?_; rintro _ _ rfl)) | (refine G.atInd ?_; refine G.idxStr rfl rfl (tyy rfl) rfl Zj Zo ?_; intro _) | (refine G.atSlc ?_; first | refine G.dropStr rfl rfl (tyy rfl) rfl Zj Zo ?_ | refine G.takeStr rfl rfl (tyy rfl) rfl Zj Zo ?_ | refine G.sliceStr rfl rfl rfl (tyy rfl) rfl Zj Zj Zo rfl ?_))
    all_goals first | (exfalso; omega) | exact G.done2 rfl rfl rfl _ (SubH.nil _) ⟨rfl, rfl⟩
  rw [if_neg hm] at hR
  have htk : (q.take (posB 61 q)).length = posB 61 q := by rw [List.length_take]; omega
  have hdk : (q.drop (posB 61 q + 1)).length = q.length - (posB 61 q + 1) := by rw [List.length_drop]
  generalize hT : q.take (posB 61 q) = T at *
  generalize hU : q.drop (posB 61 q + 1) = U at *
  generalize hpp : posB 61 q = p at *
  have hcut : cutV 61 q = .tuple #[str T, str U, .bool (decide (p < q.length))] := by unfold cutV; rw [hpp, hT, hU]
  by_cases hf : p = q.length \/ typeM T = false
  . rw [if_pos hf] at hR
    subst hR
    cases ht : typeM T with
    | true =>
      have hf : p = q.length := hf.resolve_right (by rw [ht]; simp)
      repeat' (first | (show G _ (.ops .seq _ (⟨some _, .call { callee := .value (.func 25), args := _, argTypes := _ }, _, _, _, none⟩ :: _) :: _) _ _ _; refine G.call callCut rfl rfl (str_Cut q (by omega) 61 _) Ze ?_; rintro _ h2 H2 ⟨rfl, rfl⟩ hle2; rw [hcut]) | (refine G.atCode ?_; first | refine G.seq ?_ | refine G.region ?_ | refine G.block ?_ | refine G.skip ?_ | refine G.exit rfl ?_ | refine G.ret ?_ | (refine G.cond rfl ?_ ?_ <;> intro hc <;> (try simp only [tests, reduceCtorEq] at hc) <;> (try exact Zf))) | refine G.endOps ?_ | refine G.endStill ?_ | refine G.endHeld ?_ | refine G.back ?_ | refine G.endBlk ?_ | (refine G.atGd ?_; first | refine G.guardYes rfl rfl ?_ | refine G.guardNoS rfl rfl rfl ?_ | refine G.guardU rfl rfl rfl ?_ | (refine G.guardS rfl rfl rfl ?_ ?_ <;> intro hc <;> (try simp only [tests, reduceCtorEq] at hc) <;> (try exact Zf)) | refine G.guardNo rfl rfl ?_ (by rintro i ⟨⟩; rfl) | (refine G.guard rfl rfl ?_ ?_ (by rintro i ⟨⟩; rfl) <;> intro hc <;> (try simp only [tests, reduceCtorEq] at hc) <;> (try exact Zf))) | (refine G.atBin ?_; first | (refine G.atEql ?_; first | refine G.op rfl rfl ?_ | refine G.eqStr0 rfl rfl rfl ?_ | refine G.eqStr rfl rfl rfl ?_ | refine G.eqPtr rfl rfl (tyy rfl) rfl ?_ | refine G.eqBool rfl rfl (tyy rfl) rfl ?_) | refine G.op rfl rfl ?_ ) | refine G.op rfl rfl ?_ | (refine G.atLen ?_; first | refine G.lenStr rfl (tyy rfl) rfl ?_ | refine G.lenSlice rfl (tyy rfl) rfl ?_ | refine G.lenRowB rfl (tyy rfl) Za rfl ?_ | refine G.lenRowS rfl (tyy rfl) Za rfl ?_ | refine G.lenRow rfl (tyy rfl) Za rfl ?_ | refine G.lenImmB rfl (tyy rfl) Zl rfl ?_ | refine G.lenImmI rfl (tyy rfl) Zl rfl ?_ | refine G.lenImmS rfl (tyy rfl) Zl rfl ?_ | refine G.lenImm rfl (tyy rfl) Zl rfl ?_) | (refine G.atBld ?_; refine G.build (tyy rfl) rfl rfl rfl ?_) | (refine G.atBsl ?_; refine G.buildSlice (tyy rfl) (tyy rfl) rfl rfl rfl rfl ?_; intro _) | (refine G.atApp ?_; first | (refine G.append1S rfl rfl (tyy rfl) (tyy rfl) rfl rfl Za Za rfl Zo ?_; intro _) | (refine G.appendImmS rfl rfl (tyy rfl) (tyy rfl) rfl rfl Za Zl rfl Zo ?_; intro _) | (refine G.append1B rfl rfl (tyy rfl) (tyy rfl) rfl rfl Za Za rfl Zo Zo ?_; intro _) | (refine G.appendStr rfl rfl (tyy rfl) (tyy rfl) (tyy rfl) rfl rfl Za rfl Zo ?_; intro _) | (refine G.append1 rfl rfl (tyy rfl) (tyy rfl) rfl rfl Za Za rfl rfl rfl Zo ?_; intro _; refine G.rowForm Take.hd ?_; rintro _ _ rfl)) | (refine G.atInd ?_; refine G.idxStr rfl rfl (tyy rfl) rfl Zj Zo ?_; intro _) | (refine G.atSlc ?_; first | refine G.dropStr rfl rfl (tyy rfl) rfl Zj Zo ?_ | refine G.takeStr rfl rfl (tyy rfl) rfl Zj Zo ?_ | refine G.sliceStr rfl rfl rfl (tyy rfl) rfl Zj Zj Zo rfl ?_))
      all_goals first | (exfalso; omega) | exact G.done2 rfl rfl rfl _ (SubH.nil _) ⟨rfl, rfl⟩
    | false =>
      repeat' (first | (show G _ (.ops .seq _ (⟨some _, .call { callee := .value (.func 25), args := _, argTypes := _ }, _, _, _, none⟩ :: _) :: _) _ _ _; refine G.call callCut rfl rfl (str_Cut q (by omega) 61 _) Ze ?_; rintro _ h2 H2 ⟨rfl, rfl⟩ hle2; rw [hcut]) | (show G _ (.ops .seq _ (⟨some _, .call { callee := .value (.func 13), args := _, argTypes := _ }, _, _, _, none⟩ :: _) :: _) _ _ _; refine G.call callType9 rfl rfl (dn_Type T _) Ze ?_; rintro _ h3 H3 ⟨rfl, rfl⟩ hle3; rw [ht]) | (refine G.atCode ?_; first | refine G.seq ?_ | refine G.region ?_ | refine G.block ?_ | refine G.skip ?_ | refine G.exit rfl ?_ | refine G.ret ?_ | (refine G.cond rfl ?_ ?_ <;> intro hc <;> (try simp only [tests, reduceCtorEq] at hc) <;> (try exact Zf))) | refine G.endOps ?_ | refine G.endStill ?_ | refine G.endHeld ?_ | refine G.back ?_ | refine G.endBlk ?_ | (refine G.atGd ?_; first | refine G.guardYes rfl rfl ?_ | refine G.guardNoS rfl rfl rfl ?_ | refine G.guardU rfl rfl rfl ?_ | (refine G.guardS rfl rfl rfl ?_ ?_ <;> intro hc <;> (try simp only [tests, reduceCtorEq] at hc) <;> (try exact Zf)) | refine G.guardNo rfl rfl ?_ (by rintro i ⟨⟩; rfl) | (refine G.guard rfl rfl ?_ ?_ (by rintro i ⟨⟩; rfl) <;> intro hc <;> (try simp only [tests, reduceCtorEq] at hc) <;> (try exact Zf))) | (refine G.atBin ?_; first | (refine G.atEql ?_; first | refine G.op rfl rfl ?_ | refine G.eqStr0 rfl rfl rfl ?_ | refine G.eqStr rfl rfl rfl ?_ | refine G.eqPtr rfl rfl (tyy rfl) rfl ?_ | refine G.eqBool rfl rfl (tyy rfl) rfl ?_) | refine G.op rfl rfl ?_ ) | refine G.op rfl rfl ?_ | (refine G.atLen ?_; first | refine G.lenStr rfl (tyy rfl) rfl ?_ | refine G.lenSlice rfl (tyy rfl) rfl ?_ | refine G.lenRowB rfl (tyy rfl) Za rfl ?_ | refine G.lenRowS rfl (tyy rfl) Za rfl ?_ | refine G.lenRow rfl (tyy rfl) Za rfl ?_ | refine G.lenImmB rfl (tyy rfl) Zl rfl ?_ | refine G.lenImmI rfl (tyy rfl) Zl rfl ?_ | refine G.lenImmS rfl (tyy rfl) Zl rfl ?_ | refine G.lenImm rfl (tyy rfl) Zl rfl ?_) | (refine G.atBld ?_; refine G.build (tyy rfl) rfl rfl rfl ?_) | (refine G.atBsl ?_; refine G.buildSlice (tyy rfl) (tyy rfl) rfl rfl rfl rfl ?_; intro _) | (refine G.atApp ?_; first | (refine G.append1S rfl rfl (tyy rfl) (tyy rfl) rfl rfl Za Za rfl Zo ?_; intro _) | (refine G.appendImmS rfl rfl (tyy rfl) (tyy rfl) rfl rfl Za Zl rfl Zo ?_; intro _) | (refine G.append1B rfl rfl (tyy rfl) (tyy rfl) rfl rfl Za Za rfl Zo Zo ?_; intro _) | (refine G.appendStr rfl rfl (tyy rfl) (tyy rfl) (tyy rfl) rfl rfl Za rfl Zo ?_; intro _) | (refine G.append1 rfl rfl (tyy rfl) (tyy rfl) rfl rfl Za Za rfl rfl rfl Zo ?_; intro _; refine G.rowForm Take.hd ?_; rintro _ _ rfl)) | (refine G.atInd ?_; refine G.idxStr rfl rfl (tyy rfl) rfl Zj Zo ?_; intro _) | (refine G.atSlc ?_; first | refine G.dropStr rfl rfl (tyy rfl) rfl Zj Zo ?_ | refine G.takeStr rfl rfl (tyy rfl) rfl Zj Zo ?_ | refine G.sliceStr rfl rfl rfl (tyy rfl) rfl Zj Zj Zo rfl ?_))
      all_goals first | (exfalso; omega) | exact G.done2 rfl rfl rfl _ (SubH.nil _) ⟨rfl, rfl⟩
  rw [if_neg hf] at hR
  have hpl : p < q.length := by have : ¬ p = q.length := fun e => hf (.inl e); omega
  have ht : typeM T = true := by cases h9 : typeM T with
    | true => rfl
    | false => exact absurd (.inr h9) hf
  cases hh : hasM now T with
  | true =>
    rw [hh, if_pos rfl] at hR
    subst hR
    repeat' (first | (show G _ (.ops .seq _ (⟨some _, .call { callee := .value (.func 25), args := _, argTypes := _ }, _, _, _, none⟩ :: _) :: _) _ _ _; refine G.call callCut rfl rfl (str_Cut q (by omega) 61 _) Ze ?_; rintro _ h2 H2 ⟨rfl, rfl⟩ hle2; rw [hcut]) | (show G _ (.ops .seq _ (⟨some _, .call { callee := .value (.func 13), args := _, argTypes := _ }, _, _, _, none⟩ :: _) :: _) _ _ _; refine G.call callType9 rfl rfl (dn_Type T _) Ze ?_; rintro _ h3 H3 ⟨rfl, rfl⟩ hle3; rw [ht]) | (show G _ (.ops .seq _ (⟨some _, .call { callee := .value (.func 26), args := _, argTypes := _ }, _, _, _, none⟩ :: _) :: _) _ _ _; refine G.call callHas rfl rfl (dn_has now hty nv T (by omega) [.row nv 51 2 (avaR now)] _ (.inr rfl)) Ze ?_; rintro _ h4 H4 ⟨rfl, rfl⟩ hle4; rw [hh]) | (refine G.atCode ?_; first | refine G.seq ?_ | refine G.region ?_ | refine G.block ?_ | refine G.skip ?_ | refine G.exit rfl ?_ | refine G.ret ?_ | (refine G.cond rfl ?_ ?_ <;> intro hc <;> (try simp only [tests, reduceCtorEq] at hc) <;> (try exact Zf))) | refine G.endOps ?_ | refine G.endStill ?_ | refine G.endHeld ?_ | refine G.back ?_ | refine G.endBlk ?_ | (refine G.atGd ?_; first | refine G.guardYes rfl rfl ?_ | refine G.guardNoS rfl rfl rfl ?_ | refine G.guardU rfl rfl rfl ?_ | (refine G.guardS rfl rfl rfl ?_ ?_ <;> intro hc <;> (try simp only [tests, reduceCtorEq] at hc) <;> (try exact Zf)) | refine G.guardNo rfl rfl ?_ (by rintro i ⟨⟩; rfl) | (refine G.guard rfl rfl ?_ ?_ (by rintro i ⟨⟩; rfl) <;> intro hc <;> (try simp only [tests, reduceCtorEq] at hc) <;> (try exact Zf))) | (refine G.atBin ?_; first | (refine G.atEql ?_; first | refine G.op rfl rfl ?_ | refine G.eqStr0 rfl rfl rfl ?_ | refine G.eqStr rfl rfl rfl ?_ | refine G.eqPtr rfl rfl (tyy rfl) rfl ?_ | refine G.eqBool rfl rfl (tyy rfl) rfl ?_) | refine G.op rfl rfl ?_ ) | refine G.op rfl rfl ?_ | (refine G.atLen ?_; first | refine G.lenStr rfl (tyy rfl) rfl ?_ | refine G.lenSlice rfl (tyy rfl) rfl ?_ | refine G.lenRowB rfl (tyy rfl) Za rfl ?_ | refine G.lenRowS rfl (tyy rfl) Za rfl ?_ | refine G.lenRow rfl (tyy rfl) Za rfl ?_ | refine G.lenImmB rfl (tyy rfl) Zl rfl ?_ | refine G.lenImmI rfl (tyy rfl) Zl rfl ?_ | refine G.lenImmS rfl (tyy rfl) Zl rfl ?_ | refine G.lenImm rfl (tyy rfl) Zl rfl ?_) | (refine G.atBld ?_; refine G.build (tyy rfl) rfl rfl rfl ?_) | (refine G.atBsl ?_; refine G.buildSlice (tyy rfl) (tyy rfl) rfl rfl rfl rfl ?_; intro _) | (refine G.atApp ?_; first | (refine G.append1S rfl rfl (tyy rfl) (tyy rfl) rfl rfl Za Za rfl Zo ?_; intro _) | (refine G.appendImmS rfl rfl (tyy rfl) (tyy rfl) rfl rfl Za Zl rfl Zo ?_; intro _) | (refine G.append1B rfl rfl (tyy rfl) (tyy rfl) rfl rfl Za Za rfl Zo Zo ?_; intro _) | (refine G.appendStr rfl rfl (tyy rfl) (tyy rfl) (tyy rfl) rfl rfl Za rfl Zo ?_; intro _) | (refine G.append1 rfl rfl (tyy rfl) (tyy rfl) rfl rfl Za Za rfl rfl rfl Zo ?_; intro _; refine G.rowForm Take.hd ?_; rintro _ _ rfl)) | (refine G.atInd ?_; refine G.idxStr rfl rfl (tyy rfl) rfl Zj Zo ?_; intro _) | (refine G.atSlc ?_; first | refine G.dropStr rfl rfl (tyy rfl) rfl Zj Zo ?_ | refine G.takeStr rfl rfl (tyy rfl) rfl Zj Zo ?_ | refine G.sliceStr rfl rfl rfl (tyy rfl) rfl Zj Zj Zo rfl ?_))
    all_goals first | (exfalso; omega) | exact G.done2 rfl rfl rfl _ (SubH.nil _) ⟨rfl, rfl⟩
  | false =>
    rw [hh, if_neg (by simp)] at hR
    have hvr : ∀ u, ValR (valM U.length true U) u -> ValR (valM U.length true U) u := fun _ x => x
    cases hv : valM U.length true U with
    | none =>
      rw [hv] at hR
      simp only at hR
      subst hR
      repeat' (first | (show G _ (.ops .seq _ (⟨some _, .call { callee := .value (.func 25), args := _, argTypes := _ }, _, _, _, none⟩ :: _) :: _) _ _ _; refine G.call callCut rfl rfl (str_Cut q (by omega) 61 _) Ze ?_; rintro _ h2 H2 ⟨rfl, rfl⟩ hle2; rw [hcut]) | (show G _ (.ops .seq _ (⟨some _, .call { callee := .value (.func 13), args := _, argTypes := _ }, _, _, _, none⟩ :: _) :: _) _ _ _; refine G.call callType9 rfl rfl (dn_Type T _) Ze ?_; rintro _ h3 H3 ⟨rfl, rfl⟩ hle3; rw [ht]) | (show G _ (.ops .seq _ (⟨some _, .call { callee := .value (.func 26), args := _, argTypes := _ }, _, _, _, none⟩ :: _) :: _) _ _ _; refine G.call callHas rfl rfl (dn_has now hty nv T (by omega) [.row nv 51 2 (avaR now)] _ (.inr rfl)) Ze ?_; rintro _ h4 H4 ⟨rfl, rfl⟩ hle4; rw [hh]) | (show G _ (.ops .seq _ (⟨some _, .call { callee := .value (.func 27), args := _, argTypes := _ }, _, _, _, none⟩ :: _) :: _) _ _ _; refine G.call callValue rfl rfl (dn_value U (by omega) _) Ze ?_; rintro _ h5 H5 ⟨hvu, rfl⟩ hle5; (rw [hv] at hvu); (obtain ⟨x1, x2, rfl⟩ := hvu)) | (refine G.atCode ?_; first | refine G.seq ?_ | refine G.region ?_ | refine G.block ?_ | refine G.skip ?_ | refine G.exit rfl ?_ | refine G.ret ?_ | (refine G.cond rfl ?_ ?_ <;> intro hc <;> (try simp only [tests, reduceCtorEq] at hc) <;> (try exact Zf))) | refine G.endOps ?_ | refine G.endStill ?_ | refine G.endHeld ?_ | refine G.back ?_ | refine G.endBlk ?_ | (refine G.atGd ?_; first | refine G.guardYes rfl rfl ?_ | refine G.guardNoS rfl rfl rfl ?_ | refine G.guardU rfl rfl rfl ?_ | (refine G.guardS rfl rfl rfl ?_ ?_ <;> intro hc <;> (try simp only [tests, reduceCtorEq] at hc) <;> (try exact Zf)) | refine G.guardNo rfl rfl ?_ (by rintro i ⟨⟩; rfl) | (refine G.guard rfl rfl ?_ ?_ (by rintro i ⟨⟩; rfl) <;> intro hc <;> (try simp only [tests, reduceCtorEq] at hc) <;> (try exact Zf))) | (refine G.atBin ?_; first | (refine G.atEql ?_; first | refine G.op rfl rfl ?_ | refine G.eqStr0 rfl rfl rfl ?_ | refine G.eqStr rfl rfl rfl ?_ | refine G.eqPtr rfl rfl (tyy rfl) rfl ?_ | refine G.eqBool rfl rfl (tyy rfl) rfl ?_) | refine G.op rfl rfl ?_ ) | refine G.op rfl rfl ?_ | (refine G.atLen ?_; first | refine G.lenStr rfl (tyy rfl) rfl ?_ | refine G.lenSlice rfl (tyy rfl) rfl ?_ | refine G.lenRowB rfl (tyy rfl) Za rfl ?_ | refine G.lenRowS rfl (tyy rfl) Za rfl ?_ | refine G.lenRow rfl (tyy rfl) Za rfl ?_ | refine G.lenImmB rfl (tyy rfl) Zl rfl ?_ | refine G.lenImmI rfl (tyy rfl) Zl rfl ?_ | refine G.lenImmS rfl (tyy rfl) Zl rfl ?_ | refine G.lenImm rfl (tyy rfl) Zl rfl ?_) | (refine G.atBld ?_; refine G.build (tyy rfl) rfl rfl rfl ?_) | (refine G.atBsl ?_; refine G.buildSlice (tyy rfl) (tyy rfl) rfl rfl rfl rfl ?_; intro _) | (refine G.atApp ?_; first | (refine G.append1S rfl rfl (tyy rfl) (tyy rfl) rfl rfl Za Za rfl Zo ?_; intro _) | (refine G.appendImmS rfl rfl (tyy rfl) (tyy rfl) rfl rfl Za Zl rfl Zo ?_; intro _) | (refine G.append1B rfl rfl (tyy rfl) (tyy rfl) rfl rfl Za Za rfl Zo Zo ?_; intro _) | (refine G.appendStr rfl rfl (tyy rfl) (tyy rfl) (tyy rfl) rfl rfl Za rfl Zo ?_; intro _) | (refine G.append1 rfl rfl (tyy rfl) (tyy rfl) rfl rfl Za Za rfl rfl rfl Zo ?_; intro _; refine G.rowForm Take.hd ?_; rintro _ _ rfl)) | (refine G.atInd ?_; refine G.idxStr rfl rfl (tyy rfl) rfl Zj Zo ?_; intro _) | (refine G.atSlc ?_; first | refine G.dropStr rfl rfl (tyy rfl) rfl Zj Zo ?_ | refine G.takeStr rfl rfl (tyy rfl) rfl Zj Zo ?_ | refine G.sliceStr rfl rfl rfl (tyy rfl) rfl Zj Zj Zo rfl ?_))
      all_goals first | (exfalso; omega) | exact G.done2 rfl rfl rfl _ (SubH.nil _) ⟨rfl, rfl⟩
    | some y =>
      obtain ⟨v, r⟩ := y
      have hvl := (valM_len _ _ _ _ _ hv).1
      have hve := valM_endB _ _ _ _ _ (Nat.le_refl _) hv
      rw [hv] at hR
      have hsn := avaR_snoc now T v
      have hty' : TysOk (now ++ [(T, v)]) := tysOk_snoc hty (by simp only; omega)
      have hsl : (avaR (now ++ [(T, v)])).length = now.length + 1 := by rw [avaR_length]; simp
      repeat' (first | (show G _ (.ops .seq _ (⟨some _, .call { callee := .value (.func 25), args := _, argTypes := _ }, _, _, _, none⟩ :: _) :: _) _ _ _; refine G.call callCut rfl rfl (str_Cut q (by omega) 61 _) Ze ?_; rintro _ h2 H2 ⟨rfl, rfl⟩ hle2; rw [hcut]) | (show G _ (.ops .seq _ (⟨some _, .call { callee := .value (.func 13), args := _, argTypes := _ }, _, _, _, none⟩ :: _) :: _) _ _ _; refine G.call callType9 rfl rfl (dn_Type T _) Ze ?_; rintro _ h3 H3 ⟨rfl, rfl⟩ hle3; rw [ht]) | (show G _ (.ops .seq _ (⟨some _, .call { callee := .value (.func 26), args := _, argTypes := _ }, _, _, _, none⟩ :: _) :: _) _ _ _; refine G.call callHas rfl rfl (dn_has now hty nv T (by omega) [.row nv 51 2 (avaR now)] _ (.inr rfl)) Ze ?_; rintro _ h4 H4 ⟨rfl, rfl⟩ hle4; rw [hh]) | (show G _ (.ops .seq _ (⟨some _, .call { callee := .value (.func 27), args := _, argTypes := _ }, _, _, _, none⟩ :: _) :: _) _ _ _; refine G.call callValue rfl rfl (dn_value U (by omega) _) Ze ?_; rintro _ h5 H5 ⟨hvu, rfl⟩ hle5; (rw [hv] at hvu); (obtain rfl := hvu)) | (refine G.atCode ?_; first | refine G.seq ?_ | refine G.region ?_ | refine G.block ?_ | refine G.skip ?_ | refine G.exit rfl ?_ | refine G.ret ?_ | (refine G.cond rfl ?_ ?_ <;> intro hc <;> (try simp only [tests, reduceCtorEq] at hc) <;> (try exact Zf))) | refine G.endOps ?_ | refine G.endStill ?_ | refine G.endHeld ?_ | refine G.back ?_ | refine G.endBlk ?_ | (refine G.atGd ?_; first | refine G.guardYes rfl rfl ?_ | refine G.guardNoS rfl rfl rfl ?_ | refine G.guardU rfl rfl rfl ?_ | (refine G.guardS rfl rfl rfl ?_ ?_ <;> intro hc <;> (try simp only [tests, reduceCtorEq] at hc) <;> (try exact Zf)) | refine G.guardNo rfl rfl ?_ (by rintro i ⟨⟩; rfl) | (refine G.guard rfl rfl ?_ ?_ (by rintro i ⟨⟩; rfl) <;> intro hc <;> (try simp only [tests, reduceCtorEq] at hc) <;> (try exact Zf))) | (refine G.atBin ?_; first | (refine G.atEql ?_; first | refine G.op rfl rfl ?_ | refine G.eqStr0 rfl rfl rfl ?_ | refine G.eqStr rfl rfl rfl ?_ | refine G.eqPtr rfl rfl (tyy rfl) rfl ?_ | refine G.eqBool rfl rfl (tyy rfl) rfl ?_) | refine G.op rfl rfl ?_ ) | refine G.op rfl rfl ?_ | (refine G.atLen ?_; first | refine G.lenStr rfl (tyy rfl) rfl ?_ | refine G.lenSlice rfl (tyy rfl) rfl ?_ | refine G.lenRowB rfl (tyy rfl) Za rfl ?_ | refine G.lenRowS rfl (tyy rfl) Za rfl ?_ | refine G.lenRow rfl (tyy rfl) Za rfl ?_ | refine G.lenImmB rfl (tyy rfl) Zl rfl ?_ | refine G.lenImmI rfl (tyy rfl) Zl rfl ?_ | refine G.lenImmS rfl (tyy rfl) Zl rfl ?_ | refine G.lenImm rfl (tyy rfl) Zl rfl ?_) | (refine G.atBld ?_; refine G.build (tyy rfl) rfl rfl rfl ?_) | (refine G.atBsl ?_; refine G.buildSlice (tyy rfl) (tyy rfl) rfl rfl rfl rfl ?_; intro _) | (refine G.atApp ?_; first | (refine G.append1S rfl rfl (tyy rfl) (tyy rfl) rfl rfl Za Za rfl Zo ?_; intro _) | (refine G.appendImmS rfl rfl (tyy rfl) (tyy rfl) rfl rfl Za Zl rfl Zo ?_; intro _) | (refine G.append1B rfl rfl (tyy rfl) (tyy rfl) rfl rfl Za Za rfl Zo Zo ?_; intro _) | (refine G.appendStr rfl rfl (tyy rfl) (tyy rfl) (tyy rfl) rfl rfl Za rfl Zo ?_; intro _) | (refine G.append1 rfl rfl (tyy rfl) (tyy rfl) rfl rfl Za Za rfl rfl rfl Zo ?_; intro _; refine G.rowForm Take.hd ?_; rintro _ _ rfl)) | (refine G.atInd ?_; refine G.idxStr rfl rfl (tyy rfl) rfl Zj Zo ?_; intro _) | (refine G.atSlc ?_; first | refine G.dropStr rfl rfl (tyy rfl) rfl Zj Zo ?_ | refine G.takeStr rfl rfl (tyy rfl) rfl Zj Zo ?_ | refine G.sliceStr rfl rfl rfl (tyy rfl) rfl Zj Zj Zo rfl ?_))
      . obtain rfl : r = [] := List.eq_nil_of_length_eq_zero Zp
        simp only at hR
        subst hR
        refine G.freezeRow (Take.tl Take.hd) ?_
        intro h6 hle6 hs6
        refine G.freezeRow Take.hd ?_
        intro h7 hle7 hs7
        exact G.done2 rfl rfl rfl _ (SubH.nil _) ⟨⟨_, rfl, _, hs7, (hrows.mono (by solve | repeat first | assumption | exact Zr _ | refine Zq ?_ Zp)).append (RdnsC.one (r := now ++ [(T, v)]) (by rw [<- hsn]; exact hs6.mono hle7))⟩, rfl⟩
      . obtain ⟨c, r', rfl⟩ := List.exists_cons_of_length_pos (show 0 < r.length by omega)
        have hb0 : byteAt (c :: r') 0 = c.toNat := rfl
        simp only at hR
        rw [if_pos (by omega)] at hR
        simp only [List.length_cons] at hvl
        refine G.freezeRow (Take.tl Take.hd) ?_
        intro h6 hle6 hs6
        refine G.nilRow 51 2 ?_
        rw [show List.drop 1 (c :: r') = r' from rfl]
        exact G.again ⟨r', _, _, _, out ++ [now ++ [(T, v)]], []⟩ ⟨rfl, rfl, rfl, trivial⟩ Zu ⟨by simp only; omega, tysOk_nil, (hrows.mono (by solve | repeat first | assumption | exact Zr _ | refine Zq ?_ Zp)).append (RdnsC.one (r := now ++ [(T, v)]) (by rw [<- hsn]; exact hs6)), by rw [<- hR]; exact parM_two _ _ _ _ _ (by simp only; omega) (by simp only; omega), by simp only [List.length_append, List.length_cons, List.length_nil]; omega, by simp⟩ (by solve | repeat first | assumption | exact Zr _ | refine Zq ?_ Zp) (by simp only; omega)
      . obtain ⟨c, r', rfl⟩ := List.exists_cons_of_length_pos (show 0 < r.length by omega)
        have hb0 : byteAt (c :: r') 0 = c.toNat := rfl
        simp only at hR
        rw [if_neg (by omega)] at hR
        simp only [List.length_cons] at hvl
        rw [show List.drop 1 (c :: r') = r' from rfl]
        exact G.again ⟨r', ov, _, rows, out, now ++ [(T, v)]⟩ ⟨rfl, rfl, rfl, trivial⟩ (by simp only; rw [<- hsn]; exact Zu) ⟨by simp only; omega, hty', hrows.mono (by solve | repeat first | assumption | exact Zr _ | refine Zq ?_ Zp), by rw [<- hR]; exact parM_two _ _ _ _ _ (by simp only; omega) (by simp only; omega), by simp only; omega, by simp only [List.length_append, List.length_cons, List.length_nil]; omega⟩ (by solve | repeat first | assumption | exact Zr _ | refine Zq ?_ Zp) (by simp only; omega)
end Go.Proofs.Ytahpemfnhepgoaa
