/- Names: castellanref09.Parse. -/
import Derived.Test.YtieibicgankemaaDnE
namespace Go.Proofs.Ytieibicgankemaa
set_option linter.all false
set_option maxRecDepth 4000
open Go.RowKit

theorem scan_pos {s : List UInt8} {a e : Nat} (h1 : a ≤ e) (h2 : e ≤ s.length) (h3 : ∀ j, a ≤ j → j < e → byteAt s j ≠ 61) (h4 : e = s.length ∨ byteAt s e = 61) : posB 61 (s.drop a) = e - a := by
  have hne : ∀ j, j < e - a → (s.drop a)[j]? ≠ some 61 := fun j hj h => by
    rw [List.getElem?_drop] at h
    have h5 := h3 (a + j) (by omega) (by omega)
    have h6 := List.getElem?_eq_some_iff.1 h
    obtain ⟨h7, h8⟩ := h6
    rw [byteAt_eq h7, h8] at h5
    exact h5 rfl
  by_cases he : e < s.length
  · refine posB_at ?_ hne
    have h5 : byteAt s e = 61 := h4.resolve_left (by omega)
    rw [List.getElem?_drop, show a + (e - a) = e by omega, List.getElem?_eq_getElem he]
    rw [byteAt_eq he] at h5
    congr 1
    exact UInt8.toNat_inj.1 (by rw [h5]; rfl)
  · obtain rfl : e = s.length := by omega
    rw [posB_none]
    · rw [List.length_drop]
    · intro j hj
      rw [List.length_drop] at hj
      exact hne j hj
set_option maxRecDepth 8000 in
set_option maxHeartbeats 4000000 in
theorem ref09_Parse (s : List UInt8) (hs : s.length ≤ 10000000) (h : Heap) : Spec Try.prog 24 [str s] h [] (fun u h' H' => ParR h' (parseM s) u ∧ H' = []) := by
  by_cases hlong : s.length > 4096
  · have e : parseM s = .error 5 := by unfold parseM; rw [if_pos hlong]
    rw [e]
    refine Spec.enter Try.func24 rfl rfl ?_; intro w0
    repeat' (first | (refine G.atCode ?_; first | refine G.seq ?_ | refine G.region ?_ | refine G.ret ?_ | (refine G.cond rfl ?_ ?_ <;> intro hc <;> (try simp only [tests, reduceCtorEq] at hc) <;> (try (exfalso; first | omega | exact absurd hc (by with_reducible assumption) | exact absurd (by with_reducible assumption) hc | exact Bool.noConfusion hc | exact hc | exact hc trivial | fail)))) | refine G.endOps ?_ | (refine G.atBin ?_; first | refine G.op rfl rfl ?_) | refine G.op rfl rfl ?_ | (refine G.atLen ?_; first | refine G.lenStr rfl (tyy rfl) rfl ?_))
    all_goals exact G.done2 rfl rfl rfl _ (SubH.nil _) ⟨rfl, rfl⟩
  by_cases hnil : s.length = 0
  · have e : parseM s = .ok [] := by rw [List.eq_nil_of_length_eq_zero hnil]; rfl
    rw [e]
    refine Spec.enter Try.func24 rfl rfl ?_; intro w0
    repeat' (first | (refine G.atCode ?_; refine G.stopLoop ?_) | (refine G.atCode ?_; first | refine G.seq ?_ | refine G.region ?_ | refine G.block ?_ | refine G.skip ?_ | (refine G.cond rfl ?_ ?_ <;> intro hc <;> (try simp only [tests, reduceCtorEq] at hc) <;> (try (exfalso; first | omega | exact absurd hc (by with_reducible assumption) | exact absurd (by with_reducible assumption) hc | exact Bool.noConfusion hc | exact hc | exact hc trivial | fail)))) | refine G.endOps ?_ | (refine G.atBin ?_; first | refine G.op rfl rfl ?_) | refine G.op rfl rfl ?_ | (refine G.atLen ?_; first | refine G.lenStr rfl (tyy rfl) rfl ?_))
    refine G.go ?_
    refine G.loop (σ := Unit) (fun _ => [(0, str s)]) (fun _ => []) (fun _ _ => True) (fun _ => 0) () ⟨rfl, trivial⟩ (SubH.nil _) trivial ?_
    rintro _ h1 hle1 _
    repeat' (first | (refine G.atCode ?_; first | refine G.seq ?_ | refine G.region ?_ | refine G.exit rfl ?_ | refine G.ret ?_ | (refine G.cond rfl ?_ ?_ <;> intro hc <;> (try simp only [tests, reduceCtorEq] at hc) <;> (try (exfalso; first | omega | exact absurd hc (by with_reducible assumption) | exact absurd (by with_reducible assumption) hc | exact Bool.noConfusion hc | exact hc | exact hc trivial | fail)))) | refine G.endOps ?_ | (refine G.atBin ?_; first | refine G.op rfl rfl ?_) | refine G.op rfl rfl ?_ | (refine G.atLen ?_; first | refine G.lenStr rfl (tyy rfl) rfl ?_))
    all_goals first | (exfalso; omega) | exact G.done2 rfl rfl rfl _ (SubH.nil _) ⟨⟨_, rfl, DnC.nil _⟩, rfl⟩
  have e : parseM s = parM (s.length + 1) [] [] s := by unfold parseM; rw [if_neg hlong, if_neg (fun e => hnil (by rw [e]; rfl))]
  rw [e]
  clear e
  generalize hR0 : parM (s.length + 1) [] [] s = R
  refine Spec.enter Try.func24 rfl rfl ?_; intro w0
  repeat' (first | (refine G.atCode ?_; refine G.stopLoop ?_) | (refine G.atCode ?_; first | refine G.seq ?_ | refine G.region ?_ | refine G.block ?_ | refine G.skip ?_ | (refine G.cond rfl ?_ ?_ <;> intro hc <;> (try simp only [tests, reduceCtorEq] at hc) <;> (try (exfalso; first | omega | exact absurd hc (by with_reducible assumption) | exact absurd (by with_reducible assumption) hc | exact Bool.noConfusion hc | exact hc | exact hc trivial | fail)))) | refine G.endOps ?_ | (refine G.atBin ?_; first | refine G.op rfl rfl ?_) | refine G.op rfl rfl ?_ | (refine G.atLen ?_; first | refine G.lenStr rfl (tyy rfl) rfl ?_))
  refine G.nilRow 83 1 ?_
  refine G.go ?_
  refine G.loop (σ := Nat × Value × List (List Value) × Dn) (fun x => [(0, str s), (5, .int .i64 x.1), (4, x.2.1)])
    (fun x => [.row x.2.1 83 1 x.2.2.1])
    (fun x h1 => x.1 ≤ s.length ∧ RdnsC h1 x.2.2.2 x.2.2.1 ∧ parM ((s.drop x.1).length + 1) x.2.2.2 [] (s.drop x.1) = R ∧ x.2.2.2.length ≤ 32) (fun x => s.length - x.1) ⟨0, .slice none 0 0, [], []⟩ ⟨rfl, rfl, rfl, trivial⟩ (by solve | (apply Takes.sub; (repeat (first | apply Takes.nil | apply Take.hd | apply Take.tl | apply Takes.cons)))) ⟨Nat.zero_le _, rfl, hR0, Nat.zero_le _⟩ ?_
  rintro ⟨at0, ov, rows, out⟩ h1 hle1 ⟨hat0, hrows, hR, hol⟩
  simp only at hat0 hrows hR hol
  refine G.norm (by (try dsimp only) <;> exact rfl) (by (try dsimp only) <;> exact rfl) ?_
  have hrl := hrows.len
  by_cases hm : out.length = 32
  · rw [parM, if_pos (.inl hm)] at hR
    subst hR
    repeat' (first | (refine G.atCode ?_; first | refine G.seq ?_ | refine G.region ?_ | refine G.block ?_ | refine G.skip ?_ | refine G.ret ?_ | (refine G.cond rfl ?_ ?_ <;> intro hc <;> (try simp only [tests, reduceCtorEq] at hc) <;> (try (exfalso; first | omega | exact absurd hc (by with_reducible assumption) | exact absurd (by with_reducible assumption) hc | exact Bool.noConfusion hc | exact hc | exact hc trivial | fail)))) | refine G.endOps ?_ | (refine G.atBin ?_; first | (refine G.atEql ?_; first | refine G.op rfl rfl ?_) | refine G.op rfl rfl ?_) | refine G.op rfl rfl ?_ | (refine G.atLen ?_; first | refine G.lenStr rfl (tyy rfl) rfl ?_ | refine G.lenRow rfl (tyy rfl) (by solve | (repeat (first | apply Take.hd | apply Take.tl))) rfl ?_))
    all_goals first | (exfalso; omega) | exact G.done2 rfl rfl rfl _ (SubH.nil _) ⟨rfl, rfl⟩
  repeat' (first | (refine G.atCode ?_; refine G.stopLoop ?_) | (refine G.atCode ?_; first | refine G.seq ?_ | refine G.region ?_ | refine G.block ?_ | refine G.skip ?_ | (refine G.cond rfl ?_ ?_ <;> intro hc <;> (try simp only [tests, reduceCtorEq] at hc) <;> (try (exfalso; first | omega | exact absurd hc (by with_reducible assumption) | exact absurd (by with_reducible assumption) hc | exact Bool.noConfusion hc | exact hc | exact hc trivial | fail)))) | refine G.endOps ?_ | (refine G.atBin ?_; first | (refine G.atEql ?_; first | refine G.op rfl rfl ?_) | refine G.op rfl rfl ?_) | refine G.op rfl rfl ?_ | (refine G.atLen ?_; first | refine G.lenStr rfl (tyy rfl) rfl ?_ | refine G.lenRow rfl (tyy rfl) (by solve | (repeat (first | apply Take.hd | apply Take.tl))) rfl ?_))
  refine G.nilRow 81 2 ?_
  refine G.go ?_
  refine G.loop (σ := Nat × Value × Rdn) (fun x => [(0, str s), (5, .int .i64 x.1), (4, ov), (6, x.2.1)])
    (fun x => [.row ov 83 1 rows, .row x.2.1 81 2 (avaR x.2.2)])
    (fun x _ => at0 ≤ x.1 ∧ x.1 ≤ s.length ∧ TysOk x.2.2 ∧ parM ((s.drop x.1).length + 1) out x.2.2 (s.drop x.1) = R ∧ x.2.2.length ≤ 8) (fun x => s.length - x.1) ⟨at0, .slice none 0 0, []⟩ ⟨rfl, rfl, rfl, rfl, trivial⟩ (by solve | (apply Takes.sub; (repeat (first | apply Takes.nil | apply Take.hd | apply Take.tl | apply Takes.cons)))) ⟨Nat.le_refl _, hat0, tysOk_nil, hR, Nat.zero_le _⟩ ?_
  clear hR
  rintro ⟨a, nv, now⟩ h2 hle2 ⟨ha0, ha, hty, hR, hnl⟩
  simp only at ha0 ha hty hR hnl
  refine G.norm (by (try dsimp only) <;> exact rfl) (by (try dsimp only) <;> exact rfl) ?_
  have hal := avaR_length now
  rw [parM] at hR
  by_cases hm2 : now.length = 8
  · rw [if_pos (.inr hm2)] at hR
    subst hR
    repeat' (first | (refine G.atCode ?_; first | refine G.seq ?_ | refine G.region ?_ | refine G.block ?_ | refine G.ret ?_ | (refine G.cond rfl ?_ ?_ <;> intro hc <;> (try simp only [tests, reduceCtorEq] at hc) <;> (try (exfalso; first | omega | exact absurd hc (by with_reducible assumption) | exact absurd (by with_reducible assumption) hc | exact Bool.noConfusion hc | exact hc | exact hc trivial | fail)))) | refine G.endOps ?_ | (refine G.atBin ?_; first | (refine G.atEql ?_; first | refine G.op rfl rfl ?_)) | refine G.op rfl rfl ?_ | (refine G.atLen ?_; first | refine G.lenRow rfl (tyy rfl) (by solve | (repeat (first | apply Take.hd | apply Take.tl))) rfl ?_))
    all_goals first | (exfalso; omega) | exact G.done2 rfl rfl rfl _ (SubH.nil _) ⟨rfl, rfl⟩
  rw [if_neg (by omega)] at hR
  repeat' (first | (refine G.atCode ?_; refine G.stopLoop ?_) | (refine G.atCode ?_; first | refine G.seq ?_ | refine G.region ?_ | refine G.block ?_ | refine G.skip ?_ | (refine G.cond rfl ?_ ?_ <;> intro hc <;> (try simp only [tests, reduceCtorEq] at hc) <;> (try (exfalso; first | omega | exact absurd hc (by with_reducible assumption) | exact absurd (by with_reducible assumption) hc | exact Bool.noConfusion hc | exact hc | exact hc trivial | fail)))) | refine G.endOps ?_ | (refine G.atBin ?_; first | (refine G.atEql ?_; first | refine G.op rfl rfl ?_)) | refine G.op rfl rfl ?_ | (refine G.atLen ?_; first | refine G.lenRow rfl (tyy rfl) (by solve | (repeat (first | apply Take.hd | apply Take.tl))) rfl ?_))
  refine G.go ?_
  refine G.loop (σ := Nat) (fun e => [(0, str s), (5, .int .i64 a), (4, ov), (6, nv), (7, .int .i64 e)])
    (fun _ => [.row ov 83 1 rows, .row nv 81 2 (avaR now)])
    (fun e _ => a ≤ e ∧ e ≤ s.length ∧ ∀ j, a ≤ j → j < e → byteAt s j ≠ 61) (fun e => s.length - e) a ⟨rfl, rfl, rfl, rfl, rfl, trivial⟩ (by solve | (apply Takes.sub; (repeat (first | apply Takes.nil | apply Take.hd | apply Take.tl | apply Takes.cons)))) ⟨Nat.le_refl _, ha, fun j h1 h2 => absurd h2 (by omega)⟩ ?_
  rintro e h3 hle3 ⟨he1, he2, he3⟩
  by_cases hgo : e < s.length ∧ byteAt s e ≠ 61
  · repeat' (first | (refine G.atCode ?_; first | refine G.seq ?_ | refine G.region ?_ | refine G.block ?_ | refine G.skip ?_ | (refine G.cond rfl ?_ ?_ <;> intro hc <;> (try simp only [tests, reduceCtorEq] at hc) <;> (try (exfalso; first | omega | exact absurd hc (by with_reducible assumption) | exact absurd (by with_reducible assumption) hc | exact Bool.noConfusion hc | exact hc | exact hc trivial | fail)))) | refine G.endOps ?_ | refine G.endBlk ?_ | (refine G.atGd ?_; first | refine G.guardYes rfl rfl ?_ | (refine G.guardS rfl rfl rfl ?_ ?_ <;> intro hc <;> (try simp only [tests, reduceCtorEq] at hc) <;> (try (exfalso; first | omega | exact absurd hc (by with_reducible assumption) | exact absurd (by with_reducible assumption) hc | exact Bool.noConfusion hc | exact hc | exact hc trivial | fail)))) | (refine G.atBin ?_; first | (refine G.atAdd ?_; first | refine G.arith rfl rfl rfl rfl rfl (by simp only [inR]; omega) ?_) | (refine G.atNeq ?_; first | refine G.op rfl rfl ?_) | refine G.op rfl rfl ?_) | refine G.op rfl rfl ?_ | (refine G.atLen ?_; first | refine G.lenStr rfl (tyy rfl) rfl ?_) | (refine G.atInd ?_; refine G.idxStr rfl rfl (tyy rfl) rfl (by first | (simp only [Int.reduceToNat]; rfl) | with_reducible apply Int.toNat_natCast | exact Eq.refl _) (by first | omega | (simp only [lens] at *; omega)) ?_; intro _))
    all_goals first | (exfalso; omega) | exact G.again (e + 1) ⟨rfl, rfl, rfl, rfl, sint (by omega), trivial⟩ (by solve | (apply Takes.sub; (repeat (first | apply Takes.nil | apply Take.hd | apply Take.tl | apply Takes.cons)))) ⟨by omega, by omega, fun j h1 h2 => if hj : j < e then he3 j h1 hj else (show e = j by omega) ▸ hgo.2⟩ (by solve | (repeat (first | assumption | exact Heap.le_refl _ | (refine Heap.le_trans ?_ (by assumption))))) (by omega)
  have hsp := scan_pos he1 he2 he3 (by omega)
  rw [hsp] at hR
  have hTl : ((s.drop a).take (e - a)).length = e - a := by rw [List.length_take, List.length_drop]; omega
  have hTf : List.take (((e : Nat) : Int).toNat - ((a : Nat) : Int).toNat) (List.drop ((a : Nat) : Int).toNat s) = (s.drop a).take (e - a) := by rw [Int.toNat_natCast, Int.toNat_natCast]
  have hUe : (s.drop a).drop (e - a + 1) = s.drop (e + 1) := by rw [List.drop_drop]; congr 1; omega
  rw [hUe] at hR
  have hql : (s.drop a).length = s.length - a := List.length_drop
  rw [hql] at hR
  generalize hT : (s.drop a).take (e - a) = T at *
  by_cases hf : e = s.length ∨ typeM T = false
  · rw [if_pos (by rcases hf with h | h; exact .inl (by omega); exact .inr h)] at hR
    subst hR
    cases ht : typeM T with
    | true =>
      have hf : e = s.length := hf.resolve_right (by rw [ht]; simp)
      repeat' (first | (refine G.atCode ?_; first | refine G.seq ?_ | refine G.region ?_ | refine G.exit rfl ?_ | refine G.ret ?_ | (refine G.cond rfl ?_ ?_ <;> intro hc <;> (try simp only [tests, reduceCtorEq] at hc) <;> (try (exfalso; first | omega | exact absurd hc (by with_reducible assumption) | exact absurd (by with_reducible assumption) hc | exact Bool.noConfusion hc | exact hc | exact hc trivial | fail)))) | refine G.endOps ?_ | (refine G.atGd ?_; first | refine G.guardNoS rfl rfl rfl ?_ | (refine G.guardS rfl rfl rfl ?_ ?_ <;> intro hc <;> (try simp only [tests, reduceCtorEq] at hc) <;> (try (exfalso; first | omega | exact absurd hc (by with_reducible assumption) | exact absurd (by with_reducible assumption) hc | exact Bool.noConfusion hc | exact hc | exact hc trivial | fail)))) | (refine G.atBin ?_; first | (refine G.atEql ?_; first | refine G.op rfl rfl ?_) | refine G.op rfl rfl ?_) | refine G.op rfl rfl ?_ | (refine G.atLen ?_; first | refine G.lenStr rfl (tyy rfl) rfl ?_))
      all_goals first | (exfalso; omega) | exact G.done2 rfl rfl rfl _ (SubH.nil _) ⟨rfl, rfl⟩
    | false =>
      repeat' (first | (show G _ (.ops .seq _ (⟨some _, .call { callee := .value (.func 41), args := _, argTypes := _ }, _, _, _, none⟩ :: _) :: _) _ _ _; rw [hT]; refine G.call callRType9 rfl rfl (ref09_Type T (by omega) _) (by solve | (repeat (first | apply Takes.nil | apply Take.hd | apply Take.tl | apply Takes.cons))) ?_; rintro _ h4 H4 ⟨rfl, rfl⟩ hle4; rw [ht]) | (refine G.atCode ?_; first | refine G.seq ?_ | refine G.region ?_ | refine G.exit rfl ?_ | refine G.ret ?_ | (refine G.cond rfl ?_ ?_ <;> intro hc <;> (try simp only [tests, reduceCtorEq] at hc) <;> (try (exfalso; first | omega | exact absurd hc (by with_reducible assumption) | exact absurd (by with_reducible assumption) hc | exact Bool.noConfusion hc | exact hc | exact hc trivial | fail)))) | refine G.endOps ?_ | (refine G.atGd ?_; first | refine G.guardYes rfl rfl ?_ | refine G.guardNoS rfl rfl rfl ?_ | (refine G.guardS rfl rfl rfl ?_ ?_ <;> intro hc <;> (try simp only [tests, reduceCtorEq] at hc) <;> (try (exfalso; first | omega | exact absurd hc (by with_reducible assumption) | exact absurd (by with_reducible assumption) hc | exact Bool.noConfusion hc | exact hc | exact hc trivial | fail)))) | (refine G.atBin ?_; first | (refine G.atEql ?_; first | refine G.op rfl rfl ?_) | (refine G.atNeq ?_; first | refine G.op rfl rfl ?_) | refine G.op rfl rfl ?_) | refine G.op rfl rfl ?_ | (refine G.atLen ?_; first | refine G.lenStr rfl (tyy rfl) rfl ?_) | (refine G.atInd ?_; refine G.idxStr rfl rfl (tyy rfl) rfl (by first | (simp only [Int.reduceToNat]; rfl) | with_reducible apply Int.toNat_natCast | exact Eq.refl _) (by first | omega | (simp only [lens] at *; omega)) ?_; intro _) | (refine G.atSlc ?_; first | refine G.sliceStr rfl rfl rfl (tyy rfl) rfl (by first | (simp only [Int.reduceToNat]; rfl) | with_reducible apply Int.toNat_natCast | exact Eq.refl _) (by first | (simp only [Int.reduceToNat]; rfl) | with_reducible apply Int.toNat_natCast | exact Eq.refl _) (by first | omega | (simp only [lens] at *; omega)) rfl ?_))
      all_goals first | (exfalso; omega) | exact G.done2 rfl rfl rfl _ (SubH.nil _) ⟨rfl, rfl⟩
  rw [if_neg (by rintro (h | h); exact hf (.inl (by omega)); exact hf (.inr h))] at hR
  have hel : e < s.length := by have : ¬ e = s.length := fun h => hf (.inl h); omega
  have ht : typeM T = true := by cases h9 : typeM T with
    | true => rfl
    | false => exact absurd (.inr h9) hf
  cases hh : hasM now T with
  | true =>
    rw [hh, if_pos rfl] at hR
    subst hR
    repeat' (first | (show G _ (.ops .seq _ (⟨some _, .call { callee := .value (.func 41), args := _, argTypes := _ }, _, _, _, none⟩ :: _) :: _) _ _ _; rw [hT]; refine G.call callRType9 rfl rfl (ref09_Type T (by omega) _) (by solve | (repeat (first | apply Takes.nil | apply Take.hd | apply Take.tl | apply Takes.cons))) ?_; rintro _ h4 H4 ⟨rfl, rfl⟩ hle4; rw [ht]) | (show G _ (.ops .seq _ (⟨some _, .call { callee := .value (.func 42), args := _, argTypes := _ }, _, _, _, none⟩ :: _) :: _) _ _ _; rw [hT]; refine G.call callRHas rfl rfl (ref09_has now hty nv T (by omega) [.row nv 81 2 (avaR now)] _ (.inr rfl)) (by solve | (repeat (first | apply Takes.nil | apply Take.hd | apply Take.tl | apply Takes.cons))) ?_; rintro _ h5 H5 ⟨rfl, rfl⟩ hle5; rw [hh]) | (refine G.atCode ?_; first | refine G.seq ?_ | refine G.region ?_ | refine G.skip ?_ | refine G.exit rfl ?_ | refine G.ret ?_ | (refine G.cond rfl ?_ ?_ <;> intro hc <;> (try simp only [tests, reduceCtorEq] at hc) <;> (try (exfalso; first | omega | exact absurd hc (by with_reducible assumption) | exact absurd (by with_reducible assumption) hc | exact Bool.noConfusion hc | exact hc | exact hc trivial | fail)))) | refine G.endOps ?_ | (refine G.atGd ?_; first | refine G.guardYes rfl rfl ?_ | (refine G.guardS rfl rfl rfl ?_ ?_ <;> intro hc <;> (try simp only [tests, reduceCtorEq] at hc) <;> (try (exfalso; first | omega | exact absurd hc (by with_reducible assumption) | exact absurd (by with_reducible assumption) hc | exact Bool.noConfusion hc | exact hc | exact hc trivial | fail)))) | (refine G.atBin ?_; first | (refine G.atEql ?_; first | refine G.op rfl rfl ?_) | (refine G.atNeq ?_; first | refine G.op rfl rfl ?_) | refine G.op rfl rfl ?_) | refine G.op rfl rfl ?_ | (refine G.atLen ?_; first | refine G.lenStr rfl (tyy rfl) rfl ?_) | (refine G.atLoad ?_; first | refine G.loadOwn1 rfl (tyy rfl) rfl rfl (by solve | (repeat (first | apply Take.hd | apply Take.tl))) rfl rfl ?_) | (refine G.atFld ?_; first | refine G.fieldAddr rfl (tyy rfl) rfl rfl ?_) | (refine G.atSto ?_; refine G.storeOwn rfl rfl (tyy rfl) (by solve | (repeat (first | apply Take.hd | apply Take.tl))) rfl rfl rfl rfl ?_) | (refine G.atAlc ?_; refine G.alloc (tyy rfl) rfl rfl ?_; intro _) | (refine G.atBld ?_; refine G.build (tyy rfl) rfl rfl rfl ?_) | (refine G.atInd ?_; refine G.idxStr rfl rfl (tyy rfl) rfl (by first | (simp only [Int.reduceToNat]; rfl) | with_reducible apply Int.toNat_natCast | exact Eq.refl _) (by first | omega | (simp only [lens] at *; omega)) ?_; intro _) | (refine G.atSlc ?_; first | refine G.sliceStr rfl rfl rfl (tyy rfl) rfl (by first | (simp only [Int.reduceToNat]; rfl) | with_reducible apply Int.toNat_natCast | exact Eq.refl _) (by first | (simp only [Int.reduceToNat]; rfl) | with_reducible apply Int.toNat_natCast | exact Eq.refl _) (by first | omega | (simp only [lens] at *; omega)) rfl ?_))
    all_goals first | (exfalso; omega) | exact G.done2 rfl rfl rfl _ (SubH.nil _) ⟨rfl, rfl⟩
  | false =>
    rw [hh, if_neg (by simp)] at hR
    cases hv : valM (s.drop (e + 1)).length true (s.drop (e + 1)) with
    | none =>
      rw [hv] at hR
      simp only at hR
      subst hR
      repeat' (first | (show G _ (.ops .seq _ (⟨some _, .call { callee := .value (.func 41), args := _, argTypes := _ }, _, _, _, none⟩ :: _) :: _) _ _ _; rw [hT]; refine G.call callRType9 rfl rfl (ref09_Type T (by omega) _) (by solve | (repeat (first | apply Takes.nil | apply Take.hd | apply Take.tl | apply Takes.cons))) ?_; rintro _ h4 H4 ⟨rfl, rfl⟩ hle4; rw [ht]) | (show G _ (.ops .seq _ (⟨some _, .call { callee := .value (.func 42), args := _, argTypes := _ }, _, _, _, none⟩ :: _) :: _) _ _ _; rw [hT]; refine G.call callRHas rfl rfl (ref09_has now hty nv T (by omega) [.row nv 81 2 (avaR now)] _ (.inr rfl)) (by solve | (repeat (first | apply Takes.nil | apply Take.hd | apply Take.tl | apply Takes.cons))) ?_; rintro _ h5 H5 ⟨rfl, rfl⟩ hle5; rw [hh]) | (show G _ (.ops .seq _ (⟨some _, .call { callee := .value (.func 44), args := _, argTypes := _ }, _, _, _, none⟩ :: _) :: _) _ _ _; refine G.call callRValue rfl rfl (ref09_value s hs (e + 1) (by omega) _) (by solve | (repeat (first | apply Takes.nil | apply Take.hd | apply Take.tl | apply Takes.cons))) ?_; rintro _ h6 H6 ⟨hvu, rfl⟩ hle6; (rw [hv] at hvu); (obtain ⟨x1, x2, rfl⟩ := hvu)) | (refine G.atCode ?_; first | refine G.seq ?_ | refine G.region ?_ | refine G.skip ?_ | refine G.exit rfl ?_ | refine G.ret ?_ | (refine G.cond rfl ?_ ?_ <;> intro hc <;> (try simp only [tests, reduceCtorEq] at hc) <;> (try (exfalso; first | omega | exact absurd hc (by with_reducible assumption) | exact absurd (by with_reducible assumption) hc | exact Bool.noConfusion hc | exact hc | exact hc trivial | fail)))) | refine G.endOps ?_ | (refine G.atGd ?_; first | refine G.guardYes rfl rfl ?_ | (refine G.guardS rfl rfl rfl ?_ ?_ <;> intro hc <;> (try simp only [tests, reduceCtorEq] at hc) <;> (try (exfalso; first | omega | exact absurd hc (by with_reducible assumption) | exact absurd (by with_reducible assumption) hc | exact Bool.noConfusion hc | exact hc | exact hc trivial | fail)))) | (refine G.atBin ?_; first | (refine G.atAdd ?_; first | refine G.arith rfl rfl rfl rfl rfl (by simp only [inR]; omega) ?_) | (refine G.atEql ?_; first | refine G.op rfl rfl ?_) | (refine G.atNeq ?_; first | refine G.op rfl rfl ?_) | refine G.op rfl rfl ?_) | refine G.op rfl rfl ?_ | (refine G.atLen ?_; first | refine G.lenStr rfl (tyy rfl) rfl ?_) | (refine G.atLoad ?_; first | refine G.loadOwn1 rfl (tyy rfl) rfl rfl (by solve | (repeat (first | apply Take.hd | apply Take.tl))) rfl rfl ?_) | (refine G.atFld ?_; first | refine G.fieldAddr rfl (tyy rfl) rfl rfl ?_) | (refine G.atSto ?_; refine G.storeOwn rfl rfl (tyy rfl) (by solve | (repeat (first | apply Take.hd | apply Take.tl))) rfl rfl rfl rfl ?_) | (refine G.atAlc ?_; refine G.alloc (tyy rfl) rfl rfl ?_; intro _) | (refine G.atBld ?_; refine G.build (tyy rfl) rfl rfl rfl ?_) | (refine G.atInd ?_; refine G.idxStr rfl rfl (tyy rfl) rfl (by first | (simp only [Int.reduceToNat]; rfl) | with_reducible apply Int.toNat_natCast | exact Eq.refl _) (by first | omega | (simp only [lens] at *; omega)) ?_; intro _) | (refine G.atSlc ?_; first | refine G.sliceStr rfl rfl rfl (tyy rfl) rfl (by first | (simp only [Int.reduceToNat]; rfl) | with_reducible apply Int.toNat_natCast | exact Eq.refl _) (by first | (simp only [Int.reduceToNat]; rfl) | with_reducible apply Int.toNat_natCast | exact Eq.refl _) (by first | omega | (simp only [lens] at *; omega)) rfl ?_))
      all_goals first | (exfalso; omega) | exact G.done2 rfl rfl rfl _ (SubH.nil _) ⟨rfl, rfl⟩
    | some y =>
      obtain ⟨v, r⟩ := y
      have hve := valM_endB _ _ _ _ _ (Nat.le_refl _) hv
      rw [hv] at hR
      have hsn := avaR_snoc now T v
      have hty' : TysOk (now ++ [(T, v)]) := tysOk_snoc hty (by simp only; omega)
      have hsl : (avaR (now ++ [(T, v)])).length = now.length + 1 := by rw [avaR_length]; simp
      repeat' (first | (show G _ (.ops .seq _ (⟨some _, .call { callee := .value (.func 41), args := _, argTypes := _ }, _, _, _, none⟩ :: _) :: _) _ _ _; rw [hT]; refine G.call callRType9 rfl rfl (ref09_Type T (by omega) _) (by solve | (repeat (first | apply Takes.nil | apply Take.hd | apply Take.tl | apply Takes.cons))) ?_; rintro _ h4 H4 ⟨rfl, rfl⟩ hle4; rw [ht]) | (show G _ (.ops .seq _ (⟨some _, .call { callee := .value (.func 42), args := _, argTypes := _ }, _, _, _, none⟩ :: _) :: _) _ _ _; rw [hT]; refine G.call callRHas rfl rfl (ref09_has now hty nv T (by omega) [.row nv 81 2 (avaR now)] _ (.inr rfl)) (by solve | (repeat (first | apply Takes.nil | apply Take.hd | apply Take.tl | apply Takes.cons))) ?_; rintro _ h5 H5 ⟨rfl, rfl⟩ hle5; rw [hh]) | (show G _ (.ops .seq _ (⟨some _, .call { callee := .value (.func 44), args := _, argTypes := _ }, _, _, _, none⟩ :: _) :: _) _ _ _; refine G.call callRValue rfl rfl (ref09_value s hs (e + 1) (by omega) _) (by solve | (repeat (first | apply Takes.nil | apply Take.hd | apply Take.tl | apply Takes.cons))) ?_; rintro _ h6 H6 ⟨hvu, rfl⟩ hle6; (rw [hv] at hvu); (obtain ⟨e2, rfl, hre, hee1, hee2⟩ := hvu)) | (refine G.atCode ?_; first | refine G.seq ?_ | refine G.region ?_ | refine G.skip ?_ | refine G.exit rfl ?_ | refine G.ret ?_ | (refine G.cond rfl ?_ ?_ <;> intro hc <;> (try simp only [tests, reduceCtorEq] at hc) <;> (try (exfalso; first | omega | exact absurd hc (by with_reducible assumption) | exact absurd (by with_reducible assumption) hc | exact Bool.noConfusion hc | exact hc | exact hc trivial | fail)))) | refine G.endOps ?_ | refine G.endBlk ?_ | (refine G.atGd ?_; first | refine G.guardYes rfl rfl ?_ | refine G.guardNoS rfl rfl rfl ?_ | (refine G.guardS rfl rfl rfl ?_ ?_ <;> intro hc <;> (try simp only [tests, reduceCtorEq] at hc) <;> (try (exfalso; first | omega | exact absurd hc (by with_reducible assumption) | exact absurd (by with_reducible assumption) hc | exact Bool.noConfusion hc | exact hc | exact hc trivial | fail)))) | (refine G.atBin ?_; first | (refine G.atAdd ?_; first | refine G.arith rfl rfl rfl rfl rfl (by simp only [inR]; omega) ?_) | (refine G.atEql ?_; first | refine G.op rfl rfl ?_) | (refine G.atNeq ?_; first | refine G.op rfl rfl ?_) | refine G.op rfl rfl ?_) | refine G.op rfl rfl ?_ | (refine G.atLen ?_; first | refine G.lenStr rfl (tyy rfl) rfl ?_) | (refine G.atLoad ?_; first | refine G.loadOwn1 rfl (tyy rfl) rfl rfl (by solve | (repeat (first | apply Take.hd | apply Take.tl))) rfl rfl ?_ | refine G.loadOwnA rfl (tyy rfl) rfl rfl (by solve | (repeat (first | apply Take.hd | apply Take.tl))) rfl rfl ?_) | (refine G.atFld ?_; first | refine G.fieldAddr rfl (tyy rfl) rfl rfl ?_) | (refine G.atSto ?_; refine G.storeOwn rfl rfl (tyy rfl) (by solve | (repeat (first | apply Take.hd | apply Take.tl))) rfl rfl rfl rfl ?_) | (refine G.atAlc ?_; refine G.alloc (tyy rfl) rfl rfl ?_; intro _) | (refine G.atBld ?_; refine G.build (tyy rfl) rfl rfl rfl ?_) | (refine G.atBsl ?_; refine G.buildSlice (tyy rfl) (tyy rfl) rfl rfl rfl rfl ?_; intro _) | (refine G.atApp ?_; first | (refine G.append1 rfl rfl (tyy rfl) (tyy rfl) rfl rfl (by solve | (repeat (first | apply Take.hd | apply Take.tl))) (by solve | (repeat (first | apply Take.hd | apply Take.tl))) rfl rfl rfl (by first | omega | (simp only [lens] at *; omega)) ?_; intro _; refine G.rowForm Take.hd ?_; rintro _ _ rfl)) | (refine G.atInd ?_; refine G.idxStr rfl rfl (tyy rfl) rfl (by first | (simp only [Int.reduceToNat]; rfl) | with_reducible apply Int.toNat_natCast | exact Eq.refl _) (by first | omega | (simp only [lens] at *; omega)) ?_; intro _) | (refine G.atSlc ?_; first | refine G.sliceStr rfl rfl rfl (tyy rfl) rfl (by first | (simp only [Int.reduceToNat]; rfl) | with_reducible apply Int.toNat_natCast | exact Eq.refl _) (by first | (simp only [Int.reduceToNat]; rfl) | with_reducible apply Int.toNat_natCast | exact Eq.refl _) (by first | omega | (simp only [lens] at *; omega)) rfl ?_))
      · have hx2 : e2 < s.length := by omega
        rw [List.drop_eq_getElem_cons hx2] at hre
        subst hre
        simp only at hR
        rw [if_pos (by rw [← byteAt_eq hx2]; omega)] at hR
        refine G.freezeRow (Take.tl Take.hd) ?_
        intro h7 hle7 hs7
        exact G.again ⟨e2 + 1, _, _, out ++ [now ++ [(T, v)]]⟩ ⟨rfl, sint (by omega), rfl, trivial⟩ (by solve | (apply Takes.sub; (repeat (first | apply Takes.nil | apply Take.hd | apply Take.tl | apply Takes.cons)))) ⟨by simp only; omega, (hrows.mono (by solve | (repeat (first | assumption | exact Heap.le_refl _ | (refine Heap.le_trans ?_ (by assumption)))))).append (RdnsC.one (r := now ++ [(T, v)]) (by rw [← hsn]; exact hs7)), by rw [← hR]; exact parM_two _ _ _ _ _ (by simp only [List.length_drop]; omega) (by simp only [List.length_drop]; omega), by simp only [List.length_append, List.length_cons, List.length_nil]; omega⟩ (by solve | (repeat (first | assumption | exact Heap.le_refl _ | (refine Heap.le_trans ?_ (by assumption))))) (by simp only; omega)
      · have hx2 : e2 < s.length := by omega
        rw [List.drop_eq_getElem_cons hx2] at hre
        subst hre
        simp only at hR
        rw [if_neg (by rw [← byteAt_eq hx2]; omega)] at hR
        exact G.again ⟨e2 + 1, _, now ++ [(T, v)]⟩ ⟨rfl, sint (by omega), rfl, rfl, trivial⟩ (by simp only; rw [← hsn]; exact (by solve | (apply Takes.sub; (repeat (first | apply Takes.nil | apply Take.hd | apply Take.tl | apply Takes.cons))))) ⟨by simp only; omega, by simp only; omega, hty', by rw [← hR]; exact parM_two _ _ _ _ _ (by simp only [List.length_drop]; omega) (by simp only [List.length_drop]; omega), by simp only [List.length_append, List.length_cons, List.length_nil]; omega⟩ (by solve | (repeat (first | assumption | exact Heap.le_refl _ | (refine Heap.le_trans ?_ (by assumption))))) (by simp only; omega)
      · rw [List.drop_eq_nil_of_le (by omega)] at hre
        subst hre
        simp only at hR
        subst hR
        refine G.freezeRow (Take.tl Take.hd) ?_
        intro h7 hle7 hs7
        refine G.freezeRow Take.hd ?_
        intro h8 hle8 hs8
        exact G.done2 rfl rfl rfl _ (SubH.nil _) ⟨⟨_, rfl, _, hs8, (hrows.mono (by solve | (repeat (first | assumption | exact Heap.le_refl _ | (refine Heap.le_trans ?_ (by assumption)))))).append (RdnsC.one (r := now ++ [(T, v)]) (by rw [← hsn]; exact hs7.mono hle8))⟩, rfl⟩
end Go.Proofs.Ytieibicgankemaa
