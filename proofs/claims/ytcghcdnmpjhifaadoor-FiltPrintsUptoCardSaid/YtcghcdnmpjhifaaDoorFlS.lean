/- strings.Count, Index, genSplit, Split at one byte. -/
import Derived.Test.YtcghcdnmpjhifaaDoorFlA
namespace Go.Proofs.YtcghcdnmpjhifaaDoor
set_option linter.all false
set_option maxRecDepth 4000
open Go.RowKit

theorem G.doneRow {E : Env} {f : Fr} {h : Heap} {H Hr : List Chunk} {t e sz : Nat} {v : Value} {rows : List (List Value)} (hr : E.fn.results = #[.tmp t]) (hg : Fr.get f t = some v) (ht : Take (.row v e sz rows) H Hr) (hR : E.R v h [.row v e sz rows]) : G E [] f h H :=
  G.done1 hr hg _ (Takes.sub (.cons ht .nil)) hR
theorem str_Count (s : List UInt8) (c : UInt8) (h : Heap) : Spec Tryd.prog 66 [str s, str [c]] h [] (fun u _ H' => u = .int .i64 (s.count c : Nat) /\ H' = []) := by
  refine ⟨fun w hw => ?_⟩
  refine (Any.strings_Count_one laysCount ⟨s.toArray⟩ c w).mono ?_
  rintro e w' ⟨rfl, rfl⟩
  exact ⟨_, h, [], rfl, ⟨rfl, rfl⟩, hw.start⟩
theorem str_Index (s : List UInt8) (c : UInt8) (h : Heap) : Spec Tryd.prog 67 [str s, str [c]] h [] (fun u _ H' => u = .int .i64 (if posB c s < s.length then (posB c s : Int) else -1) /\ H' = []) := by
  refine Spec.enter Tryd.func67 rfl rfl ?_; intro w0
  repeat' (first | (show G _ (.ops .seq _ (⟨some _, .call { callee := .value (.func 64), args := _, argTypes := _ }, _, _, _, none⟩ :: _) :: _) _ _ _; refine G.call callSlIdx rfl rfl (str_Index1 s c _) Ze ?_; rintro _ h2 H2 ⟨rfl, rfl⟩ hle2) | (refine G.atCode ?_; first | refine G.seq ?_ | refine G.region ?_ | refine G.ret ?_) | refine G.endOps ?_ | refine G.op rfl rfl ?_)
  exact G.done1 rfl rfl _ (SubH.nil _) ⟨rfl, rfl⟩
def splS (c : UInt8) : List UInt8 -> List (List UInt8)
  | [] => [[]]
  | b :: l => if b = c then [] :: splS c l else match splS c l with
    | [] => [[b]]
    | x :: xs => (b :: x) :: xs
theorem splS_ne (c : UInt8) : ∀ s, splS c s ≠ []
  | [] => by simp [splS]
  | b :: l => by
    unfold splS
    split
    . simp
    . split <;> simp
theorem splS_len (c : UInt8) : ∀ s, (splS c s).length = s.count c + 1
  | [] => by simp [splS]
  | b :: l => by
    have ih := splS_len c l
    have hne := splS_ne c l
    unfold splS
    by_cases hb : b = c
    . subst hb; rw [if_pos rfl]; simp [ih]
    . rw [if_neg hb, List.count_cons_of_ne hb]
      cases hx : splS c l with
      | nil => exact absurd hx hne
      | cons x xs => rw [hx] at ih; simpa using ih
theorem splS_cut (c : UInt8) : ∀ s, posB c s < s.length -> splS c s = s.take (posB c s) :: splS c (s.drop (posB c s + 1))
  | [], h => absurd h (by simp)
  | b :: l, h => by
    rw [splS, posB]
    rw [posB] at h
    by_cases hb : b = c
    . rw [if_pos hb, if_pos hb]; rfl
    . rw [if_neg hb] at h ⊢
      rw [if_neg hb, splS_cut c l (by simpa using h)]
      rfl
theorem splS_end (c : UInt8) : ∀ s, s.count c = 0 -> splS c s = [s]
  | [], _ => rfl
  | b :: l, h => by
    have hb : b ≠ c := fun e => by subst e; simp at h
    rw [List.count_cons_of_ne hb] at h
    unfold splS
    rw [if_neg hb, splS_end c l h]
theorem count_pos (c : UInt8) : ∀ s : List UInt8, 0 < s.count c -> posB c s < s.length
  | [], h => absurd h (by simp)
  | b :: l, h => by
    unfold posB
    by_cases hb : b = c
    . rw [if_pos hb]; simp
    . rw [List.count_cons_of_ne hb] at h
      rw [if_neg hb]
      have := count_pos c l h
      simp only [List.length_cons]; omega
theorem splS_bound (c : UInt8) (s : List UInt8) : (splS c s).length <= s.length + 1 := by
  rw [splS_len]; have := List.count_le_length (a := c) (l := s); omega
theorem strsR_rep (n : Nat) : List.replicate n [Value.string ⟨#[]⟩] = strsR (List.replicate n []) := by simp [strsR, str]
theorem strsR_put (L : List (List UInt8)) (i : Nat) (s : List UInt8) : (strsR L).set i [str s] = strsR (L.set i s) := by simp [strsR, List.map_set]
theorem set_rep {i m : Nat} (done : List (List UInt8)) (x : List UInt8) (hi : done.length = i) : (done ++ List.replicate (m + 1) []).set i x = (done ++ [x]) ++ List.replicate m [] := by
  rw [List.set_append_right _ _ (by omega), hi, Nat.sub_self, List.replicate_succ, List.set_cons_zero]
  simp
set_option maxRecDepth 8000 in
set_option maxHeartbeats 1000000 in
theorem str_genSplit (s : List UInt8) (hs : s.length <= 1000000000) (c : UInt8) (h : Heap) : Spec Tryd.prog 57 [str s, str [c], .int .i64 0, .int .i64 (-1)] h [] (fun u _ H' => H' = [.row u 9 1 (strsR (splS c s))]) := by
  have hcl : s.count c <= s.length := List.count_le_length
  have hc1 : ([c] : List UInt8).length = 1 := rfl
  obtain ⟨n, hn⟩ : ∃ n, n = s.count c := ⟨_, rfl⟩
  have hmn : (min ((n : Int) + 1) ((s.length : Int) + 1)) = n + 1 := by omega
  have hmt : ((n : Int) + 1).toNat = n + 1 := by omega
  have hlen := splS_len c s
  rw [<- hn] at hlen hcl
  refine Spec.enter Tryd.func57 rfl rfl ?_; intro w0
  repeat' (first | (show G _ (.ops .seq _ (⟨some _, .call { callee := .value (.func 66), args := _, argTypes := _ }, _, _, _, none⟩ :: _) :: _) _ _ _; refine G.call callCount rfl rfl (str_Count s c _) Ze ?_; rintro _ h2 H2 ⟨rfl, rfl⟩ hle2; rw [<- hn]) | (refine G.minI rfl rfl rfl ?_; rw [hmn]) | (refine G.atMsl ?_; refine G.makeSlice rfl rfl (tyy rfl) (tyy rfl) hmt rfl rfl Zo rfl ?_; intro va; rw [strsR_rep]) | (refine G.atCode ?_; refine G.stopLoop ?_) | (refine G.atCode ?_; first | refine G.seq ?_ | refine G.region ?_ | refine G.block ?_ | refine G.skip ?_ | (refine G.cond rfl ?_ ?_ <;> intro hc <;> (try simp only [tests, reduceCtorEq] at hc) <;> (try exact Zf))) | refine G.endOps ?_ | (refine G.atBin ?_; first | (refine G.atAdd ?_; first | refine G.arith rfl rfl rfl rfl rfl Zi ?_) | (refine G.atSub ?_; first | refine G.arith rfl rfl rfl rfl rfl Zi ?_) | (refine G.atEql ?_; first | refine G.op rfl rfl ?_ | refine G.eqStr0 rfl rfl rfl ?_) | refine G.op rfl rfl ?_) | refine G.op rfl rfl ?_ | (refine G.atLen ?_; first | refine G.lenStr rfl (tyy rfl) rfl ?_))
  all_goals try (exfalso; omega)
  refine G.go ?_
  refine G.loop (σ := Nat × List UInt8 × List (List UInt8)) (fun x => [(10, .int .i64 x.1), (3, .int .i64 n), (0, str x.2.1), (1, str [c]), (2, .int .i64 0), (9, va)])
    (fun x => [.row va 9 1 (strsR (x.2.2 ++ List.replicate (n - x.1 + 1) []))])
    (fun x _ => x.1 <= n /\ x.2.2.length = x.1 /\ x.1 + x.2.1.count c = n /\ splS c s = x.2.2 ++ splS c x.2.1 /\ x.2.1.length <= s.length) (fun x => n - x.1) ⟨0, s, []⟩
    ⟨rfl, sint (by omega), rfl, rfl, rfl, rfl, trivial⟩ Zu ⟨Nat.zero_le _, rfl, by simp only; omega, rfl, Nat.le_refl _⟩ ?_
  rintro ⟨i, q, dn⟩ h3 hle3 ⟨hi, hdl, hct, hsp, hql⟩
  simp only at hi hdl hct hsp hql
  refine G.norm (by (try dsimp only) <;> exact rfl) (by (try dsimp only) <;> exact rfl) ?_
  have hrl : (dn ++ List.replicate (n - i + 1) ([] : List UInt8)).length = n + 1 := by simp only [List.length_append, List.length_replicate]; omega
  by_cases hlt : i < n
  . have hp := count_pos c q (by omega)
    have hcut := splS_cut c q hp
    have hpd : posB c q + 1 + (q.drop (posB c q + 1)).length = q.length := by rw [List.length_drop]; omega
    have hc2 : (q.drop (posB c q + 1)).count c + 1 = q.count c := by
      have h1 := splS_len c q
      have h2 := splS_len c (q.drop (posB c q + 1))
      rw [hcut, List.length_cons] at h1
      omega
    generalize hpe : posB c q = p at *
    have hp0 : ((p : Int) + 0).toNat = p := by omega
    have hp1 : ((p : Int) + (([c] : List UInt8).length : Nat)).toNat = p + 1 := by simp only [List.length_cons, List.length_nil]; omega
    repeat' (first | (show G _ (.ops .seq _ (⟨some _, .call { callee := .value (.func 67), args := _, argTypes := _ }, _, _, _, none⟩ :: _) :: _) _ _ _; refine G.call callIndex rfl rfl (str_Index q c _) Ze ?_; rintro _ h2 H2 ⟨rfl, rfl⟩ hle2; rw [hpe, if_pos hp]) | (refine G.atSlc ?_; refine G.takeStr rfl rfl (tyy rfl) rfl hp0 Zo ?_) | (refine G.atSlc ?_; refine G.dropStr rfl rfl (tyy rfl) rfl hp1 Zo ?_) | (refine G.atIdx ?_; refine G.idxRow' rfl rfl (tyy rfl) (tyy rfl) Za Zj rfl (by rw [strsR_length, hrl]; omega) ?_; intro _ _) | (refine G.atSto ?_; refine G.storeRow rfl rfl (tyy rfl) Zp Za rfl rfl rfl (by rw [strsR_length, hrl]; omega) ?_; rw [strsR_put]) | (refine G.atCode ?_; first | refine G.seq ?_ | refine G.region ?_ | refine G.block ?_ | refine G.skip ?_ | (refine G.cond rfl ?_ ?_ <;> intro hc <;> (try simp only [tests, reduceCtorEq] at hc) <;> (try exact Zf))) | refine G.endOps ?_ | refine G.endBlk ?_ | (refine G.atBin ?_; first | (refine G.atAdd ?_; first | refine G.arith rfl rfl rfl rfl rfl Zi ?_) | refine G.op rfl rfl ?_) | refine G.op rfl rfl ?_ | (refine G.atLen ?_; first | refine G.lenStr rfl (tyy rfl) rfl ?_))
    all_goals try (exfalso; omega)
    rw [show n - i + 1 = (n - (i + 1) + 1) + 1 by omega, set_rep dn _ hdl]
    exact G.again ⟨i + 1, q.drop (p + 1), dn ++ [q.take p]⟩ ⟨sint (by simp), rfl, rfl, rfl, rfl, rfl, trivial⟩ Zu ⟨by simp only; omega, by simp only [List.length_append, List.length_cons, List.length_nil]; omega, by simp only; omega, by rw [hsp, hcut]; simp, by simp only; omega⟩ (by solve | repeat first | assumption | exact Zr _ | refine Zq ?_ Zp) (by simp only; omega)
  . obtain rfl : i = n := by omega
    have he := splS_end c q (by omega)
    have hi1 : ((i : Int) + 1).toNat = i + 1 := by omega
    have htk : (strsR (splS c s)).take (i + 1) = strsR (splS c s) := List.take_of_length_le (by rw [strsR_length, hlen]; exact Nat.le_refl _)
    have hfin : ((dn ++ List.replicate (i - i + 1) ([] : List UInt8)).set i q) = splS c s := by
      rw [Nat.sub_self, set_rep (m := 0) dn q hdl, hsp, he]; simp
    repeat' (first | (refine G.atIdx ?_; refine G.idxRow' rfl rfl (tyy rfl) (tyy rfl) Za Zj rfl (by rw [strsR_length, hrl]; omega) ?_; intro _ _) | (refine G.atSto ?_; refine G.storeRow rfl rfl (tyy rfl) Zp Za rfl rfl rfl (by rw [strsR_length, hrl]; omega) ?_; rw [strsR_put, hfin]) | (refine G.atSlc ?_; refine G.cutRow rfl rfl (tyy rfl) (tyy rfl) Za hi1 (by rw [strsR_length, hlen]; omega) rfl ?_; intro v9; rw [htk]) | (refine G.atCode ?_; first | refine G.seq ?_ | refine G.region ?_ | refine G.exit rfl ?_ | refine G.ret ?_ | (refine G.cond rfl ?_ ?_ <;> intro hc <;> (try simp only [tests, reduceCtorEq] at hc) <;> (try exact Zf))) | refine G.endOps ?_ | (refine G.atBin ?_; first | (refine G.atAdd ?_; first | refine G.arith rfl rfl rfl rfl rfl Zi ?_) | refine G.op rfl rfl ?_) | refine G.op rfl rfl ?_)
    all_goals first | (exfalso; omega) | exact G.doneRow rfl rfl Za rfl
theorem str_Split (s : List UInt8) (hs : s.length <= 1000000000) (c : UInt8) (h : Heap) : Spec Tryd.prog 42 [str s, str [c]] h [] (fun u _ H' => H' = [.row u 9 1 (strsR (splS c s))]) := by
  refine Spec.enter Tryd.func42 rfl rfl ?_; intro w0
  repeat' (first | (show G _ (.ops .seq _ (⟨some _, .call { callee := .value (.func 57), args := _, argTypes := _ }, _, _, _, none⟩ :: _) :: _) _ _ _; refine G.call callGenS rfl rfl (str_genSplit s hs c _) Ze ?_; rintro _ h2 H2 rfl hle2) | (refine G.atCode ?_; first | refine G.seq ?_ | refine G.region ?_ | refine G.ret ?_) | refine G.endOps ?_ | refine G.op rfl rfl ?_)
  exact G.doneRow rfl rfl Za rfl
end Go.Proofs.YtcghcdnmpjhifaaDoor
