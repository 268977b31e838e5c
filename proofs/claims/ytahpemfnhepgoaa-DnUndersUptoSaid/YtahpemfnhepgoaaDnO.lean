/- Names: what parsing gives is in order; castellanref09.Norm, Key; dn.Key; DnKeys. -/
import Derived.Test.YtahpemfnhepgoaaDnM
import Derived.Test.YtahpemfnhepgoaaDnN
namespace Go.Proofs.Ytahpemfnhepgoaa
set_option linter.all false
set_option maxRecDepth 4000
open Go.RowKit

theorem valM_vlen : ∀ (n : Nat) (f : Bool) (s : List UInt8) (v r : List UInt8), valM n f s = some (v, r) -> v.length + r.length <= s.length := by
  intro n
  induction n with
  | zero => intro f s v r h; simp [valM] at h; obtain ⟨rfl, rfl⟩ := h; simp
  | succ n ih =>
    intro f s v r h
    rw [valM] at h
    split at h
    . simp at h; obtain ⟨rfl, rfl⟩ := h; simp
    . split at h
      . cases h
      . rename_i x k bl hu
        have hk := unitM_pos hu
        split at h
        . cases h
        . simp only [Option.map_eq_some_iff, Prod.mk.injEq, Prod.exists] at h
          obtain ⟨v1, r1, h1, rfl, rfl⟩ := h
          have h2 := ih _ _ _ _ h1
          rw [List.length_drop] at h2
          simp only [List.length_cons]; omega
theorem rdnGo_snoc (a : List UInt8 × List UInt8) : ∀ (l pre : Rdn), rdnGo pre l = 0 -> rdnGo pre (l ++ [a]) = avaC (pre ++ l) a
  | [], pre, _ => by
    simp only [List.nil_append, List.append_nil, rdnGo]
    split
    . rfl
    . rename_i h; exact (show avaC pre a = 0 by simpa using h).symm
  | b :: l, pre, h => by
    rw [rdnGo] at h
    split at h
    . rename_i h1; exact absurd h h1
    . rename_i h1
      rw [List.cons_append, rdnGo, if_neg h1, rdnGo_snoc a l (pre ++ [b]) h]
      simp
structure RdnOk (r : Rdn) : Prop where
  ne : r ≠ []
  len : r.length <= 8
  go : rdnGo [] r = 0
  v : ∀ a ∈ r, typeM a.1 = true /\ a.2.length <= 4096
structure DnOk (d : Dn) : Prop where
  len : d.length <= 32
  all : ∀ r ∈ d, RdnOk r
theorem parM_ok : ∀ (n : Nat) (out : Dn) (now : Rdn) (s : List UInt8) (d : Dn), s.length <= 4096 -> out.length <= 32 -> (∀ r ∈ out, RdnOk r) -> now.length <= 8 -> rdnGo [] now = 0 -> (∀ a ∈ now, typeM a.1 = true /\ a.2.length <= 4096) →
    parD n out now s = .ok d -> DnOk d := by
  intro n
  induction n with
  | zero => intro out now s d _ _ _ _ _ _ h; simp [parD] at h
  | succ n ih =>
    intro out now s d hs ho hall hn hgo hv h
    rw [parD] at h
    by_cases h1 : out.length = 32 \/ now.length = 8
    . rw [if_pos h1] at h; cases h
    rw [if_neg h1] at h
    by_cases h2 : posB 61 s = s.length \/ typeM (s.take (posB 61 s)) = false
    . rw [if_pos h2] at h; cases h
    rw [if_neg h2] at h
    by_cases h3 : hasM now (s.take (posB 61 s)) = true
    . rw [if_pos h3] at h; cases h
    rw [if_neg h3] at h
    generalize s.take (posB 61 s) = T at *
    have ht : typeM T = true := by cases h9 : typeM T with
      | true => rfl
      | false => exact absurd (.inr h9) h2
    cases hvm : valM (s.drop (posB 61 s + 1)).length true (s.drop (posB 61 s + 1)) with
    | none => rw [hvm] at h; cases h
    | some y =>
      obtain ⟨v, r⟩ := y
      rw [hvm] at h
      have hl := valM_vlen _ _ _ _ _ hvm
      rw [List.length_drop] at hl
      have hnv : ∀ a ∈ now ++ [(T, v)], typeM a.1 = true /\ a.2.length <= 4096 := fun a ha => by
        rcases List.mem_append.1 ha with ha | ha
        . exact hv a ha
        . rw [List.mem_singleton.1 ha]; exact ⟨ht, by simp only; omega⟩
      have hng : rdnGo [] (now ++ [(T, v)]) = 0 := by
        rw [rdnGo_snoc _ _ _ hgo, List.nil_append]
        unfold avaC
        simp only
        rw [if_neg (by omega), if_neg (by rw [ht]; simp), if_neg h3]
      have hnl : (now ++ [(T, v)]).length <= 8 := by simp only [List.length_append, List.length_cons, List.length_nil]; omega
      have hro : RdnOk (now ++ [(T, v)]) := ⟨by simp, hnl, hng, hnv⟩
      have hout : ∀ r ∈ out ++ [now ++ [(T, v)]], RdnOk r := fun r hr => by
        rcases List.mem_append.1 hr with hr | hr
        . exact hall r hr
        . rw [List.mem_singleton.1 hr]; exact hro
      have hol : (out ++ [now ++ [(T, v)]]).length <= 32 := by simp only [List.length_append, List.length_cons, List.length_nil]; omega
      cases r with
      | nil =>
        simp only [Except.ok.injEq] at h
        subst h
        exact ⟨hol, hout⟩
      | cons c r =>
        simp only [List.length_cons] at hl
        simp only at h
        by_cases hc : c.toNat = 44
        . rw [if_pos hc] at h
          exact ih _ _ _ _ (by omega) hol hout (by simp) rfl (fun a ha => by simp at ha) h
        . rw [if_neg hc] at h
          exact ih _ _ _ _ (by omega) ho hall hnl hng hnv h
theorem parse_ok {s : List UInt8} {d : Dn} (h : parseM s = .ok d) : DnOk d := by
  unfold parseM at h
  by_cases h1 : s.length > 4096
  . rw [if_pos h1] at h; cases h
  rw [if_neg h1] at h
  by_cases h2 : s = []
  . rw [if_pos h2] at h
    simp only [Except.ok.injEq] at h
    subst h
    exact ⟨by simp, fun r hr => by simp at hr⟩
  rw [if_neg h2] at h
  exact parM_ok _ _ _ _ _ (by omega) (by simp) (fun r hr => by simp at hr) (by simp) rfl (fun a ha => by simp at ha) h
theorem parD_err : ∀ (n : Nat) (out : Dn) (now : Rdn) (s : List UInt8) (e : Int), parD n out now s = .error e -> 4 <= e /\ e <= 21 := by
  intro n
  induction n with
  | zero => intro out now s e h; simp [parD] at h; omega
  | succ n ih =>
    intro out now s e h
    rw [parD] at h
    split at h
    . simp only [Except.error.injEq] at h; omega
    . split at h
      . simp only [Except.error.injEq] at h; omega
      . split at h
        . simp only [Except.error.injEq] at h; omega
        . split at h
          . simp only [Except.error.injEq] at h; omega
          . cases h
          . split at h
            . exact ih _ _ _ _ h
            . exact ih _ _ _ _ h
theorem parse_err {s : List UInt8} {e : Int} (h : parseM s = .error e) : 4 <= e /\ e <= 21 := by
  unfold parseM at h
  split at h
  . simp only [Except.error.injEq] at h; omega
  . split at h
    . cases h
    . exact parD_err _ _ _ _ _ h
theorem DnOk.chk {d : Dn} (h : DnOk d) : chkD d = 0 := by
  have : ∀ (l : Dn) (i : Nat), i + l.length <= 32 -> (∀ r ∈ l, RdnOk r) -> chkGo i l = 0 := by
    intro l
    induction l with
    | nil => intro i _ _; rfl
    | cons r l ih =>
      intro i hi hr
      simp only [List.length_cons] at hi
      have h1 := hr r (by simp)
      have h2 : rdnCk r = 0 := by
        unfold rdnCk
        rw [if_neg (fun e => h1.ne (List.eq_nil_of_length_eq_zero e)), h1.go]
      rw [chkGo, if_neg (by omega), h2, if_neg (by simp)]
      exact ih (i + 1) (by omega) fun r hr' => hr r (by simp [hr'])
  exact this d 0 (by have := h.len; omega) h.all
theorem typeD_len {s : List UInt8} (h : typeM s = true) : 1 <= s.length /\ s.length <= 32 := by
  unfold typeM at h
  simp only [Bool.and_eq_true, decide_eq_true_eq] at h
  exact h.1.1
theorem sum_bound {α : Type} (f : α -> Nat) (c : Nat) : ∀ l : List α, (∀ x ∈ l, f x <= c) -> (l.map f).sum <= l.length * c
  | [], _ => by simp
  | x :: l, h => by
    have h1 := h x (by simp)
    have h2 := sum_bound f c l fun y hy => h y (by simp [hy])
    simp only [List.map_cons, List.sum_cons, List.length_cons, Nat.succ_mul]; omega
theorem DnOk.w {d : Dn} (h : DnOk d) : dnW d <= 10000000 := by
  have h1 : ∀ r ∈ d, rdnW r + 1 <= 98577 := fun r hr => by
    have ho := h.all r hr
    have h2 := sum_bound avaW 12322 r fun a ha => by
      have h3 := ho.v a ha
      have h4 := typeD_len h3.1
      unfold avaW; omega
    have h5 := ho.len
    have h6 : rdnW r <= r.length * 12322 := h2
    have h7 : r.length * 12322 <= 8 * 12322 := Nat.mul_le_mul_right _ h5
    omega
  have h2 : dnW d <= d.length * 98577 := sum_bound (fun r => rdnW r + 1) 98577 d h1
  have h3 : d.length * 98577 <= 32 * 98577 := Nat.mul_le_mul_right _ h.len
  omega
def keyMs (s : List UInt8) : List UInt8 × Int := match parseM s with
  | .error e => ([], e)
  | .ok d => normM d
theorem callRNorm : Callable Try.prog 19 := ⟨_, Try.func19, by kernel_rfl, rfl⟩
theorem callKey9 : Callable Try.prog 20 := ⟨_, Try.func20, by kernel_rfl, rfl⟩
theorem callRKey9 : Callable Try.prog 21 := ⟨_, Try.func21, by kernel_rfl, rfl⟩
theorem ref09_Norm (d : Dn) (v : Value) (hd : dnW d <= 10000000) (h : Heap) (hv : DnC h d v) : Spec Try.prog 19 [v] h [] (fun u _ H' => u = .tuple #[str (normM d).1, .int .i64 (normM d).2] /\ H' = []) := by
  unfold normM
  have hpr := ref09_Print d v hd
  generalize printM d = R at *
  obtain ⟨t, e⟩ := R
  simp only at hpr ⊢
  by_cases he : e ≠ 0
  . rw [if_pos he]
    refine Spec.enter Try.func19 rfl rfl ?_; intro w0
    repeat' (first | (show G _ (.ops .seq _ (⟨some _, .call { callee := .value (.func 17), args := _, argTypes := _ }, _, _, _, none⟩ :: _) :: _) _ _ _; refine G.call callRPrint rfl rfl (hpr _ (hv.mono (by solve | repeat first | assumption | exact Zr _ | refine Zq ?_ Zp))) Ze ?_; rintro _ h4 H4 ⟨rfl, rfl⟩ hle4) | (refine G.atCode ?_; first | refine G.seq ?_ | refine G.region ?_ | refine G.ret ?_ | (refine G.cond rfl ?_ ?_ <;> intro hc <;> (try simp only [tests, reduceCtorEq] at hc) <;> (try exact Zf))) | refine G.endOps ?_ | (refine G.atBin ?_; first | (refine G.atNeq ?_; first | refine G.op rfl rfl ?_)) | refine G.op rfl rfl ?_)
    all_goals first | (exfalso; omega) | exact G.done2 rfl rfl rfl _ (SubH.nil _) ⟨rfl, rfl⟩
  . rw [if_neg he]
    refine Spec.enter Try.func19 rfl rfl ?_; intro w0
    repeat' (first | (show G _ (.ops .seq _ (⟨some _, .call { callee := .value (.func 17), args := _, argTypes := _ }, _, _, _, none⟩ :: _) :: _) _ _ _; refine G.call callRPrint rfl rfl (hpr _ (hv.mono (by solve | repeat first | assumption | exact Zr _ | refine Zq ?_ Zp))) Ze ?_; rintro _ h4 H4 ⟨rfl, rfl⟩ hle4) | (show G _ (.ops .seq _ (⟨some _, .call { callee := .value (.func 36), args := _, argTypes := _ }, _, _, _, none⟩ :: _) :: _) _ _ _; refine G.call callPlain rfl rfl (ref09_plain d v hd _ (hv.mono (by solve | repeat first | assumption | exact Zr _ | refine Zq ?_ Zp))) Ze ?_; rintro pv h5 H5 ⟨⟨p, hpc, hP⟩, rfl⟩ hle5; have hPw := hP.w) | (show G _ (.ops .seq _ (⟨some _, .call { callee := .value (.func 35), args := _, argTypes := _ }, _, _, _, none⟩ :: _) :: _) _ _ _; refine G.call callRText rfl rfl (ref09_text p pv (by omega) _ hpc) Ze ?_; rintro _ h6 H6 ⟨rfl, rfl⟩ hle6; rw [hP.text]) | (refine G.atCode ?_; first | refine G.seq ?_ | refine G.region ?_ | refine G.skip ?_ | refine G.ret ?_ | (refine G.cond rfl ?_ ?_ <;> intro hc <;> (try simp only [tests, reduceCtorEq] at hc) <;> (try exact Zf))) | refine G.endOps ?_ | (refine G.atBin ?_; first | (refine G.atNeq ?_; first | refine G.op rfl rfl ?_)) | refine G.op rfl rfl ?_)
    all_goals first | (exfalso; omega) | exact G.done2 rfl rfl rfl _ (SubH.nil _) ⟨rfl, rfl⟩
theorem dn_Key (s : List UInt8) (hs : s.length <= 10000000) (h : Heap) : Spec Try.prog 20 [str s] h [] (fun u _ H' => u = .tuple #[str (keyMs s).1, .int .i64 (keyMs s).2] /\ H' = []) := by
  unfold keyMs
  cases hm : parseM s with
  | error e =>
    have he := parse_err hm
    refine Spec.enter Try.func20 rfl rfl ?_; intro w0
    repeat' (first | (show G _ (.ops .seq _ (⟨some _, .call { callee := .value (.func 9), args := _, argTypes := _ }, _, _, _, none⟩ :: _) :: _) _ _ _; refine G.call callParse rfl rfl (dn_Parse s hs _) Ze ?_; rintro _ h4 H4 ⟨hp, rfl⟩ hle4; (rw [hm] at hp); (obtain rfl := hp)) | (refine G.atCode ?_; first | refine G.seq ?_ | refine G.region ?_ | refine G.ret ?_ | (refine G.cond rfl ?_ ?_ <;> intro hc <;> (try simp only [tests, reduceCtorEq] at hc) <;> (try exact Zf))) | refine G.endOps ?_ | (refine G.atBin ?_; first | (refine G.atNeq ?_; first | refine G.op rfl rfl ?_)) | refine G.op rfl rfl ?_)
    all_goals first | (exfalso; omega) | exact G.done2 rfl rfl rfl _ (SubH.nil _) ⟨rfl, rfl⟩
  | ok d =>
    have hw := (parse_ok hm).w
    simp only
    generalize hn : normM d = R
    obtain ⟨t, e⟩ := R
    refine Spec.enter Try.func20 rfl rfl ?_; intro w0
    repeat' (first | (show G _ (.ops .seq _ (⟨some _, .call { callee := .value (.func 9), args := _, argTypes := _ }, _, _, _, none⟩ :: _) :: _) _ _ _; refine G.call callParse rfl rfl (dn_Parse s hs _) Ze ?_; rintro _ h4 H4 ⟨hp, rfl⟩ hle4; (rw [hm] at hp); (obtain ⟨v1, rfl, hv1⟩ := hp)) | (show G _ (.ops .seq _ (⟨some _, .call { callee := .value (.func 18), args := _, argTypes := _ }, _, _, _, none⟩ :: _) :: _) _ _ _; refine G.call callNorm rfl rfl (dn_Norm d v1 hw _ hv1) Ze ?_; rintro _ h5 H5 ⟨rfl, rfl⟩ hle5; rw [hn]) | (refine G.atCode ?_; first | refine G.seq ?_ | refine G.region ?_ | refine G.skip ?_ | refine G.ret ?_ | (refine G.cond rfl ?_ ?_ <;> intro hc <;> (try simp only [tests, reduceCtorEq] at hc) <;> (try exact Zf))) | refine G.endOps ?_ | (refine G.atBin ?_; first | (refine G.atNeq ?_; first | refine G.op rfl rfl ?_)) | refine G.op rfl rfl ?_)
    all_goals first | (exfalso; omega) | exact G.done2 rfl rfl rfl _ (SubH.nil _) ⟨rfl, rfl⟩
theorem ref09_Key (s : List UInt8) (hs : s.length <= 10000000) (h : Heap) : Spec Try.prog 21 [str s] h [] (fun u _ H' => u = .tuple #[str (keyMs s).1, .int .i64 (keyMs s).2] /\ H' = []) := by
  unfold keyMs
  cases hm : parseM s with
  | error e =>
    have he := parse_err hm
    refine Spec.enter Try.func21 rfl rfl ?_; intro w0
    repeat' (first | (show G _ (.ops .seq _ (⟨some _, .call { callee := .value (.func 10), args := _, argTypes := _ }, _, _, _, none⟩ :: _) :: _) _ _ _; refine G.call callRParse rfl rfl (ref09_Parse s hs _) Ze ?_; rintro _ h4 H4 ⟨hp, rfl⟩ hle4; (rw [hm] at hp); (obtain rfl := hp)) | (refine G.atCode ?_; first | refine G.seq ?_ | refine G.region ?_ | refine G.ret ?_ | (refine G.cond rfl ?_ ?_ <;> intro hc <;> (try simp only [tests, reduceCtorEq] at hc) <;> (try exact Zf))) | refine G.endOps ?_ | (refine G.atBin ?_; first | (refine G.atNeq ?_; first | refine G.op rfl rfl ?_)) | refine G.op rfl rfl ?_)
    all_goals first | (exfalso; omega) | exact G.done2 rfl rfl rfl _ (SubH.nil _) ⟨rfl, rfl⟩
  | ok d =>
    have hw := (parse_ok hm).w
    simp only
    generalize hn : normM d = R
    obtain ⟨t, e⟩ := R
    refine Spec.enter Try.func21 rfl rfl ?_; intro w0
    repeat' (first | (show G _ (.ops .seq _ (⟨some _, .call { callee := .value (.func 10), args := _, argTypes := _ }, _, _, _, none⟩ :: _) :: _) _ _ _; refine G.call callRParse rfl rfl (ref09_Parse s hs _) Ze ?_; rintro _ h4 H4 ⟨hp, rfl⟩ hle4; (rw [hm] at hp); (obtain ⟨v1, rfl, hv1⟩ := hp)) | (show G _ (.ops .seq _ (⟨some _, .call { callee := .value (.func 19), args := _, argTypes := _ }, _, _, _, none⟩ :: _) :: _) _ _ _; refine G.call callRNorm rfl rfl (ref09_Norm d v1 hw _ hv1) Ze ?_; rintro _ h5 H5 ⟨rfl, rfl⟩ hle5; rw [hn]) | (refine G.atCode ?_; first | refine G.seq ?_ | refine G.region ?_ | refine G.skip ?_ | refine G.ret ?_ | (refine G.cond rfl ?_ ?_ <;> intro hc <;> (try simp only [tests, reduceCtorEq] at hc) <;> (try exact Zf))) | refine G.endOps ?_ | (refine G.atBin ?_; first | (refine G.atNeq ?_; first | refine G.op rfl rfl ?_)) | refine G.op rfl rfl ?_)
    all_goals first | (exfalso; omega) | exact G.done2 rfl rfl rfl _ (SubH.nil _) ⟨rfl, rfl⟩
set_option maxRecDepth 8000 in
theorem law_DnKeys (s : List UInt8) (hs : s.length <= 10000000) (h : Heap) : Spec Try.prog 5 [str s] h [] (fun u _ _ => u = .bool true) := by
  have s1 := dn_Key s hs
  have s2 := ref09_Key s hs
  generalize keyMs s = R at *
  obtain ⟨t, e⟩ := R
  refine Spec.enter Try.func5 rfl rfl ?_; intro w0
  repeat' (first | (show G _ (.ops .seq _ (⟨some _, .call { callee := .value (.func 20), args := _, argTypes := _ }, _, _, _, none⟩ :: _) :: _) _ _ _; refine G.call callKey9 rfl rfl (s1 _) Ze ?_; rintro _ h2 H2 ⟨rfl, rfl⟩ hle2) | (show G _ (.ops .seq _ (⟨some _, .call { callee := .value (.func 21), args := _, argTypes := _ }, _, _, _, none⟩ :: _) :: _) _ _ _; refine G.call callRKey9 rfl rfl (s2 _) Ze ?_; rintro _ h3 H3 ⟨rfl, rfl⟩ hle3) | (show G _ (.ops .seq _ (⟨some _, .call { callee := .value (.func 11), args := _, argTypes := _ }, _, _, _, none⟩ :: _) :: _) _ _ _; refine G.call callAwake9 rfl rfl (law09_awake _) Ze ?_; rintro _ h4 H4 ⟨rfl, rfl⟩ hle4) | (refine G.atCode ?_; first | refine G.seq ?_ | refine G.region ?_ | refine G.ret ?_) | refine G.endOps ?_ | (refine G.atGd ?_; first | refine G.guardYes rfl rfl ?_ | (refine G.guardS rfl rfl rfl ?_ ?_ <;> intro hc <;> (try simp only [tests, reduceCtorEq] at hc) <;> (try exact Zf))) | (refine G.atBin ?_; first | (refine G.atEql ?_; first | refine G.op rfl rfl ?_ | refine G.eqStr rfl rfl rfl ?_)) | refine G.op rfl rfl ?_)
  all_goals first | (exfalso; omega) | exact G.done1 rfl rfl [] (SubH.nil _) (by solve | simp) | (exfalso; simp_all)
end Go.Proofs.Ytahpemfnhepgoaa
