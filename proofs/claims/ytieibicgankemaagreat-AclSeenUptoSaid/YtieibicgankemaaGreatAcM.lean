/- Names: whether one lies under another; DnUnders. -/
import Derived.Test.YtieibicgankemaaGreatDnU
import Derived.Test.YtieibicgankemaaGreatDnR
namespace Go.Proofs.YtieibicgankemaaGreat
set_option linter.all false
set_option maxRecDepth 4000
open Go.RowKit

def underM (d b : Dn) : Bool := if (printM d).2 ≠ 0 \/ (normM b).2 ≠ 0 \/ d.length < b.length then false else decide (txt true (d.drop (d.length - b.length)) = (normM b).1)
theorem callUnder : Callable Tryz.prog 36 := ⟨_, Tryz.func36, by kernel_rfl, rfl⟩
theorem callRUnder : Callable Tryz.prog 43 := ⟨_, Tryz.func43, by kernel_rfl, rfl⟩
theorem DnC.tail {h : Heap} {d : Dn} {A : Option Addr} {n c : Nat} (hv : DnC h d (.slice A n c)) (k : Nat) (hk : k <= d.length) : n = d.length /\ d.length <= c /\ DnC h (d.drop k) (.slice (if c = k then A else A.map (·.add (k * 1))) (n - k) (c - k)) := by
  obtain ⟨rows, hs, hr⟩ := hv
  have hl := hr.len
  obtain ⟨A', c', e, h2, _⟩ := hs.form
  simp only [Value.slice.injEq] at e
  obtain ⟨rfl, rfl, rfl⟩ := e
  exact ⟨hl, by omega, rows.drop k, hs.tail k (by omega), hr.drop k⟩
theorem DnC.cut {h : Heap} {d : Dn} {A : Option Addr} {n c : Nat} (hv : DnC h d (.slice A n c)) (k : Nat) (hk : k <= d.length) : DnC h (d.take k) (.slice A k c) := by
  obtain ⟨rows, hs, hr⟩ := hv
  have hl := hr.len
  exact ⟨rows.take k, hs.cut k (by omega), hr.take k⟩
theorem DnC.form {h : Heap} {d : Dn} {v : Value} (hv : DnC h d v) : ∃ A c, v = .slice A d.length c /\ d.length <= c /\ d.length <= 9223372036854775807 := by
  obtain ⟨rows, hs, hr⟩ := hv
  have hl := hr.len
  have hm := hs.len
  obtain ⟨A, c, e, h2, _⟩ := hs.form
  rw [hl] at e h2
  exact ⟨A, c, e, h2, by omega⟩
theorem dnW_drop (d : Dn) (k : Nat) : dnW (d.drop k) <= dnW d := by
  have : dnW d = dnW (d.take k) + dnW (d.drop k) := by
    unfold dnW; rw [<- List.sum_append, ← List.map_append, List.take_append_drop]
  omega
section
variable {E : Env} {k : List It} {f : Fr} {h : Heap} {H Hr : List Chunk} {st : Md} [hmd : OkMd st h H] {all : Array Oper} {rest : List Oper} {d : Nat} {ty : TypeId} {pos : String} {aft : Array Edge}
end
set_option maxRecDepth 8000 in
set_option maxHeartbeats 1000000 in
theorem dn_Under (d b : Dn) (v v2 : Value) (hd : dnW d <= 10000000) (hb : dnW b <= 10000000) (h : Heap) (hv : DnC h d v) (hv2 : DnC h b v2) : Spec Tryz.prog 36 [v, v2] h [] (fun u _ H' => u = .bool (underM d b) /\ H' = []) := by
  have s1 := dn_Print d v hd
  have s2 := dn_Norm b v2 hb
  unfold underM
  generalize printM d = R at *
  generalize normM b = R2 at *
  obtain ⟨t, e⟩ := R
  obtain ⟨t2, e2⟩ := R2
  simp only at s1 s2 ⊢
  obtain ⟨A, c, rfl, hcap, hm⟩ := hv.form
  obtain ⟨A2, c2, rfl, _, hm2⟩ := hv2.form
  have hdl := dn_len_le d
  by_cases hbad : e ≠ 0 \/ e2 ≠ 0 \/ d.length < b.length
  . rw [if_pos hbad]
    refine Spec.enter Tryz.func36 rfl rfl ?_; intro w0
    repeat' (first | (show G _ (.ops .seq _ (⟨some _, .call { callee := .value (.func 15), args := _, argTypes := _ }, _, _, _, none⟩ :: _) :: _) _ _ _; refine G.call callPrint rfl rfl (s1 _ (hv.mono (by solve | repeat first | assumption | exact Zr _ | refine Zq ?_ Zp))) Ze ?_; rintro _ h3 H3 ⟨rfl, rfl⟩ hle3) | (show G _ (.ops .seq _ (⟨some _, .call { callee := .value (.func 59), args := _, argTypes := _ }, _, _, _, none⟩ :: _) :: _) _ _ _; refine G.call callNorm rfl rfl (s2 _ (hv2.mono (by solve | repeat first | assumption | exact Zr _ | refine Zq ?_ Zp))) Ze ?_; rintro _ h5 H5 ⟨rfl, rfl⟩ hle5) | (refine G.atCode ?_; first | refine G.seq ?_ | refine G.region ?_ | refine G.ret ?_ | (refine G.cond rfl ?_ ?_ <;> intro hc <;> (try simp only [tests, reduceCtorEq] at hc) <;> (try exact Zf))) | refine G.endOps ?_ | (refine G.atGd ?_; first | refine G.guardYes rfl rfl ?_ | refine G.guardNoS rfl rfl rfl ?_ | (refine G.guardS rfl rfl rfl ?_ ?_ <;> intro hc <;> (try simp only [tests, reduceCtorEq] at hc) <;> (try exact Zf))) | (refine G.atBin ?_; first | (refine G.atNeq ?_; first | refine G.op rfl rfl ?_) | refine G.op rfl rfl ?_) | refine G.op rfl rfl ?_ | (refine G.atLen ?_; first | refine G.lenSlice rfl (tyy rfl) rfl ?_))
    all_goals first | (exfalso; omega) | exact G.done1 rfl rfl _ (SubH.nil _) ⟨rfl, rfl⟩
  . rw [if_neg hbad]
    obtain ⟨_, _, hcut⟩ := hv.tail (d.length - b.length) (by omega)
    have hwd : dnW (d.drop (d.length - b.length)) <= 10000000 := by have := dnW_drop d (d.length - b.length); omega
    generalize hK : txt true (d.drop (d.length - b.length)) = K at *
    refine Spec.enter Tryz.func36 rfl rfl ?_; intro w0
    repeat' (first | (show G _ (.ops .seq _ (⟨some _, .call { callee := .value (.func 15), args := _, argTypes := _ }, _, _, _, none⟩ :: _) :: _) _ _ _; refine G.call callPrint rfl rfl (s1 _ (hv.mono (by solve | repeat first | assumption | exact Zr _ | refine Zq ?_ Zp))) Ze ?_; rintro _ h3 H3 ⟨rfl, rfl⟩ hle3) | (show G _ (.ops .seq _ (⟨some _, .call { callee := .value (.func 59), args := _, argTypes := _ }, _, _, _, none⟩ :: _) :: _) _ _ _; refine G.call callNorm rfl rfl (s2 _ (hv2.mono (by solve | repeat first | assumption | exact Zr _ | refine Zq ?_ Zp))) Ze ?_; rintro _ h5 H5 ⟨rfl, rfl⟩ hle5) | (refine G.sliceSl (a := (d.length : Int) - b.length) (b := d.length) (a' := d.length - b.length) (b' := d.length) rfl rfl rfl (tyy rfl) (tyy rfl) rfl (by omega) (by omega) (by omega) ?_) | (show G _ (.ops .seq _ (⟨some _, .call { callee := .value (.func 27), args := _, argTypes := _ }, _, _, _, none⟩ :: _) :: _) _ _ _; refine G.call callText rfl rfl (dn_text true (d.drop (d.length - b.length)) _ hwd _ (hcut.mono (by solve | repeat first | assumption | exact Zr _ | refine Zq ?_ Zp))) Ze ?_; rintro _ h6 H6 ⟨rfl, rfl⟩ hle6; rw [hK]) | (refine G.atCode ?_; first | refine G.seq ?_ | refine G.region ?_ | refine G.skip ?_ | refine G.ret ?_ | (refine G.cond rfl ?_ ?_ <;> intro hc <;> (try simp only [tests, reduceCtorEq] at hc) <;> (try exact Zf))) | refine G.endOps ?_ | (refine G.atGd ?_; first | refine G.guardYes rfl rfl ?_ | (refine G.guardS rfl rfl rfl ?_ ?_ <;> intro hc <;> (try simp only [tests, reduceCtorEq] at hc) <;> (try exact Zf))) | (refine G.atBin ?_; first | (refine G.atSub ?_; first | refine G.arith rfl rfl rfl rfl rfl Zi ?_) | (refine G.atEql ?_; first | refine G.eqStr rfl rfl rfl ?_) | (refine G.atNeq ?_; first | refine G.op rfl rfl ?_) | refine G.op rfl rfl ?_) | refine G.op rfl rfl ?_ | (refine G.atLen ?_; first | refine G.lenSlice rfl (tyy rfl) rfl ?_))
    all_goals first | (exfalso; omega) | exact G.done1 rfl rfl _ (SubH.nil _) ⟨rfl, rfl⟩
set_option maxRecDepth 8000 in
set_option maxHeartbeats 1000000 in
theorem ref09_Under (d b : Dn) (v v2 : Value) (hd : dnW d <= 10000000) (hb : dnW b <= 10000000) (h : Heap) (hv : DnC h d v) (hv2 : DnC h b v2) : Spec Tryz.prog 43 [v, v2] h [] (fun u _ H' => u = .bool (underM d b) /\ H' = []) := by
  have s1 := ref09_Print d v hd
  have s2 := ref09_Norm b v2 hb
  unfold underM
  generalize printM d = R at *
  generalize normM b = R2 at *
  obtain ⟨t, e⟩ := R
  obtain ⟨t2, e2⟩ := R2
  simp only at s1 s2 ⊢
  obtain ⟨A, c, rfl, hcap, hm⟩ := hv.form
  obtain ⟨A2, c2, rfl, _, hm2⟩ := hv2.form
  have hdl := dn_len_le d
  by_cases hbad : e ≠ 0 \/ e2 ≠ 0 \/ d.length < b.length
  . rw [if_pos hbad]
    refine Spec.enter Tryz.func43 rfl rfl ?_; intro w0
    repeat' (first | (show G _ (.ops .seq _ (⟨some _, .call { callee := .value (.func 23), args := _, argTypes := _ }, _, _, _, none⟩ :: _) :: _) _ _ _; refine G.call callRPrint rfl rfl (s1 _ (hv.mono (by solve | repeat first | assumption | exact Zr _ | refine Zq ?_ Zp))) Ze ?_; rintro _ h3 H3 ⟨rfl, rfl⟩ hle3) | (show G _ (.ops .seq _ (⟨some _, .call { callee := .value (.func 41), args := _, argTypes := _ }, _, _, _, none⟩ :: _) :: _) _ _ _; refine G.call callRNorm rfl rfl (s2 _ (hv2.mono (by solve | repeat first | assumption | exact Zr _ | refine Zq ?_ Zp))) Ze ?_; rintro _ h5 H5 ⟨rfl, rfl⟩ hle5) | (refine G.atCode ?_; first | refine G.seq ?_ | refine G.region ?_ | refine G.ret ?_ | (refine G.cond rfl ?_ ?_ <;> intro hc <;> (try simp only [tests, reduceCtorEq] at hc) <;> (try exact Zf))) | refine G.endOps ?_ | (refine G.atGd ?_; first | refine G.guardYes rfl rfl ?_ | refine G.guardNoS rfl rfl rfl ?_ | (refine G.guardS rfl rfl rfl ?_ ?_ <;> intro hc <;> (try simp only [tests, reduceCtorEq] at hc) <;> (try exact Zf))) | (refine G.atBin ?_; first | (refine G.atNeq ?_; first | refine G.op rfl rfl ?_) | refine G.op rfl rfl ?_) | refine G.op rfl rfl ?_ | (refine G.atLen ?_; first | refine G.lenSlice rfl (tyy rfl) rfl ?_))
    all_goals first | (exfalso; omega) | exact G.done1 rfl rfl _ (SubH.nil _) ⟨rfl, rfl⟩
  . rw [if_neg hbad]
    obtain ⟨_, _, hcut⟩ := hv.tail (d.length - b.length) (by omega)
    have hwd : dnW (d.drop (d.length - b.length)) <= 10000000 := by have := dnW_drop d (d.length - b.length); omega
    generalize hK : txt true (d.drop (d.length - b.length)) = K at *
    refine Spec.enter Tryz.func43 rfl rfl ?_; intro w0
    repeat' (first | (show G _ (.ops .seq _ (⟨some _, .call { callee := .value (.func 23), args := _, argTypes := _ }, _, _, _, none⟩ :: _) :: _) _ _ _; refine G.call callRPrint rfl rfl (s1 _ (hv.mono (by solve | repeat first | assumption | exact Zr _ | refine Zq ?_ Zp))) Ze ?_; rintro _ h3 H3 ⟨rfl, rfl⟩ hle3) | (show G _ (.ops .seq _ (⟨some _, .call { callee := .value (.func 41), args := _, argTypes := _ }, _, _, _, none⟩ :: _) :: _) _ _ _; refine G.call callRNorm rfl rfl (s2 _ (hv2.mono (by solve | repeat first | assumption | exact Zr _ | refine Zq ?_ Zp))) Ze ?_; rintro _ h5 H5 ⟨rfl, rfl⟩ hle5) | (refine G.sliceSl (a := (d.length : Int) - b.length) (b := d.length) (a' := d.length - b.length) (b' := d.length) rfl rfl rfl (tyy rfl) (tyy rfl) rfl (by omega) (by omega) (by omega) ?_) | (show G _ (.ops .seq _ (⟨some _, .call { callee := .value (.func 62), args := _, argTypes := _ }, _, _, _, none⟩ :: _) :: _) _ _ _; refine G.call callPlain rfl rfl (ref09_plain (d.drop (d.length - b.length)) _ hwd _ (hcut.mono (by solve | repeat first | assumption | exact Zr _ | refine Zq ?_ Zp))) Ze ?_; rintro pv h6 H6 ⟨⟨p, hpc, hP⟩, rfl⟩ hle6; have hPw := hP.w) | (show G _ (.ops .seq _ (⟨some _, .call { callee := .value (.func 40), args := _, argTypes := _ }, _, _, _, none⟩ :: _) :: _) _ _ _; refine G.call callRText rfl rfl (ref09_text p pv (by omega) _ hpc) Ze ?_; rintro _ h7 H7 ⟨rfl, rfl⟩ hle7; rw [hP.text, hK]) | (refine G.atCode ?_; first | refine G.seq ?_ | refine G.region ?_ | refine G.skip ?_ | refine G.ret ?_ | (refine G.cond rfl ?_ ?_ <;> intro hc <;> (try simp only [tests, reduceCtorEq] at hc) <;> (try exact Zf))) | refine G.endOps ?_ | (refine G.atGd ?_; first | refine G.guardYes rfl rfl ?_ | (refine G.guardS rfl rfl rfl ?_ ?_ <;> intro hc <;> (try simp only [tests, reduceCtorEq] at hc) <;> (try exact Zf))) | (refine G.atBin ?_; first | (refine G.atSub ?_; first | refine G.arith rfl rfl rfl rfl rfl Zi ?_) | (refine G.atEql ?_; first | refine G.eqStr rfl rfl rfl ?_) | (refine G.atNeq ?_; first | refine G.op rfl rfl ?_) | refine G.op rfl rfl ?_) | refine G.op rfl rfl ?_ | (refine G.atLen ?_; first | refine G.lenSlice rfl (tyy rfl) rfl ?_))
    all_goals first | (exfalso; omega) | exact G.done1 rfl rfl _ (SubH.nil _) ⟨rfl, rfl⟩
end Go.Proofs.YtieibicgankemaaGreat
namespace Go.Proofs.YtieibicgankemaaGreat
set_option linter.all false
set_option maxRecDepth 4000
open Go.RowKit

structure Rl where
  who : Int
  dn : List UInt8
  wh : List UInt8
  attr : List UInt8
  rights : Int
  allow : Bool
def Rl.vals (r : Rl) : List Value := [.int .i64 r.who, str r.dn, str r.wh, str r.attr, .int .i64 r.rights, .bool r.allow]
abbrev RlD := Rl × Dn × Dn
def typM (T : List (List UInt8)) (a : List UInt8) : Bool := T.any fun t => sameT t a
def ruM (T : List (List UInt8)) (r : Rl) : Except Int (Dn × Dn) :=
  if r.who < 0 \/ 4 < r.who then .error 24 else match parseM r.dn with
  | .error e => .error e
  | .ok d => if r.who < 3 /\ d.length ≠ 0 then .error 2 else match parseM r.wh with
    | .error e => .error e
    | .ok w => if r.attr.length ≠ 0 /\ typM T r.attr = false then .error 20 else if r.rights < 1 \/ 15 < r.rights then .error 23 else .ok (d, w)
def rusM (T : List (List UInt8)) : List Rl -> Except Int (List RlD)
  | [] => .ok []
  | r :: rs => match ruM T r with
    | .error e => .error e
    | .ok x => match rusM T rs with
      | .error e => .error e
      | .ok l => .ok ((r, x) :: l)
def newM (T : List (List UInt8)) (admin : Dn) (rs : List Rl) : Except Int (List RlD) := if (printM admin).2 ≠ 0 then .error (printM admin).2 else rusM T rs
def sameD (a b : Dn) : Bool := decide (a.length = b.length) && underM a b
def speakM (who entry : Dn) (x : RlD) : Bool :=
  if x.1.who = 1 then decide (0 < who.length) else if x.1.who = 2 then sameD who entry else if x.1.who = 3 then sameD who x.2.1 else if x.1.who = 4 then decide (0 < who.length) && underM who x.2.1 else true
def rightM (rights right : Int) : Bool := decide (((rights % 18446744073709551616).toNat &&& right.toNat : Nat) ≠ 0)
def hitM (who entry : Dn) (attr : List UInt8) (right : Int) (x : RlD) : Bool :=
  rightM x.1.rights right && (decide (x.1.attr.length = 0) || sameT x.1.attr attr) && underM entry x.2.2 && speakM who entry x
def firstM (who entry : Dn) (attr : List UInt8) (right : Int) : List RlD -> Bool
  | [] => false
  | x :: l => if hitM who entry attr right x = true then x.1.allow else firstM who entry attr right l
def okRight (right : Int) : Prop := right = 1 \/ right = 2 \/ right = 4 \/ right = 8
instance (right : Int) : Decidable (okRight right) := by unfold okRight; infer_instance
def askM (who entry : Dn) (right : Int) : Prop := (printM who).2 = 0 /\ (printM entry).2 = 0 /\ okRight right
instance (who entry : Dn) (right : Int) : Decidable (askM who entry right) := by unfold askM; infer_instance
def mayM (admin : Dn) (rs : List RlD) (who entry : Dn) (attr : List UInt8) (right : Int) : Bool :=
  if askM who entry right then (if 0 < who.length /\ sameD who admin = true then true else firstM who entry attr right rs) else false
theorem chk_plain {d : Dn} (h : chkD d = 0) : chkD (d.map plainR) = 0 := by
  obtain ⟨h1, h2⟩ := (chk_iff d).1 h
  refine (chk_iff _).2 ⟨by rw [List.length_map]; exact h1, fun r hr => ?_⟩
  obtain ⟨q, hq, rfl⟩ := List.mem_map.1 hr
  exact plainR_ck (h2 q hq)
theorem key_len {a b : Dn} (ha : (printM a).2 = 0) (hb : (printM b).2 = 0) (h : txt true a = txt true b) : a.length = b.length := by
  obtain ⟨a1, a2, _⟩ := print_ok ha
  obtain ⟨b1, b2, _⟩ := print_ok hb
  have pa := parse_txt (chk_plain a1) (by rw [plain_same]; have := txt_le a; omega)
  have pb := parse_txt (chk_plain b1) (by rw [plain_same]; have := txt_le b; omega)
  rw [plain_same] at pa pb
  rw [h, pb] at pa
  injection pa with pa
  have := congrArg List.length pa
  simpa using this.symm
theorem norm_print {d : Dn} (h : (printM d).2 = 0) : normM d = (txt true d, 0) := by
  obtain ⟨h1, h2, _⟩ := print_ok h
  exact norm_of h1 h2
theorem norm_bad {d : Dn} (h : (printM d).2 ≠ 0) : (normM d).2 ≠ 0 := by unfold normM; rw [if_pos h]; exact h
theorem under_same {a b : Dn} (hl : a.length = b.length) (ha : (printM a).2 = 0) (hb : (printM b).2 = 0) : underM a b = decide (txt true a = txt true b) := by
  unfold underM
  rw [norm_print hb, if_neg (by simp only [ha]; omega), hl, Nat.sub_self, List.drop_zero]
theorem sameD_key (a b : Dn) : sameD a b = decide ((normM a).2 = 0 /\ (normM b).2 = 0 /\ (normM a).1 = (normM b).1) := by
  unfold sameD
  by_cases ha : (printM a).2 = 0
  . by_cases hb : (printM b).2 = 0
    . rw [norm_print ha, norm_print hb]
      simp only [true_and]
      by_cases hl : a.length = b.length
      . rw [under_same hl ha hb, decide_eq_true hl, Bool.true_and]
      . rw [decide_eq_false hl, Bool.false_and, decide_eq_false (fun e => hl (key_len ha hb e))]
    . have hn := norm_bad hb
      unfold underM
      rw [if_pos (.inr (.inl hn)), Bool.and_false]
      exact (decide_eq_false (fun e => hn e.2.1)).symm
  . have hn := norm_bad ha
    unfold underM
    rw [if_pos (.inl ha), Bool.and_false]
    exact (decide_eq_false (fun e => hn e.1)).symm
theorem right_div : ∀ (r : Fin 16) (k : Fin 4), decide ((r.val &&& 2 ^ k.val : Nat) ≠ 0) = decide ((r.val / 2 ^ k.val) % 2 = 1) := by decide
theorem right_mod {rights right : Int} (h1 : 1 <= rights /\ rights <= 15) (h2 : okRight right) : rightM rights right = decide (rights / right % 2 = 1) := by
  obtain ⟨n, rfl⟩ : ∃ n : Nat, rights = n := ⟨rights.toNat, by omega⟩
  unfold rightM
  rw [show (((n : Int) % 18446744073709551616).toNat) = n by omega]
  have key : ∀ k : Nat, k < 4 -> right = ((2 ^ k : Nat) : Int) -> decide ((n &&& right.toNat : Nat) ≠ 0) = decide ((n : Int) / right % 2 = 1) := by
    intro k hk hr
    have h := right_div ⟨n, by omega⟩ ⟨k, hk⟩
    rw [hr, Int.toNat_natCast]
    simp only at h
    rw [h]
    refine decide_eq_decide.2 ?_
    rw [show ((n : Int) / ((2 ^ k : Nat) : Int)) % 2 = (((n / 2 ^ k) % 2 : Nat) : Int) by push_cast; rfl]
    omega
  unfold okRight at h2
  rcases h2 with rfl | rfl | rfl | rfl
  . exact key 0 (by omega) rfl
  . exact key 1 (by omega) rfl
  . exact key 2 (by omega) rfl
  . exact key 3 (by omega) rfl
theorem rus_ok : ∀ {T : List (List UInt8)} {rs : List Rl} {l : List RlD}, rusM T rs = .ok l -> l.map (·.1) = rs /\ ∀ x ∈ l, ruM T x.1 = .ok x.2
  | T, [], l, h => by simp only [rusM, Except.ok.injEq] at h; subst h; exact ⟨rfl, fun x hx => absurd hx (by simp)⟩
  | T, r :: rs, l, h => by
    rw [rusM] at h
    split at h
    . cases h
    . rename_i x hx
      split at h
      . cases h
      . rename_i l2 h2
        injection h with h
        subst h
        obtain ⟨g1, g2⟩ := rus_ok h2
        refine ⟨by simp [g1], fun y hy => ?_⟩
        rcases List.mem_cons.1 hy with rfl | hy
        . exact hx
        . exact g2 y hy
theorem ru_ok {T : List (List UInt8)} {r : Rl} {d w : Dn} (h : ruM T r = .ok (d, w)) : 0 <= r.who /\ r.who <= 4 /\ parseM r.dn = .ok d /\ parseM r.wh = .ok w /\ 1 <= r.rights /\ r.rights <= 15 := by
  unfold ruM at h
  split at h
  . cases h
  . rename_i h1
    split at h
    . cases h
    . rename_i d1 hd
      split at h
      . cases h
      . split at h
        . cases h
        . rename_i w1 hw
          split at h
          . cases h
          . split at h
            . cases h
            . rename_i h5
              injection h with h
              injection h with e1 e2
              subst e1 e2
              exact ⟨by omega, by omega, hd, hw, by omega, by omega⟩
end Go.Proofs.YtieibicgankemaaGreat
