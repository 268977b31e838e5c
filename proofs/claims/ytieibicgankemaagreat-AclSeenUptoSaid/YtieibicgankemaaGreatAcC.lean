/- acl.New; castellanref22.Check. -/
import Derived.Test.YtieibicgankemaaGreatAcA
import Derived.Test.YtieibicgankemaaGreatAcB
namespace Go.Proofs.YtieibicgankemaaGreat
set_option linter.all false
set_option maxRecDepth 4000
open Go.RowKit

theorem callNewA : Callable Tryz.prog 4 := ⟨_, Tryz.func4, by kernel_rfl, rfl⟩
def rlR (rs : List Rl) : List (List Value) := rs.map Rl.vals
theorem rlR_length (rs : List Rl) : (rlR rs).length = rs.length := by simp [rlR]
theorem rlR_get {rs : List Rl} {i : Nat} {r : Rl} (h : rs[i]? = some r) : (rlR rs)[i]? = some [.int .i64 r.who, str r.dn, str r.wh, str r.attr, .int .i64 r.rights, .bool r.allow] := by simp [rlR, h, Rl.vals]
def RlB (rs : List Rl) : Prop := rs.length <= 10000000 /\ ∀ r ∈ rs, r.dn.length <= 10000000 /\ r.wh.length <= 10000000 /\ r.attr.length <= 10000000
theorem dn_ParseO {s : List UInt8} {d : Dn} (hm : parseM s = .ok d) (hs : s.length <= 10000000) (h : Heap) : Spec Tryz.prog 17 [str s] h [] (fun u h' H' => (∃ v, u = .tuple #[v, .int .i64 0] /\ DnC h' d v) /\ H' = []) := by
  have := dn_Parse s hs h
  rw [hm] at this
  exact this
theorem dn_ParseN {s : List UInt8} {e : Int} (hm : parseM s = .error e) (hs : s.length <= 10000000) (h : Heap) : Spec Tryz.prog 17 [str s] h [] (fun u h' H' => u = .tuple #[.slice none 0 0, .int .i64 e] /\ H' = []) := by
  have := dn_Parse s hs h
  rw [hm] at this
  exact this
theorem ref09_ParseO {s : List UInt8} {d : Dn} (hm : parseM s = .ok d) (hs : s.length <= 10000000) (h : Heap) : Spec Tryz.prog 42 [str s] h [] (fun u h' H' => (∃ v, u = .tuple #[v, .int .i64 0] /\ DnC h' d v) /\ H' = []) := by
  have := ref09_Parse s hs h
  rw [hm] at this
  exact this
def appR (d : List RlD) : Except Int (List RlD) -> Except Int (List RlD)
  | .error e => .error e
  | .ok l => .ok (d ++ l)
theorem appR_nil (x : Except Int (List RlD)) : appR [] x = x := by cases x <;> rfl
theorem ru_ways (T : List (List UInt8)) (r : Rl) :
    ((r.who < 0 \/ 4 < r.who) /\ ruM T r = .error 24) ∨
    (¬ (r.who < 0 \/ 4 < r.who) /\ ∃ e, parseM r.dn = .error e /\ ruM T r = .error e) ∨
    (¬ (r.who < 0 \/ 4 < r.who) /\ ∃ d, parseM r.dn = .ok d /\ (r.who < 3 /\ d.length ≠ 0) /\ ruM T r = .error 2) ∨
    (¬ (r.who < 0 \/ 4 < r.who) /\ ∃ d, parseM r.dn = .ok d /\ ¬ (r.who < 3 /\ d.length ≠ 0) /\ ∃ e, parseM r.wh = .error e /\ ruM T r = .error e) ∨
    (¬ (r.who < 0 \/ 4 < r.who) /\ ∃ d, parseM r.dn = .ok d /\ ¬ (r.who < 3 /\ d.length ≠ 0) /\ ∃ w, parseM r.wh = .ok w /\ (r.attr.length ≠ 0 /\ typM T r.attr = false) /\ ruM T r = .error 20) ∨
    (¬ (r.who < 0 \/ 4 < r.who) /\ ∃ d, parseM r.dn = .ok d /\ ¬ (r.who < 3 /\ d.length ≠ 0) /\ ∃ w, parseM r.wh = .ok w /\ (r.attr.length ≠ 0 -> typM T r.attr = true) /\ (r.rights < 1 \/ 15 < r.rights) /\ ruM T r = .error 23) ∨
    (¬ (r.who < 0 \/ 4 < r.who) /\ ∃ d, parseM r.dn = .ok d /\ ¬ (r.who < 3 /\ d.length ≠ 0) /\ ∃ w, parseM r.wh = .ok w /\ (r.attr.length ≠ 0 -> typM T r.attr = true) /\ ¬ (r.rights < 1 \/ 15 < r.rights) /\ ruM T r = .ok (d, w)) := by
  unfold ruM
  by_cases h1 : r.who < 0 \/ 4 < r.who
  . rw [if_pos h1]; exact .inl ⟨h1, rfl⟩
  rw [if_neg h1]
  cases hd : parseM r.dn with
  | error e => exact .inr (.inl ⟨h1, e, rfl, rfl⟩)
  | ok d =>
    simp only
    by_cases h2 : r.who < 3 /\ d.length ≠ 0
    . rw [if_pos h2]; exact .inr (.inr (.inl ⟨h1, d, rfl, h2, rfl⟩))
    rw [if_neg h2]
    cases hw : parseM r.wh with
    | error e => exact .inr (.inr (.inr (.inl ⟨h1, d, rfl, h2, e, rfl, rfl⟩)))
    | ok w =>
      simp only
      by_cases h3 : r.attr.length ≠ 0 /\ typM T r.attr = false
      . rw [if_pos h3]; exact .inr (.inr (.inr (.inr (.inl ⟨h1, d, rfl, h2, w, rfl, h3, rfl⟩))))
      rw [if_neg h3]
      have h3' : r.attr.length ≠ 0 -> typM T r.attr = true := fun h9 => by
        cases h8 : typM T r.attr with
        | true => rfl
        | false => exact absurd ⟨h9, h8⟩ h3
      by_cases h4 : r.rights < 1 \/ 15 < r.rights
      . rw [if_pos h4]; exact .inr (.inr (.inr (.inr (.inr (.inl ⟨h1, d, rfl, h2, w, rfl, h3', h4, rfl⟩)))))
      . rw [if_neg h4]; exact .inr (.inr (.inr (.inr (.inr (.inr ⟨h1, d, rfl, h2, w, rfl, h3', h4, rfl⟩)))))
def NewR (h : Heap) (adm : Dn) (u : Value) : Except Int (List RlD) -> Prop
  | .error e => u = .tuple #[.pointer none, .int .i64 e] /\ e ≠ 0
  | .ok l => ∃ g, u = .tuple #[.pointer (some ⟨g, 0, none⟩), .int .i64 0] /\ BookC h adm l g
set_option maxHeartbeats 8000000 in
theorem acl_New (T : List Ty4) (hT : TyOk4 T) (adm : Dn) (rs : List Rl) (vT vC vA vR : Value) (hrb : RlB rs) (h0 : dnW adm <= 10000000) (h : Heap) (hS : HSl h vT 4 (tyR T)) (hA : DnC h adm vA) (hR : HSl h vR 6 (rlR rs)) :
    Spec Tryz.prog 4 [.agg #[vT, vC], vA, vR] h [] (fun u h' H' => NewR h' adm u (newM (tyN T) adm rs) /\ H' = []) := by
  have s1 := dn_Print adm vA h0
  have s2 := dn_Join adm [] vA (.slice none 0 0) h0 (by decide)
  have hrl := hR.len
  rw [rlR_length] at hrl
  obtain ⟨AR, cR, rfl, _⟩ := hR.form
  rw [rlR_length] at *
  obtain ⟨hrb0, hrb⟩ := hrb
  unfold newM
  generalize hP1 : printM adm = P1 at *
  obtain ⟨p1, e1⟩ := P1
  simp only at s1 ⊢
  by_cases he : e1 ≠ 0
  . rw [if_pos he]
    refine Spec.enter Tryz.func4 rfl rfl ?_; intro w0
    repeat' (first | (show G _ (.ops .seq _ (⟨some _, .call { callee := .value (.func 15), args := _, argTypes := _ }, _, _, _, none⟩ :: _) :: _) _ _ _; refine G.call callPrint rfl rfl (s1 _ (hA.mono (by solve | repeat first | assumption | exact Zr _ | refine Zq ?_ Zp))) Ze ?_; rintro _ h3 H3 ⟨rfl, rfl⟩ hle3) | (refine G.atCode ?_; first | refine G.seq ?_ | refine G.region ?_ | refine G.ret ?_ | (refine G.cond rfl ?_ ?_ <;> intro hc <;> (try simp only [tests, reduceCtorEq] at hc) <;> (try exact Zf))) | refine G.endOps ?_ | (refine G.atBin ?_; first | (refine G.atNeq ?_; first | refine G.op rfl rfl ?_)) | refine G.op rfl rfl ?_ | (refine G.atBox ?_; refine G.box rfl rfl rfl ?_; intro _))
    all_goals first | (exfalso; omega) | exact G.done2 rfl rfl rfl [] (SubH.nil _) ⟨⟨rfl, he⟩, rfl⟩
  rw [if_neg he]
  generalize hRR : rusM (tyN T) rs = R
  have hR0 : appR [] (rusM (tyN T) (rs.drop 0)) = R := by rw [appR_nil]; exact hRR
  clear hRR
  refine Spec.enter Tryz.func4 rfl rfl ?_; intro w0
  repeat' (first | (show G _ (.ops .seq _ (⟨some _, .call { callee := .value (.func 15), args := _, argTypes := _ }, _, _, _, none⟩ :: _) :: _) _ _ _; refine G.call callPrint rfl rfl (s1 _ (hA.mono (by solve | repeat first | assumption | exact Zr _ | refine Zq ?_ Zp))) Ze ?_; rintro _ h3 H3 ⟨rfl, rfl⟩ hle3) | (show G _ (.ops .seq _ (⟨some _, .call { callee := .value (.func 16), args := _, argTypes := _ }, _, _, _, none⟩ :: _) :: _) _ _ _; refine G.call callJoin9 rfl rfl (s2 _ (hA.mono (by solve | repeat first | assumption | exact Zr _ | refine Zq ?_ Zp)) (DnC.nil _)) Ze ?_; rintro jv h4 H4 ⟨hjv, rfl⟩ hle4; (obtain ⟨jA, jc, rfl, hjw1, hjw2⟩ := hjv.form)) | (refine G.atCode ?_; refine G.stopLoop ?_) | (refine G.atCode ?_; first | refine G.seq ?_ | refine G.region ?_ | refine G.block ?_ | refine G.skip ?_ | (refine G.cond rfl ?_ ?_ <;> intro hc <;> (try simp only [tests, reduceCtorEq] at hc) <;> (try exact Zf))) | refine G.endOps ?_ | (refine G.atBin ?_; first | (refine G.atNeq ?_; first | refine G.op rfl rfl ?_)) | refine G.op rfl rfl ?_ | (refine G.atLen ?_; first | refine G.lenSlice rfl (tyy rfl) rfl ?_) | (refine G.atBox ?_; refine G.box rfl rfl rfl ?_; intro _) | (refine G.atBld ?_; refine G.build (tyy rfl) rfl rfl rfl ?_))
  all_goals first | (exfalso; omega) | skip
  rename_i gS gB
  refine G.nilRow 64 8 ?_
  refine G.go ?_
  refine G.loop (σ := Nat × List RlD × List (List Value) × Option Addr × Nat) (fun x => [(32, .int .i64 x.1), (31, .int .i64 rs.length), (30, .slice AR rs.length cR), (10, .pointer (some ⟨gB, 0, none⟩)), (3, .pointer (some ⟨gS, 0, none⟩))])
    (fun x => [.blk gB [.slice jA ([] ++ adm).length jc, .slice x.2.2.2.1 x.2.2.1.length x.2.2.2.2] 54, .row (.slice x.2.2.2.1 x.2.2.1.length x.2.2.2.2) 64 8 x.2.2.1, .blk gS [vT, vC] 35])
    (fun x h' => x.1 <= rs.length /\ x.2.2.1.length = x.1 /\ RusC h' x.2.1 x.2.2.1 /\ appR x.2.1 (rusM (tyN T) (rs.drop x.1)) = R) (fun x => rs.length - x.1) ⟨0, [], [], none, 0⟩ ⟨rfl, sint (by simp), rfl, rfl, rfl, trivial⟩ Zu ⟨Nat.zero_le _, rfl, rfl, hR0⟩ ?_
  rintro ⟨i, done, rows, A9, c9⟩ h5 hle5 ⟨hi, hil, hrc, hRi⟩
  simp only at hi hil hrc hRi
  have hjv := hjv.mono hle5
  have hhle : Heap.le h h5 := (by solve | repeat first | assumption | exact Zr _ | refine Zq ?_ Zp)
  refine G.norm (by (try dsimp only) <;> exact rfl) (by (try dsimp only) <;> exact rfl) ?_
  by_cases hlt : i < rs.length
  . obtain ⟨r, hr⟩ : ∃ r, rs[i]? = some r := ⟨rs[i], List.getElem?_eq_getElem hlt⟩
    have hget := rlR_get hr
    have hl6 : ([.int .i64 r.who, str r.dn, str r.wh, str r.attr, .int .i64 r.rights, .bool r.allow] : List Value).length = 6 := rfl
    obtain ⟨b1, b2, b3⟩ := hrb r (List.mem_of_getElem? hr)
    obtain ⟨_, he9⟩ := List.getElem?_eq_some_iff.1 hr
    rw [List.drop_eq_getElem_cons hlt, he9, rusM] at hRi
    rcases ru_ways (tyN T) r with ⟨w1, wr⟩ | ⟨w1, e, hd, wr⟩ | ⟨w1, d, hd, w2, wr⟩ | ⟨w1, d, hd, w2, e, hw, wr⟩ | ⟨w1, d, hd, w2, w, hw, w3, wr⟩ | ⟨w1, d, hd, w2, w, hw, w3, w4, wr⟩ | ⟨w1, d, hd, w2, w, hw, w3, w4, wr⟩
    . rw [wr] at hRi
      simp only [appR] at hRi
      subst hRi
      repeat' (first | (refine G.atIdx ?_; refine G.idxImm rfl rfl (tyy rfl) (tyy rfl) (hR.mono (by solve | repeat first | assumption | exact Zr _ | refine Zq ?_ Zp)) Zj rfl (by rw [rlR_length]; omega) ?_; intro pp rr hx9 hp9; (rw [hget] at hx9); (obtain rfl := Option.some.inj hx9)) | (refine G.atCode ?_; first | refine G.seq ?_ | refine G.region ?_ | refine G.block ?_ | refine G.skip ?_ | refine G.ret ?_ | (refine G.cond rfl ?_ ?_ <;> intro hc <;> (try simp only [tests, reduceCtorEq] at hc) <;> (try exact Zf))) | refine G.endOps ?_ | (refine G.atGd ?_; first | refine G.guardYes rfl rfl ?_ | refine G.guardNoS rfl rfl rfl ?_ | (refine G.guardS rfl rfl rfl ?_ ?_ <;> intro hc <;> (try simp only [tests, reduceCtorEq] at hc) <;> (try exact Zf))) | (refine G.atBin ?_; first | refine G.op rfl rfl ?_) | refine G.op rfl rfl ?_ | (refine G.atLoad ?_; first | refine G.loadOwn1 rfl (tyy rfl) rfl rfl Za rfl rfl ?_ | refine G.loadImmA rfl (tyy rfl) rfl rfl Zp Zp rfl ?_) | (refine G.atFld ?_; first | refine G.fieldAddr rfl (tyy rfl) rfl rfl ?_) | (refine G.atSto ?_; refine G.storeOwn rfl rfl (tyy rfl) Za rfl rfl rfl rfl ?_) | (refine G.atAlc ?_; refine G.alloc (tyy rfl) rfl rfl ?_; intro _))
      all_goals first | (exfalso; omega) | exact G.done2 rfl rfl rfl [] (SubH.nil _) ⟨⟨rfl, by decide⟩, rfl⟩ | (exfalso; simp_all; done) | (exfalso; have q1 := w3; simp_all; done) | skip
    . rw [wr] at hRi
      simp only [appR] at hRi
      subst hRi
      have q1 := parse_err hd
      repeat' (first | (refine G.atIdx ?_; refine G.idxImm rfl rfl (tyy rfl) (tyy rfl) (hR.mono (by solve | repeat first | assumption | exact Zr _ | refine Zq ?_ Zp)) Zj rfl (by rw [rlR_length]; omega) ?_; intro pp rr hx9 hp9; (rw [hget] at hx9); (obtain rfl := Option.some.inj hx9)) | (show G _ (.ops .seq _ (⟨some _, .call { callee := .value (.func 17), args := _, argTypes := _ }, _, _, _, none⟩ :: _) :: _) _ _ _; refine G.call callParse rfl rfl (dn_ParseN hd (by omega) _) Ze ?_; rintro _ hd Hd ⟨rfl, rfl⟩ hled) | (refine G.atCode ?_; first | refine G.seq ?_ | refine G.region ?_ | refine G.block ?_ | refine G.skip ?_ | refine G.ret ?_ | (refine G.cond rfl ?_ ?_ <;> intro hc <;> (try simp only [tests, reduceCtorEq] at hc) <;> (try exact Zf))) | refine G.endOps ?_ | (refine G.atGd ?_; first | refine G.guardYes rfl rfl ?_ | (refine G.guardS rfl rfl rfl ?_ ?_ <;> intro hc <;> (try simp only [tests, reduceCtorEq] at hc) <;> (try exact Zf))) | (refine G.atBin ?_; first | (refine G.atNeq ?_; first | refine G.op rfl rfl ?_) | refine G.op rfl rfl ?_) | refine G.op rfl rfl ?_ | (refine G.atLoad ?_; first | refine G.loadOwn1 rfl (tyy rfl) rfl rfl Za rfl rfl ?_ | refine G.loadImmA rfl (tyy rfl) rfl rfl Zp Zp rfl ?_) | (refine G.atFld ?_; first | refine G.fieldAddr rfl (tyy rfl) rfl rfl ?_) | (refine G.atSto ?_; refine G.storeOwn rfl rfl (tyy rfl) Za rfl rfl rfl rfl ?_) | (refine G.atAlc ?_; refine G.alloc (tyy rfl) rfl rfl ?_; intro _))
      all_goals first | (exfalso; omega) | exact G.done2 rfl rfl rfl [] (SubH.nil _) ⟨⟨rfl, (fun e0 => by omega)⟩, rfl⟩ | (exfalso; simp_all; done) | (exfalso; have q1 := w3; simp_all; done) | skip
    . rw [wr] at hRi
      simp only [appR] at hRi
      subst hRi
      repeat' (first | (refine G.atIdx ?_; refine G.idxImm rfl rfl (tyy rfl) (tyy rfl) (hR.mono (by solve | repeat first | assumption | exact Zr _ | refine Zq ?_ Zp)) Zj rfl (by rw [rlR_length]; omega) ?_; intro pp rr hx9 hp9; (rw [hget] at hx9); (obtain rfl := Option.some.inj hx9)) | (show G _ (.ops .seq _ (⟨some _, .call { callee := .value (.func 17), args := _, argTypes := _ }, _, _, _, none⟩ :: _) :: _) _ _ _; refine G.call callParse rfl rfl (dn_ParseO hd (by omega) _) Ze ?_; rintro _ hd Hd ⟨⟨vd, rfl, cd⟩, rfl⟩ hled; obtain ⟨Ad, kd, rfl, _, md⟩ := cd.form) | (refine G.atCode ?_; first | refine G.seq ?_ | refine G.region ?_ | refine G.block ?_ | refine G.skip ?_ | refine G.ret ?_ | (refine G.cond rfl ?_ ?_ <;> intro hc <;> (try simp only [tests, reduceCtorEq] at hc) <;> (try exact Zf))) | refine G.endOps ?_ | (refine G.atGd ?_; first | refine G.guardYes rfl rfl ?_ | (refine G.guardS rfl rfl rfl ?_ ?_ <;> intro hc <;> (try simp only [tests, reduceCtorEq] at hc) <;> (try exact Zf))) | (refine G.atBin ?_; first | (refine G.atNeq ?_; first | refine G.op rfl rfl ?_) | refine G.op rfl rfl ?_) | refine G.op rfl rfl ?_ | (refine G.atLen ?_; first | refine G.lenSlice rfl (tyy rfl) rfl ?_) | (refine G.atLoad ?_; first | refine G.loadOwn1 rfl (tyy rfl) rfl rfl Za rfl rfl ?_ | refine G.loadImmA rfl (tyy rfl) rfl rfl Zp Zp rfl ?_) | (refine G.atFld ?_; first | refine G.fieldAddr rfl (tyy rfl) rfl rfl ?_) | (refine G.atSto ?_; refine G.storeOwn rfl rfl (tyy rfl) Za rfl rfl rfl rfl ?_) | (refine G.atAlc ?_; refine G.alloc (tyy rfl) rfl rfl ?_; intro _))
      all_goals first | (exfalso; omega) | exact G.done2 rfl rfl rfl [] (SubH.nil _) ⟨⟨rfl, by decide⟩, rfl⟩ | (exfalso; simp_all; done) | (exfalso; have q1 := w3; simp_all; done) | skip
    . rw [wr] at hRi
      simp only [appR] at hRi
      subst hRi
      have q1 := parse_err hw
      repeat' (first | (refine G.atIdx ?_; refine G.idxImm rfl rfl (tyy rfl) (tyy rfl) (hR.mono (by solve | repeat first | assumption | exact Zr _ | refine Zq ?_ Zp)) Zj rfl (by rw [rlR_length]; omega) ?_; intro pp rr hx9 hp9; (rw [hget] at hx9); (obtain rfl := Option.some.inj hx9)) | (show G _ (.ops .seq _ (⟨some _, .call { callee := .value (.func 17), args := _, argTypes := _ }, _, _, _, none⟩ :: _) :: _) _ _ _; refine G.call callParse rfl rfl (dn_ParseO hd (by omega) _) Ze ?_; rintro _ hd Hd ⟨⟨vd, rfl, cd⟩, rfl⟩ hled; obtain ⟨Ad, kd, rfl, _, md⟩ := cd.form) | (show G _ (.ops .seq _ (⟨some _, .call { callee := .value (.func 17), args := _, argTypes := _ }, _, _, _, none⟩ :: _) :: _) _ _ _; refine G.call callParse rfl rfl (dn_ParseN hw (by omega) _) Ze ?_; rintro _ hw Hw ⟨rfl, rfl⟩ hlew) | (refine G.atCode ?_; first | refine G.seq ?_ | refine G.region ?_ | refine G.block ?_ | refine G.skip ?_ | refine G.ret ?_ | (refine G.cond rfl ?_ ?_ <;> intro hc <;> (try simp only [tests, reduceCtorEq] at hc) <;> (try exact Zf))) | refine G.endOps ?_ | (refine G.atGd ?_; first | refine G.guardYes rfl rfl ?_ | refine G.guardNoS rfl rfl rfl ?_ | (refine G.guardS rfl rfl rfl ?_ ?_ <;> intro hc <;> (try simp only [tests, reduceCtorEq] at hc) <;> (try exact Zf))) | (refine G.atBin ?_; first | (refine G.atNeq ?_; first | refine G.op rfl rfl ?_) | refine G.op rfl rfl ?_) | refine G.op rfl rfl ?_ | (refine G.atLen ?_; first | refine G.lenSlice rfl (tyy rfl) rfl ?_) | (refine G.atLoad ?_; first | refine G.loadOwn1 rfl (tyy rfl) rfl rfl Za rfl rfl ?_ | refine G.loadImmA rfl (tyy rfl) rfl rfl Zp Zp rfl ?_) | (refine G.atFld ?_; first | refine G.fieldAddr rfl (tyy rfl) rfl rfl ?_) | (refine G.atSto ?_; refine G.storeOwn rfl rfl (tyy rfl) Za rfl rfl rfl rfl ?_) | (refine G.atAlc ?_; refine G.alloc (tyy rfl) rfl rfl ?_; intro _))
      all_goals first | (exfalso; omega) | exact G.done2 rfl rfl rfl [] (SubH.nil _) ⟨⟨rfl, (fun e0 => by omega)⟩, rfl⟩ | (exfalso; simp_all; done) | (exfalso; have q1 := w3; simp_all; done) | skip
    . rw [wr] at hRi
      simp only [appR] at hRi
      subst hRi
      repeat' (first | (refine G.atIdx ?_; refine G.idxImm rfl rfl (tyy rfl) (tyy rfl) (hR.mono (by solve | repeat first | assumption | exact Zr _ | refine Zq ?_ Zp)) Zj rfl (by rw [rlR_length]; omega) ?_; intro pp rr hx9 hp9; (rw [hget] at hx9); (obtain rfl := Option.some.inj hx9)) | (show G _ (.ops .seq _ (⟨some _, .call { callee := .value (.func 17), args := _, argTypes := _ }, _, _, _, none⟩ :: _) :: _) _ _ _; refine G.call callParse rfl rfl (dn_ParseO hd (by omega) _) Ze ?_; rintro _ hd Hd ⟨⟨vd, rfl, cd⟩, rfl⟩ hled; obtain ⟨Ad, kd, rfl, _, md⟩ := cd.form) | (show G _ (.ops .seq _ (⟨some _, .call { callee := .value (.func 17), args := _, argTypes := _ }, _, _, _, none⟩ :: _) :: _) _ _ _; refine G.call callParse rfl rfl (dn_ParseO hw (by omega) _) Ze ?_; rintro _ hw Hw ⟨⟨vw, rfl, cw⟩, rfl⟩ hlew; obtain ⟨Aw, kw, rfl, _, mw⟩ := cw.form) | (show G _ (.ops .seq _ (⟨some _, .call { callee := .value (.func 18), args := _, argTypes := _ }, _, _, _, none⟩ :: _) :: _) _ _ _; refine G.call callFind rfl rfl (schema_Find T hT vT vC r.attr (by omega) _ (hS.mono (by solve | repeat first | assumption | exact Zr _ | refine Zq ?_ Zp))) Ze ?_; rintro _ hf Hf ⟨⟨ft, rfl⟩, rfl⟩ hlef) | (refine G.atCode ?_; first | refine G.seq ?_ | refine G.region ?_ | refine G.block ?_ | refine G.skip ?_ | refine G.anyIn mixedOk ?_ | refine G.ret ?_ | (refine G.cond rfl ?_ ?_ <;> intro hc <;> (try simp only [tests, reduceCtorEq] at hc) <;> (try exact Zf))) | refine G.endOps ?_ | refine G.endHeld ?_ | refine G.back ?_ | refine G.endBlk ?_ | (refine G.atAny ?_; first | refine G.anyAutoX slB rfl rfl Zw Zg Zd ?_ | refine G.anyOne rfl Zw Zg Zu ?_ | refine G.anyEndX Zw ?_) | (refine G.atGd ?_; first | refine G.guardYes rfl rfl ?_ | refine G.guardNoS rfl rfl rfl ?_ | (refine G.guardS rfl rfl rfl ?_ ?_ <;> intro hc <;> (try simp only [tests, reduceCtorEq] at hc) <;> (try exact Zf))) | (refine G.atBin ?_; first | (refine G.atAdd ?_; first | refine G.arith rfl rfl rfl rfl rfl Zi ?_) | (refine G.atNeq ?_; first | refine G.op rfl rfl ?_ | refine G.neStr0 rfl rfl rfl ?_) | refine G.op rfl rfl ?_) | refine G.op rfl rfl ?_ | (refine G.atLen ?_; first | refine G.lenSlice rfl (tyy rfl) rfl ?_) | (refine G.atLoad ?_; first | refine G.loadOwn1 rfl (tyy rfl) rfl rfl Za rfl rfl ?_ | refine G.loadOwnA rfl (tyy rfl) rfl rfl Za rfl rfl ?_ | refine G.loadImmA rfl (tyy rfl) rfl rfl Zp Zp rfl ?_) | (refine G.atFld ?_; first | refine G.fieldAddr rfl (tyy rfl) rfl rfl ?_) | (refine G.atSto ?_; refine G.storeOwn rfl rfl (tyy rfl) Za rfl rfl rfl rfl ?_) | (refine G.atAlc ?_; refine G.alloc (tyy rfl) rfl rfl ?_; intro _) | (refine G.atBld ?_; refine G.build (tyy rfl) rfl rfl rfl ?_) | (refine G.atBsl ?_; refine G.buildSlice (tyy rfl) (tyy rfl) rfl rfl rfl rfl ?_; intro _) | (refine G.atApp ?_; first | (refine G.append1 rfl rfl (tyy rfl) (tyy rfl) rfl rfl Za Za rfl rfl rfl Zo ?_; intro _; refine G.rowForm Take.hd ?_; rintro _ _ rfl)))
      all_goals first | (exfalso; omega) | exact G.done2 rfl rfl rfl [] (SubH.nil _) ⟨⟨rfl, by decide⟩, rfl⟩ | (exfalso; simp_all; done) | (exfalso; have q1 := w3; simp_all; done) | skip
    . rw [wr] at hRi
      simp only [appR] at hRi
      subst hRi
      repeat' (first | (refine G.atIdx ?_; refine G.idxImm rfl rfl (tyy rfl) (tyy rfl) (hR.mono (by solve | repeat first | assumption | exact Zr _ | refine Zq ?_ Zp)) Zj rfl (by rw [rlR_length]; omega) ?_; intro pp rr hx9 hp9; (rw [hget] at hx9); (obtain rfl := Option.some.inj hx9)) | (show G _ (.ops .seq _ (⟨some _, .call { callee := .value (.func 17), args := _, argTypes := _ }, _, _, _, none⟩ :: _) :: _) _ _ _; refine G.call callParse rfl rfl (dn_ParseO hd (by omega) _) Ze ?_; rintro _ hd Hd ⟨⟨vd, rfl, cd⟩, rfl⟩ hled; obtain ⟨Ad, kd, rfl, _, md⟩ := cd.form) | (show G _ (.ops .seq _ (⟨some _, .call { callee := .value (.func 17), args := _, argTypes := _ }, _, _, _, none⟩ :: _) :: _) _ _ _; refine G.call callParse rfl rfl (dn_ParseO hw (by omega) _) Ze ?_; rintro _ hw Hw ⟨⟨vw, rfl, cw⟩, rfl⟩ hlew; obtain ⟨Aw, kw, rfl, _, mw⟩ := cw.form) | (show G _ (.ops .seq _ (⟨some _, .call { callee := .value (.func 18), args := _, argTypes := _ }, _, _, _, none⟩ :: _) :: _) _ _ _; refine G.call callFind rfl rfl (schema_Find T hT vT vC r.attr (by omega) _ (hS.mono (by solve | repeat first | assumption | exact Zr _ | refine Zq ?_ Zp))) Ze ?_; rintro _ hf Hf ⟨⟨ft, rfl⟩, rfl⟩ hlef) | (refine G.atCode ?_; first | refine G.seq ?_ | refine G.region ?_ | refine G.block ?_ | refine G.skip ?_ | refine G.ret ?_ | (refine G.cond rfl ?_ ?_ <;> intro hc <;> (try simp only [tests, reduceCtorEq] at hc) <;> (try exact Zf))) | refine G.endOps ?_ | (refine G.atGd ?_; first | refine G.guardYes rfl rfl ?_ | refine G.guardNoS rfl rfl rfl ?_ | (refine G.guardS rfl rfl rfl ?_ ?_ <;> intro hc <;> (try simp only [tests, reduceCtorEq] at hc) <;> (try exact Zf))) | (refine G.atBin ?_; first | (refine G.atNeq ?_; first | refine G.op rfl rfl ?_ | refine G.neStr0 rfl rfl rfl ?_) | refine G.op rfl rfl ?_) | refine G.op rfl rfl ?_ | (refine G.atLen ?_; first | refine G.lenSlice rfl (tyy rfl) rfl ?_) | (refine G.atLoad ?_; first | refine G.loadOwn1 rfl (tyy rfl) rfl rfl Za rfl rfl ?_ | refine G.loadOwnA rfl (tyy rfl) rfl rfl Za rfl rfl ?_ | refine G.loadImmA rfl (tyy rfl) rfl rfl Zp Zp rfl ?_) | (refine G.atFld ?_; first | refine G.fieldAddr rfl (tyy rfl) rfl rfl ?_) | (refine G.atSto ?_; refine G.storeOwn rfl rfl (tyy rfl) Za rfl rfl rfl rfl ?_) | (refine G.atAlc ?_; refine G.alloc (tyy rfl) rfl rfl ?_; intro _))
      all_goals first | (exfalso; omega) | exact G.done2 rfl rfl rfl [] (SubH.nil _) ⟨⟨rfl, by decide⟩, rfl⟩ | (exfalso; simp_all; done) | (exfalso; have q1 := w3; simp_all; done) | skip
    . rw [wr] at hRi
      simp only at hRi
      have hRn : appR (done ++ [(r, d, w)]) (rusM (tyN T) (rs.drop (i + 1))) = R := by
        rw [<- hRi]
        cases rusM (tyN T) (rs.drop (i + 1)) <;> simp [appR]
      have hwd := (parse_ok hd).w
      have hww := (parse_ok hw).w
      repeat' (first | (refine G.atIdx ?_; refine G.idxImm rfl rfl (tyy rfl) (tyy rfl) (hR.mono (by solve | repeat first | assumption | exact Zr _ | refine Zq ?_ Zp)) Zj rfl (by rw [rlR_length]; omega) ?_; intro pp rr hx9 hp9; (rw [hget] at hx9); (obtain rfl := Option.some.inj hx9)) | (show G _ (.ops .seq _ (⟨some _, .call { callee := .value (.func 17), args := _, argTypes := _ }, _, _, _, none⟩ :: _) :: _) _ _ _; refine G.call callParse rfl rfl (dn_ParseO hd (by omega) _) Ze ?_; rintro _ hd Hd ⟨⟨vd, rfl, cd⟩, rfl⟩ hled; obtain ⟨Ad, kd, rfl, _, md⟩ := cd.form) | (show G _ (.ops .seq _ (⟨some _, .call { callee := .value (.func 17), args := _, argTypes := _ }, _, _, _, none⟩ :: _) :: _) _ _ _; refine G.call callParse rfl rfl (dn_ParseO hw (by omega) _) Ze ?_; rintro _ hw Hw ⟨⟨vw, rfl, cw⟩, rfl⟩ hlew; obtain ⟨Aw, kw, rfl, _, mw⟩ := cw.form) | (show G _ (.ops .seq _ (⟨some _, .call { callee := .value (.func 18), args := _, argTypes := _ }, _, _, _, none⟩ :: _) :: _) _ _ _; refine G.call callFind rfl rfl (schema_Find T hT vT vC r.attr (by omega) _ (hS.mono (by solve | repeat first | assumption | exact Zr _ | refine Zq ?_ Zp))) Ze ?_; rintro _ hf Hf ⟨⟨ft, rfl⟩, rfl⟩ hlef) | (refine G.atApp ?_; refine G.append1 rfl rfl (tyy rfl) (tyy rfl) rfl rfl Za Za rfl rfl rfl Zo ?_; intro _; refine G.rowForm Take.hd ?_; rintro _ _ rfl) | (refine G.atCode ?_; first | refine G.seq ?_ | refine G.region ?_ | refine G.block ?_ | refine G.skip ?_ | refine G.anyIn mixedOk ?_ | refine G.ret ?_ | (refine G.cond rfl ?_ ?_ <;> intro hc <;> (try simp only [tests, reduceCtorEq] at hc) <;> (try exact Zf))) | refine G.endOps ?_ | refine G.endHeld ?_ | refine G.back ?_ | refine G.endBlk ?_ | (refine G.atAny ?_; first | refine G.anyAutoX slB rfl rfl Zw Zg Zd ?_ | refine G.anyOne rfl Zw Zg Zu ?_ | refine G.anyEndX Zw ?_) | (refine G.atGd ?_; first | refine G.guardYes rfl rfl ?_ | refine G.guardNoS rfl rfl rfl ?_ | (refine G.guardS rfl rfl rfl ?_ ?_ <;> intro hc <;> (try simp only [tests, reduceCtorEq] at hc) <;> (try exact Zf))) | (refine G.atBin ?_; first | (refine G.atAdd ?_; first | refine G.arith rfl rfl rfl rfl rfl Zi ?_) | (refine G.atNeq ?_; first | refine G.op rfl rfl ?_ | refine G.neStr0 rfl rfl rfl ?_) | refine G.op rfl rfl ?_) | refine G.op rfl rfl ?_ | (refine G.atLen ?_; first | refine G.lenSlice rfl (tyy rfl) rfl ?_) | (refine G.atLoad ?_; first | refine G.loadOwn1 rfl (tyy rfl) rfl rfl Za rfl rfl ?_ | refine G.loadOwnA rfl (tyy rfl) rfl rfl Za rfl rfl ?_ | refine G.loadImmA rfl (tyy rfl) rfl rfl Zp Zp rfl ?_) | (refine G.atFld ?_; first | refine G.fieldAddr rfl (tyy rfl) rfl rfl ?_) | (refine G.atSto ?_; refine G.storeOwn rfl rfl (tyy rfl) Za rfl rfl rfl rfl ?_) | (refine G.atAlc ?_; refine G.alloc (tyy rfl) rfl rfl ?_; intro _) | (refine G.atBld ?_; refine G.build (tyy rfl) rfl rfl rfl ?_) | (refine G.atBsl ?_; refine G.buildSlice (tyy rfl) (tyy rfl) rfl rfl rfl rfl ?_; intro _))
      all_goals first | (exfalso; omega) | (exfalso; simp_all; done) | skip
      all_goals
        rename_i A' c'
        exact G.again ⟨i + 1, done ++ [(r, d, w)], rows ++ [ruV r (.slice Ad d.length kd) (.slice Aw w.length kw)], A', c'⟩ ⟨sint (by simp), rfl, rfl, rfl, rfl, trivial⟩ Zu ⟨by simp only; omega, by simp [hil], (hrc.mono (by solve | repeat first | assumption | exact Zr _ | refine Zq ?_ Zp)).append (RusC.one (cd.mono (by solve | repeat first | assumption | exact Zr _ | refine Zq ?_ Zp)) (cw.mono (by solve | repeat first | assumption | exact Zr _ | refine Zq ?_ Zp)) ⟨by simp only; omega, by simp only; omega, by simp only; omega, hwd, hww⟩), hRn⟩ (by solve | repeat first | assumption | exact Zr _ | refine Zq ?_ Zp) (by simp only; omega)
  . obtain rfl : i = rs.length := by omega
    rw [List.drop_eq_nil_of_le (Nat.le_refl _), rusM] at hRi
    simp only [appR, List.append_nil] at hRi
    subst hRi
    repeat' (first | (refine G.atCode ?_; first | refine G.seq ?_ | refine G.region ?_ | refine G.exit rfl ?_ | refine G.ret ?_ | (refine G.cond rfl ?_ ?_ <;> intro hc <;> (try simp only [tests, reduceCtorEq] at hc) <;> (try exact Zf))) | refine G.endOps ?_ | (refine G.atBin ?_; first | refine G.op rfl rfl ?_) | refine G.op rfl rfl ?_)
    all_goals first | (exfalso; omega) | skip
    refine G.freezeRow (v := .slice A9 rows.length c9) Za ?_
    intro h6 hle6 hs6
    refine G.freezeBlk (g := gB) Za ?_
    intro h7 hle7 hc7
    exact G.done2 rfl rfl rfl [] (SubH.nil _) ⟨⟨gB, rfl, _, _, rows, hc7, hjv.mono (by solve | repeat first | assumption | exact Zr _ | refine Zq ?_ Zp), hs6.mono hle7, hrc.mono (by solve | repeat first | assumption | exact Zr _ | refine Zq ?_ Zp)⟩, rfl⟩
end Go.Proofs.YtieibicgankemaaGreat
