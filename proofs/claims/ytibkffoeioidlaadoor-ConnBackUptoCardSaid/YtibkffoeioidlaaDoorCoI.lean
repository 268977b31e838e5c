/- castellanlaw27.ConnBack. -/
import Derived.Test.YtibkffoeioidlaaDoorCoF
import Derived.Test.YtibkffoeioidlaaDoorXaA
namespace Go.Proofs.YtibkffoeioidlaaDoor
set_option linter.all false
set_option maxRecDepth 4000
open Go.RowKit

def BkI (all : Bs) (want : List Ms) (bad over : Bool) : Prop := want = (connS all).out /\ bad = (connS all).bad /\ over = (connS all).closed /\ (over = false -> (connS all).rest = [])
theorem BkI.start : BkI [] [] false false := by
  have h : connS [] = ⟨[], false, false, [], 0⟩ := connS_none rfl rfl
  rw [BkI, h]
  exact ⟨rfl, rfl, rfl, fun _ => rfl⟩
theorem BkI.over {all w : Bs} {want : List Ms} {bad : Bool} (h : BkI all want bad true) : BkI (all ++ w) want bad true := by
  obtain ⟨h1, h2, h3, _⟩ := h
  obtain ⟨i1, i2, i3⟩ := (connS_app _ all w (Nat.le_refl _)).1 h3.symm
  exact ⟨by rw [i1, h1], by rw [i2, h2], i3.symm, fun h => by cases h⟩
theorem bare_id (m : Ms) : (bareM m).id = m.id /\ (bareM m).op = m.op := by
  have key : ∀ (c : Prop) [Decidable c] (a b : Ms), (a.id = m.id /\ a.op = m.op) -> (b.id = m.id /\ b.op = m.op) -> ((if c then a else b).id = m.id /\ (if c then a else b).op = m.op) := fun c _ a b ha hb => by
    by_cases h : c
    . rw [if_pos h]; exact ha
    . rw [if_neg h]; exact hb
  unfold bareM
  simp only
  repeat' first
    | exact ⟨rfl, rfl⟩
    | refine key _ _ _ ?_ ?_
theorem conn_one {m : Ms} (he : (writeM m).2 = 0) {x : Except Bool Ms} (hx : (if m.id = 0 \/ reqM m.op = false then Except.error true else if m.op = 2 then Except.error false else Except.ok (bareM m)) = x) :
    connS (writeM m).1 = match x with
      | .error b => ⟨[], b, true, [], 0⟩
      | .ok n => ⟨[n], false, false, [], 0⟩ := by
  obtain ⟨hl, hm⟩ := (write_len he).2.2
  have hc := hm []
  rw [List.append_nil] at hc
  have hr := write_read he
  generalize (writeM m).1 = w at *
  have et : w.take (cutM w).1.toNat = w := by rw [hc]; simp
  have ed : w.drop (cutM w).1.toNat = [] := by rw [hc]; simp
  have hn : (cutM w).1 ≠ 0 := by rw [hc]; simp only; omega
  have ho : cnOne (w.take (cutM w).1.toNat) = x := by
    rw [et]
    unfold cnOne
    rw [hr]
    simp only
    rw [(bare_id m).1, (bare_id m).2]
    exact hx
  have h0 : connS [] = ⟨[], false, false, [], 0⟩ := connS_none rfl rfl
  cases x with
  | error b => rw [connS_stop (by rw [hc]) hn ho, ed]
  | ok n => rw [connS_msg (by rw [hc]) hn ho, ed, h0]
theorem BkI.step {all : Bs} {want : List Ms} {bad : Bool} {m : Ms} (h : BkI all want bad false) (he : (writeM m).2 = 0) : (m.id = 0 \/ reqM m.op = false -> BkI (all ++ (writeM m).1) want true true) ∧
    (¬(m.id = 0 \/ reqM m.op = false) -> m.op = 2 -> BkI (all ++ (writeM m).1) want bad true) /\ (¬(m.id = 0 \/ reqM m.op = false) -> m.op ≠ 2 -> BkI (all ++ (writeM m).1) (want ++ [bareM m]) bad false) := by
  obtain ⟨h1, h2, h3, h4⟩ := h
  obtain ⟨i1, i2, _, _⟩ := (connS_app _ all (writeM m).1 (Nat.le_refl _)).2 h3.symm
  rw [h4 rfl, List.nil_append] at i1
  subst h1 h2
  refine ⟨fun hb => ?_, fun hb h2 => ?_, fun hb h2 => ?_⟩
  . have e := conn_one he (x := .error true) (by rw [if_pos hb])
    simp only at e
    rw [BkI, i1, e]
    exact ⟨by simp, rfl, rfl, fun h => by cases h⟩
  . have e := conn_one he (x := .error false) (by rw [if_neg hb, if_pos h2])
    simp only at e
    rw [BkI, i1, e, i2]
    exact ⟨by simp, rfl, rfl, fun h => by cases h⟩
  . have e := conn_one he (x := .ok (bareM m)) (by rw [if_neg hb, if_neg h2])
    simp only at e
    rw [BkI, i1, e, i2]
    exact ⟨rfl, rfl, rfl, fun _ => rfl⟩
set_option maxRecDepth 8000 in
set_option maxHeartbeats 16000000 in
theorem law_ConnBack (l : List Ms) (hI : ∀ m ∈ l, MsI m) (hw : ∀ m ∈ l, m.wt <= 10000000) (v : Value) (h : Heap) (hT : TabW h) (hv : MssC h l v) :
    Spec Tryd.prog 11 [v] h [] (fun u _ _ => u = .bool true) := by
  obtain ⟨A, c, rfl, _, _⟩ := hv.form
  obtain ⟨rowl, hs, hr⟩ := hv
  have hrl := hr.len
  by_cases hn : 30 < l.length
  . refine Spec.enter Tryd.func11 rfl rfl ?_; intro w0
    repeat' (first | (show G _ (.ops .seq _ (⟨some _, .call { callee := .value (.func 13), args := _, argTypes := _ }, _, _, _, none⟩ :: _) :: _) _ _ _; refine G.call callAwake27 rfl rfl (law27_awake _ (hT.mono (by solve | repeat first | assumption | exact Zr _ | refine Zq ?_ (by assumption)))) (by solve | repeat first | apply Zn | apply Zh | apply Zt | apply Zc) ?_; rintro _ h6 H6 ⟨rfl, rfl⟩ hle6) | (refine G.atCode ?_; first | refine G.seq ?_ | refine G.region ?_ | refine G.ret ?_ | (refine G.cond rfl ?_ ?_ <;> intro hc <;> (try simp only [tests, reduceCtorEq] at hc) <;> (try (exfalso; first | omega | exact Zx hc | exact Zy hc | exact Zb hc | exact hc | exact hc trivial)))) | refine G.endOps ?_ | (refine G.atBin ?_; first | refine G.op rfl rfl ?_) | refine G.op rfl rfl ?_ | (refine G.atLen ?_; first | refine G.lenSlice rfl (tyy rfl) rfl ?_))
    all_goals first | (exfalso; omega) | exact G.done1 rfl rfl [] (SubH.nil _) rfl | skip
  refine Spec.enter Tryd.func11 rfl rfl ?_; intro w0
  repeat' (first | (show G _ (.ops .seq _ (⟨some _, .call { callee := .value (.func 14), args := _, argTypes := _ }, _, _, _, none⟩ :: _) :: _) _ _ _; refine G.call callCnNew rfl rfl (conn_New _) (by solve | repeat first | apply Zn | apply Zh | apply Zt | apply Zc) ?_; rintro _ h4 H4 ⟨gc, gb, rfl, rfl⟩ hle4) | (refine G.atCode ?_; refine G.stopLoop ?_) | (refine G.atCode ?_; first | refine G.seq ?_ | refine G.region ?_ | refine G.block ?_ | refine G.skip ?_ | (refine G.cond rfl ?_ ?_ <;> intro hc <;> (try simp only [tests, reduceCtorEq] at hc) <;> (try (exfalso; first | omega | exact Zx hc | exact Zy hc | exact Zb hc | exact hc | exact hc trivial)))) | refine G.endOps ?_ | (refine G.atBin ?_; first | refine G.op rfl rfl ?_) | refine G.op rfl rfl ?_ | (refine G.atLen ?_; first | refine G.lenSlice rfl (tyy rfl) rfl ?_))
  all_goals first | (exfalso; omega) | skip
  refine G.nilRow 51 32 ?_
  refine G.go ?_
  refine G.loop (σ := Nat × Bs × Bool × Bool × List Ms × List (List Value) × Option Addr × Nat)
    (fun x => [(21, .int .i64 x.1), (20, .int .i64 l.length), (19, .slice A l.length c), (7, .bool x.2.2.2.1), (6, .bool x.2.2.1), (5, str x.2.1), (4, .slice x.2.2.2.2.2.2.1 x.2.2.2.2.2.1.length x.2.2.2.2.2.2.2), (3, .pointer (some ⟨gc, 0, none⟩))])
    (fun x => CnH gc gb (.slice none 0 0) [] 0 false ++ [.row (.slice x.2.2.2.2.2.2.1 x.2.2.2.2.2.1.length x.2.2.2.2.2.2.2) 51 32 x.2.2.2.2.2.1])
    (fun x h1 => x.1 <= l.length /\ x.2.1.length <= x.1 * 5000 /\ BkI x.2.1 x.2.2.2.2.1 x.2.2.2.1 x.2.2.1 /\ LC MsC h1 x.2.2.2.2.1 x.2.2.2.2.2.1 /\ x.2.2.2.2.1.length <= x.1) (fun x => l.length - x.1) ⟨0, [], false, false, [], [], none, 0⟩
    ⟨rfl, rfl, rfl, rfl, rfl, rfl, rfl, rfl, trivial⟩ (by solve | repeat first | apply Zm | apply Zh | apply Zt | apply Zk) ⟨Nat.zero_le _, Nat.zero_le _, BkI.start, rfl, Nat.zero_le _⟩ ?_
  rintro ⟨i, all, over, bad, want, rows, A1, c1⟩ h5 hle5 ⟨hi, hal, hB, hrows, hwn⟩
  simp only at hi hal hB hrows hwn
  have hrl1 := hrows.len
  refine G.norm (by (try dsimp only) <;> exact rfl) (by (try dsimp only) <;> exact rfl) ?_
  have hal' : all.length <= (i + 1) * 5000 := Nat.le_trans hal (Nat.mul_le_mul_right 5000 (Nat.le_succ i))
  by_cases hlt : i < l.length
  . obtain ⟨m, ha⟩ : ∃ a, l[i]? = some a := ⟨l[i], List.getElem?_eq_getElem hlt⟩
    have hmem := List.mem_of_getElem? ha
    obtain ⟨r1, hget1, pv, kv, nv, av, mv, cv, rfl, hV⟩ := hr.get ha
    have hW := fun h hT hV => wire_Write m (hI m hmem) (hw m hmem) pv kv nv av mv cv h hT hV
    have hBr := fun h hV => ref11_Bare m (hw m hmem) pv kv nv av mv cv h hV
    obtain ⟨⟨pA, pn, pc, rfl⟩, ⟨kA, kn, kc, rfl⟩, ⟨nA, nn, nc, rfl⟩, ⟨aA, an, ac, rfl⟩, ⟨mA, mn, mc, rfl⟩, ⟨cA, cn, cc, rfl⟩⟩ := hV.forms
    have hl1 : (msR m (.slice pA pn pc) (.slice kA kn kc) (.slice nA nn nc) (.slice aA an ac) (.slice mA mn mc) (.slice cA cn cc)).length = 32 := rfl
    have hov := fun h => (BkI.over (all := all) (w := (writeM m).1) (want := want) (bad := bad) h)
    have hst := fun h he => BkI.step (all := all) (want := want) (bad := bad) (m := m) h he
    generalize writeM m = w at *
    obtain ⟨w1, w2⟩ := w
    simp only at hW hov hst
    have hcase : (w2 ≠ 0 \/ 5000 < w1.length) \/ (w2 = 0 /\ w1.length <= 5000) := by omega
    have hc2 : (m.id = 0 \/ reqM m.op = false) \/ (m.id ≠ 0 /\ reqM m.op = true /\ m.op = 2) \/ (m.id ≠ 0 /\ reqM m.op = true /\ m.op ≠ 2) := by
      by_cases h1 : m.id = 0
      . exact .inl (.inl h1)
      cases h3 : reqM m.op with
      | false => exact .inl (.inr rfl)
      | true =>
        by_cases h2 : m.op = 2
        . exact .inr (.inl ⟨h1, rfl, h2⟩)
        . exact .inr (.inr ⟨h1, rfl, h2⟩)
    have hnb : m.id ≠ 0 -> reqM m.op = true -> ¬(m.id = 0 \/ reqM m.op = false) := fun h1 h2 h3 => by
      rcases h3 with h3 | h3
      . exact h1 h3
      . rw [h2] at h3; cases h3
    rcases hcase with hsk | ⟨rfl, hwl⟩
    case' inr =>
      have hal2 : (all ++ w1).length <= (i + 1) * 5000 := by rw [List.length_append]; omega
      cases over
    case' inr.false => rcases hc2 with hb | ⟨hid, hrq, h2⟩ | ⟨hid, hrq, h2⟩
    case' inr.true => have hB' := hov hB
    case' inr.false.inl => have hB' := (hst hB rfl).1 hb
    case' inr.false.inr.inl => have hB' := (hst hB rfl).2.1 (hnb hid hrq) h2
    case' inr.false.inr.inr => have hB' := (hst hB rfl).2.2 (hnb hid hrq) h2
    all_goals (
      repeat' (first | (refine G.atIdx ?_; refine G.idxImm rfl rfl (tyy rfl) (tyy rfl) (hs.mono (by solve | repeat first | assumption | exact Zr _ | refine Zq ?_ (by assumption))) (by first | (simp only [Int.reduceToNat]; rfl) | with_reducible apply Int.toNat_natCast | exact Eq.refl _) rfl (by omega) ?_; intro p1 r1 hx1 hp1; (rw [hget1] at hx1); (obtain rfl := Option.some.inj hx1)) | (show G _ (.ops .seq _ (⟨some _, .call { callee := .value (.func 24), args := _, argTypes := _ }, _, _, _, none⟩ :: _) :: _) _ _ _; refine G.call callWriteW rfl rfl (hW _ (hT.mono (by solve | repeat first | assumption | exact Zr _ | refine Zq ?_ (by assumption))) (hV.mono (by solve | repeat first | assumption | exact Zr _ | refine Zq ?_ (by assumption)))) (by solve | repeat first | apply Zn | apply Zh | apply Zt | apply Zc) ?_; rintro _ h6 H6 ⟨rfl, rfl⟩ hle6) | (show G _ (.ops .seq _ (⟨some _, .call { callee := .value (.func 35), args := _, argTypes := _ }, _, _, _, none⟩ :: _) :: _) _ _ _; refine G.call callRequest rfl rfl (conn_Request _ _) (by solve | repeat first | apply Zn | apply Zh | apply Zt | apply Zc) ?_; rintro _ h8 H8 ⟨rfl, rfl⟩ hle8) | (show G _ (.ops .seq _ (⟨some _, .call { callee := .value (.func 32), args := _, argTypes := _ }, _, _, _, none⟩ :: _) :: _) _ _ _; refine G.call callBare11 rfl rfl (hBr _ (hV.mono (by solve | repeat first | assumption | exact Zr _ | refine Zq ?_ (by assumption)))) (by solve | repeat first | apply Zn | apply Zh | apply Zt | apply Zc) ?_; rintro _ h7 H7 ⟨⟨pv9, kv9, nv9, av9, mv9, cv9, rfl, hV9⟩, rfl⟩ hle7; obtain ⟨⟨pA9, pn9, pc9, rfl⟩, ⟨kA9, kn9, kc9, rfl⟩, ⟨nA9, nn9, nc9, rfl⟩, ⟨aA9, an9, ac9, rfl⟩, ⟨mA9, mn9, mc9, rfl⟩, ⟨cA9, cn9, cc9, rfl⟩⟩ := hV9.forms) | (refine G.atApp ?_; refine G.append1 rfl rfl (tyy rfl) (tyy rfl) rfl rfl (by solve | repeat first | apply Zh | apply Zt) (by solve | repeat first | apply Zh | apply Zt) rfl rfl rfl (by first | omega | (simp only [lens] at *; omega)) ?_; intro _; refine G.rowForm Take.hd ?_; rintro _ _ rfl) | (refine G.atCode ?_; first | refine G.seq ?_ | refine G.region ?_ | refine G.block ?_ | refine G.skip ?_ | refine G.exit rfl ?_ | (refine G.cond rfl ?_ ?_ <;> intro hc <;> (try simp only [tests, reduceCtorEq] at hc) <;> (try (exfalso; first | omega | exact Zx hc | exact Zy hc | exact Zb hc | exact hc | exact hc trivial)))) | refine G.endOps ?_ | refine G.endBlk ?_ | (refine G.atGd ?_; first | refine G.guardYes rfl rfl ?_ | refine G.guardNoS rfl rfl rfl ?_ | (refine G.guardS rfl rfl rfl ?_ ?_ <;> intro hc <;> (try simp only [tests, reduceCtorEq] at hc) <;> (try (exfalso; first | omega | exact Zx hc | exact Zy hc | exact Zb hc | exact hc | exact hc trivial)))) | (refine G.atBin ?_; first | (refine G.atAdd ?_; first | refine G.arith rfl rfl rfl rfl rfl (by simp only [inR]; omega) ?_ | refine G.catStr rfl rfl rfl (by first | omega | (simp only [lens] at *; omega)) ?_) | (refine G.atEql ?_; first | refine G.op rfl rfl ?_) | (refine G.atNeq ?_; first | refine G.op rfl rfl ?_) | refine G.op rfl rfl ?_) | refine G.op rfl rfl ?_ | (refine G.atLen ?_; first | refine G.lenStr rfl (tyy rfl) rfl ?_) | (refine G.atLoad ?_; first | refine G.loadOwn1 rfl (tyy rfl) rfl rfl (by solve | repeat first | apply Zh | apply Zt) rfl rfl ?_ | refine G.loadOwnA rfl (tyy rfl) rfl rfl (by solve | repeat first | apply Zh | apply Zt) rfl rfl ?_ | refine G.loadImmA rfl (tyy rfl) rfl rfl (by assumption) (by assumption) rfl ?_) | (refine G.atFld ?_; first | refine G.fieldAddr rfl (tyy rfl) rfl rfl ?_) | (refine G.atSto ?_; refine G.storeOwn rfl rfl (tyy rfl) (by solve | repeat first | apply Zh | apply Zt) rfl rfl rfl rfl ?_) | (refine G.atAlc ?_; refine G.alloc (tyy rfl) rfl rfl ?_; intro _) | (refine G.atBsl ?_; refine G.buildSlice (tyy rfl) (tyy rfl) rfl rfl rfl rfl ?_; intro _)))
    all_goals first | (exfalso; omega) | (exfalso; simp_all; done) | skip
    all_goals first
      | exact G.again ⟨i + 1, all, over, bad, want, rows, A1, c1⟩ ⟨sint (by simp only; omega), rfl, rfl, rfl, rfl, rfl, rfl, rfl, trivial⟩ (by solve | repeat first | apply Zm | apply Zh | apply Zt | apply Zk) ⟨by simp only; omega, hal', hB, hrows.mono (fun x => x.mono (by solve | repeat first | assumption | exact Zr _ | refine Zq ?_ (by assumption))), by simp only; omega⟩ (by solve | repeat first | assumption | exact Zr _ | refine Zq ?_ (by assumption)) (by simp only; omega)
      | exact G.again ⟨i + 1, all ++ w1, true, bad, want, rows, A1, c1⟩ ⟨sint (by simp only; omega), rfl, rfl, rfl, rfl, rfl, rfl, rfl, trivial⟩ (by solve | repeat first | apply Zm | apply Zh | apply Zt | apply Zk) ⟨by simp only; omega, hal2, hB', hrows.mono (fun x => x.mono (by solve | repeat first | assumption | exact Zr _ | refine Zq ?_ (by assumption))), by simp only; omega⟩ (by solve | repeat first | assumption | exact Zr _ | refine Zq ?_ (by assumption)) (by simp only; omega)
      | exact G.again ⟨i + 1, all ++ w1, true, true, want, rows, A1, c1⟩ ⟨sint (by simp only; omega), rfl, rfl, rfl, rfl, rfl, rfl, rfl, trivial⟩ (by solve | repeat first | apply Zm | apply Zh | apply Zt | apply Zk) ⟨by simp only; omega, hal2, hB', hrows.mono (fun x => x.mono (by solve | repeat first | assumption | exact Zr _ | refine Zq ?_ (by assumption))), by simp only; omega⟩ (by solve | repeat first | assumption | exact Zr _ | refine Zq ?_ (by assumption)) (by simp only; omega)
      | exact G.again ⟨i + 1, all ++ w1, true, bad, want, rows, A1, c1⟩ ⟨sint (by simp only; omega), rfl, rfl, rfl, rfl, rfl, rfl, rfl, trivial⟩ (by solve | repeat first | apply Zm | apply Zh | apply Zt | apply Zk) ⟨by simp only; omega, hal2, hB', hrows.mono (fun x => x.mono (by solve | repeat first | assumption | exact Zr _ | refine Zq ?_ (by assumption))), by simp only; omega⟩ (by solve | repeat first | assumption | exact Zr _ | refine Zq ?_ (by assumption)) (by simp only; omega)
      | (rename_i A' c'
         exact G.again ⟨i + 1, all ++ w1, false, bad, want ++ [bareM m], rows ++ [msR (bareM m) (.slice pA9 pn9 pc9) (.slice kA9 kn9 kc9) (.slice nA9 nn9 nc9) (.slice aA9 an9 ac9) (.slice mA9 mn9 mc9) (.slice cA9 cn9 cc9)], A', c'⟩ ⟨sint (by simp only; omega), rfl, rfl, rfl, rfl, rfl, rfl, rfl, trivial⟩ (by solve | repeat first | apply Zm | apply Zh | apply Zt | apply Zk) ⟨by simp only; omega, hal2, hB', (hrows.mono (fun x => x.mono (by solve | repeat first | assumption | exact Zr _ | refine Zq ?_ (by assumption)))).append (LC.one ⟨_, _, _, _, _, _, rfl, hV9.mono (by solve | repeat first | assumption | exact Zr _ | refine Zq ?_ (by assumption))⟩), by simp only [List.length_append, List.length_singleton]; omega⟩ (by solve | repeat first | assumption | exact Zr _ | refine Zq ?_ (by assumption)) (by simp only; omega))
  . obtain rfl : i = l.length := by omega
    obtain ⟨n1, n2, n3, _⟩ := hB
    have e1 : ([] : Bs) ++ [all].flatten = all := by simp
    have hF2 := fun h v hT hv => conn_Feed gc gb (.slice none 0 0) [] v [all] (by simp only [List.flatten_singleton, List.length_nil]; omega) h hT hv
    rw [e1] at hF2
    generalize connS all = N at *
    subst n1 n2 n3
    repeat' (first | (show G _ (.ops .seq _ (⟨some _, .call { callee := .value (.func 15), args := _, argTypes := _ }, _, _, _, none⟩ :: _) :: _) _ _ _; refine Hold.out ?_) | (refine G.atCode ?_; first | refine G.seq ?_ | refine G.region ?_ | refine G.exit rfl ?_ | (refine G.cond rfl ?_ ?_ <;> intro hc <;> (try simp only [tests, reduceCtorEq] at hc) <;> (try (exfalso; first | omega | exact Zx hc | exact Zy hc | exact Zb hc | exact hc | exact hc trivial)))) | refine G.endOps ?_ | (refine G.atBin ?_; first | refine G.op rfl rfl ?_) | refine G.op rfl rfl ?_ | (refine G.atBsl ?_; refine G.buildSlice (tyy rfl) (tyy rfl) rfl rfl rfl rfl ?_; intro _))
    all_goals first | (exfalso; omega) | skip
    refine ⟨?_⟩
    refine G.freezeBlk Take.hd ?_; intro hf1 hle1 hc1; have hs1 := HSl.ofBlk1 (rows := strsR [all]) (n := 1) hc1 (rowed_strs _) rfl (by decide); clear hc1
    refine G.call callCnFeed rfl rfl (hF2 _ _ (hT.mono (by solve | repeat first | assumption | exact Zr _ | refine Zq ?_ (by assumption))) hs1) (by solve | repeat first | apply Zn | apply Zh | apply Zt | apply Zc) ?_
    rintro _ h7 H7 ⟨ov2, rfl, hM2, rfl⟩ hle7
    obtain ⟨A2, c2, rfl, _⟩ := hM2.form
    refine G.freezeRow (e := 51) (sz := 32) (by solve | repeat first | apply Zh | apply Zt) ?_
    intro h8 hle8 hs8
    have hAll : MssC h8 N.out (.slice _ _ _) := ⟨_, hs8, hrows.mono (fun x => x.mono (by solve | repeat first | assumption | exact Zr _ | refine Zq ?_ (by assumption)))⟩
    repeat' (first | (show G _ (.ops .seq _ (⟨some _, .call { callee := .value (.func 13), args := _, argTypes := _ }, _, _, _, none⟩ :: _) :: _) _ _ _; refine G.call callAwake27 rfl rfl (law27_awake _ (hT.mono (by solve | repeat first | assumption | exact Zr _ | refine Zq ?_ (by assumption)))) (by solve | repeat first | apply Zn | apply Zh | apply Zt | apply Zc) ?_; rintro _ h9 H9 ⟨rfl, rfl⟩ hle9) | (show G _ (.ops .seq _ (⟨some _, .call { callee := .value (.func 16), args := _, argTypes := _ }, _, _, _, none⟩ :: _) :: _) _ _ _; refine G.call callSame27 rfl rfl (law27_same _ _ _ _ (SC.mono (fun x => x.mono (by solve | repeat first | assumption | exact Zr _ | refine Zq ?_ (by assumption))) (by solve | repeat first | assumption | exact Zr _ | refine Zq ?_ (by assumption)) hM2) (SC.mono (fun x => x.mono (by solve | repeat first | assumption | exact Zr _ | refine Zq ?_ (by assumption))) (by solve | repeat first | assumption | exact Zr _ | refine Zq ?_ (by assumption)) hAll)) (by solve | repeat first | apply Zn | apply Zh | apply Zt | apply Zc) ?_; rintro _ h10 H10 ⟨rfl, rfl⟩ hle10) | (show G _ (.ops .seq _ (⟨some _, .call { callee := .value (.func 17), args := _, argTypes := _ }, _, _, _, none⟩ :: _) :: _) _ _ _; refine G.call callCnClosed rfl rfl (conn_Closed _ _ _ _ _) (by solve | repeat first | apply Zn | apply Zh | apply Zt | apply Zc) ?_; rintro _ h11 H11 ⟨rfl, rfl⟩ hle11) | (refine G.atCode ?_; first | refine G.seq ?_ | refine G.region ?_ | refine G.ret ?_) | refine G.endOps ?_ | (refine G.atGd ?_; first | refine G.guardYes rfl rfl ?_ | (refine G.guardS rfl rfl rfl ?_ ?_ <;> intro hc <;> (try simp only [tests, reduceCtorEq] at hc) <;> (try (exfalso; first | omega | exact Zx hc | exact Zy hc | exact Zb hc | exact hc | exact hc trivial)))) | (refine G.atBin ?_; first | (refine G.atEql ?_; first | refine G.eqBool rfl rfl (tyy rfl) rfl ?_)) | refine G.op rfl rfl ?_)
    all_goals first | (exfalso; omega) | (exfalso; simp_all; done) | exact G.done1 rfl rfl [] (SubH.nil _) (by first | rfl | simp) | skip
    all_goals trace_state
end Go.Proofs.YtibkffoeioidlaaDoor
