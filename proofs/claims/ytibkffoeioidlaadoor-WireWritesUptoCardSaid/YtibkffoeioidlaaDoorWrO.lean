/- wire.Read: a message's bytes. -/
import Derived.Test.YtibkffoeioidlaaDoorWrL
import Derived.Test.YtibkffoeioidlaaDoorWrD
import Derived.Test.YtibkffoeioidlaaDoorWrT
import Derived.Test.YtibkffoeioidlaaDoorWrJ
namespace Go.Proofs.YtibkffoeioidlaaDoor
set_option linter.all false
set_option maxRecDepth 4000
open Go.RowKit

theorem callReadW : Callable Tryd.prog 28 := ⟨_, Tryd.func28, by kernel_rfl, rfl⟩
def RdR (o : Except Int Ms) (u : Value) (h' : Heap) : Prop := ∃ (m : Ms) (pv kv nv av mv cv : Value) (e : Int), u = .tuple #[.agg (msR m pv kv nv av mv cv).toArray, .int .i64 e] /\ MsV h' m pv kv nv av mv cv /\ ((e = 0 /\ o = .ok m) \/ (e ≠ 0 /\ o = .error e /\ m = zM))
theorem RdR.err {h' : Heap} {o : Except Int Ms} {e : Int} (he : e ≠ 0) (ho : o = .error e) : RdR o (.tuple #[.agg (msR zM nilV nilV nilV nilV nilV nilV).toArray, .int .i64 e]) h' :=
  ⟨zM, nilV, nilV, nilV, nilV, nilV, nilV, e, rfl, zV rfl rfl rfl rfl rfl, .inr ⟨he, ho, rfl⟩⟩
theorem RdR.ok {h' : Heap} {o : Except Int Ms} {m : Ms} {pv kv nv av mv cv : Value} (ho : o = .ok m) (hV : MsV h' m pv kv nv av mv cv) : RdR o (.tuple #[.agg (msR m pv kv nv av mv cv).toArray, .int .i64 0]) h' :=
  ⟨m, pv, kv, nv, av, mv, cv, 0, rfl, hV, .inl ⟨rfl, ho⟩⟩
def CtI (b0 : Bool) (K : List Nd) (j : Nat) (okb : Bool) (cs : List Ctl) : Prop := cs.length = j /\ ((okb = true /\ b0 = true /\ allO ctO (K.take j) = some cs) \/ (okb = false /\ (b0 = false \/ allO ctO K = none)))
theorem CtI.start (b0 : Bool) (K : List Nd) : CtI b0 K 0 b0 [] := by
  refine ⟨rfl, ?_⟩
  cases b0
  . exact .inr ⟨rfl, .inl rfl⟩
  . exact .inl ⟨rfl, rfl, rfl⟩
theorem allO_none {α : Type} {f : Nd -> Option α} {l : List Nd} {n : Nd} (hn : n ∈ l) (h : f n = none) : allO f l = none := by
  cases hl : allO f l with
  | none => rfl
  | some xs =>
    obtain ⟨x, _, e⟩ := allO_get hl n hn
    rw [h] at e; cases e
theorem CtI.step {b0 : Bool} {K : List Nd} {j : Nat} {okb : Bool} {cs : List Ctl} (h : CtI b0 K j okb cs) {n : Nd} (hn : K[j]? = some n) {c : Ctl} {fine : Bool} (hc : (ctO n = some c /\ fine = true) \/ (ctO n = none /\ fine = false)) : CtI b0 K (j + 1) (okb && fine) (cs ++ [c]) := by
  obtain ⟨hl, h⟩ := h
  refine ⟨by simp [hl], ?_⟩
  rcases h with ⟨rfl, rfl, ha⟩ | ⟨rfl, hb⟩
  . rcases hc with ⟨hc, rfl⟩ | ⟨hc, rfl⟩
    . refine .inl ⟨rfl, rfl, ?_⟩
      rw [take_get hn]
      exact allO_snoc ha hc
    . exact .inr ⟨rfl, .inr (allO_none (List.mem_of_getElem? hn) hc)⟩
  . exact .inr ⟨rfl, hb⟩
theorem CtI.fin {b0 : Bool} {K : List Nd} {okb : Bool} {cs : List Ctl} (h : CtI b0 K K.length okb cs) : (okb = true /\ b0 = true /\ allO ctO K = some cs) \/ (okb = false /\ (b0 = false \/ allO ctO K = none)) := by
  obtain ⟨_, h⟩ := h
  rw [List.take_length] at h
  exact h
theorem lkR_app : ∀ (a : List (Int × Int)) (p : Int × Int) (t : Int) (x : Option Int), lkR (a ++ [p]) t x = if p.2 = t then some p.1 else lkR a t x
  | [], p, t, x => rfl
  | q :: a, p, t, x => by rw [List.cons_append, lkR, lkR_app a p t]; rfl
theorem rd_of_op {id op : Int} {o : Nd} {K : List Nd} (ho : opOf o.tag = some op) {b0 okb : Bool} {m' : Ms} {h' : Heap} {pv kv nv av mv : Value} {cs : List Ctl}
    (h : (b0 = true /\ opR { zM with id := id, op := op } o = some m' /\ MsV h' m' pv kv nv av mv nilV) \/ (b0 = false /\ opR { zM with id := id, op := op } o = none)) (hI : CtI b0 K K.length okb cs) :
    (okb = true /\ rdO id o K = .ok { m' with ctls := cs } /\ MsV h' m' pv kv nv av mv nilV) \/ (okb = false /\ rdO id o K = .error 4) := by
  unfold rdO
  rw [ho]
  simp only
  rcases hI.fin with ⟨rfl, rfl, hc⟩ | ⟨rfl, hb⟩
  . rcases h with ⟨_, h1, h2⟩ | ⟨h1, _⟩
    . rw [h1, hc]
      exact .inl ⟨rfl, rfl, h2⟩
    . cases h1
  . refine .inr ⟨rfl, ?_⟩
    rcases hb with rfl | hb
    . rcases h with ⟨h1, _⟩ | ⟨_, h1⟩
      . cases h1
      . rw [h1]
    . rw [hb]
      cases opR { zM with id := id, op := op } o <;> rfl
set_option maxRecDepth 8000 in
set_option maxHeartbeats 8000000 in
theorem wire_ReadP (s : Bs) (hs : s.length <= 100000000) (hO : ∀ op o rest, nmS 2 0 2147483647 (wiS 48 (some [(who s).1])) = some (o :: rest) -> opOf o.tag = some op -> OpSpec op) (h : Heap) (hT : TabW h) : Spec Tryd.prog 28 [str s] h [] (fun u h' H' => RdR (readM s) u h' /\ H' = []) := by
  have hwt := who_wt (s := s)
  have hwf := who_wf (s := s)
  have hWh := tlv_Whole s (by omega)
  unfold readM
  generalize (who s).1 = n at *
  generalize (who s).2 = e at *
  by_cases he : e = 0
  . rw [if_pos he]
    subst he
    have hwt := hwt rfl
    have hwf := hwf rfl
    have hWi := fun g v b h (hp : PtC h (some [n]) v b) => wire_within g 48 (some [n]) v b h hp
    unfold WiR at hWi
    have hw1 := psW_wi 48 (some [n])
    have hw0 : psW (some [n]) = n.wt := by simp [psW, wts]
    have hwfs : PsWf (wiS 48 (some [n])) 63 := by
      refine PsWf.wi (s := some [n]) (w := 64) (fun l hl => ?_) 48
      injection hl with hl
      subst hl
      rw [WfKs]
      exact ⟨hwf, by rw [WfKs]; trivial⟩
    have hrd : rdM n = (match nmS 2 0 2147483647 (wiS 48 (some [n])) with
      | some [o] => rdO (nmV 2 0 2147483647 (wiS 48 (some [n]))) o []
      | some [o, c] => if c.tag = 160 then rdO (nmV 2 0 2147483647 (wiS 48 (some [n]))) o c.kids else .error 4
      | _ => .error 4) := rfl
    rw [hrd]
    clear hrd
    generalize wiS 48 (some [n]) = s0 at *
    have hw2 := psW_nm 2 0 2147483647 s0
    have hw3 := psW_data 2 s0
    have hwf1 := hwfs.nm 2 0 2147483647
    have hN := fun g v b => wire_number g 2 0 2147483647 Zi Zi s0 v b
    generalize nmS 2 0 2147483647 s0 = s1 at *
    generalize nmV 2 0 2147483647 s0 = id at *
    refine Spec.enter Tryd.func28 rfl rfl ?_; intro w0
    repeat' (first | (show G _ (.ops .seq _ (⟨some _, .call { callee := .value (.func 59), args := _, argTypes := _ }, _, _, _, none⟩ :: _) :: _) _ _ _; refine G.call callWhole rfl rfl (hWh _) Ze ?_; rintro _ h1 H1 ⟨rfl, rr, hn, rfl⟩ hle1; obtain ⟨kv, rfl, hkv⟩ := hn.ks; obtain ⟨A2, c2, rfl, hA2, hA3⟩ := hkv.form) | (show G _ (.ops .seq _ (⟨some _, .call { callee := .value (.func 60), args := _, argTypes := _ }, _, _, _, none⟩ :: _) :: _) _ _ _; refine G.freezeBlk (Take.tl Take.hd) ?_; intro hf1 hle2 hc1; have hsn := HSl.ofBlk1 (rows := [[.int .i64 n.tag, str n.data, .slice A2 n.kids.length c2]]) (n := 1) hc1 (by intro r hr; simp at hr; subst hr; rfl) rfl (by decide); clear hc1; refine G.call callWithin rfl rfl (hWi _ _ false _ ⟨rfl, ⟨_, hsn.mono (by solve | repeat first | assumption | exact Zr _ | refine Zq ?_ Zp), KidsC.one (NodeC.mono (by solve | repeat first | assumption | exact Zr _ | refine Zq ?_ Zp) n _ hn)⟩⟩) Ze ?_; rintro _ h3 H3 ⟨v3, b3, q, w3, bq, rfl, hp3, rfl, hq3, hqn⟩ hle3) | (show G _ (.ops .seq _ (⟨some _, .call { callee := .value (.func 61), args := _, argTypes := _ }, _, _, _, none⟩ :: _) :: _) _ _ _; refine G.call callNumberP rfl rfl (hN q _ _ _ (hq3.mono (by solve | repeat first | assumption | exact Zr _ | refine Zq ?_ Zp)) (by omega)) Ze ?_; rintro _ h4 H4 ⟨⟨v4, b4, rfl, hp4⟩, rfl⟩ hle4; refine Hold.out ?_) | (refine G.atCode ?_; first | refine G.seq ?_ | refine G.region ?_ | refine G.skip ?_ | (refine G.cond rfl ?_ ?_ <;> intro hc <;> (try simp only [tests, reduceCtorEq] at hc) <;> (try exact Zf))) | refine G.endOps ?_ | (refine G.atBin ?_; first | (refine G.atNeq ?_; first | refine G.op rfl rfl ?_)) | refine G.op rfl rfl ?_ | (refine G.atLoad ?_; first | refine G.loadOwnA rfl (tyy rfl) rfl rfl Za rfl rfl ?_) | (refine G.atSto ?_; refine G.storeOwn rfl rfl (tyy rfl) Za rfl rfl rfl rfl ?_) | (refine G.atAlc ?_; refine G.alloc (tyy rfl) rfl rfl ?_; intro _) | (refine G.atBox ?_; refine G.box rfl rfl rfl ?_; intro _) | (refine G.atBld ?_; refine G.build (tyy rfl) rfl rfl rfl ?_) | (refine G.atBsl ?_; refine G.buildSlice (tyy rfl) (tyy rfl) rfl rfl rfl rfl ?_; intro _))
    all_goals first | (exfalso; omega) | skip
    refine ⟨?_⟩
    rename_i g2 g4 grow gp gm
    clear hWi hN hWh hp3 hq3 hqn
    revert hO
    match s1, hp4 with
    | none, ⟨e, l, hk⟩ =>
      intro hO
      subst e
      obtain ⟨A, c, rfl, _, hm⟩ := hk.form
      repeat' (first | (refine G.atCode ?_; first | refine G.seq ?_ | refine G.region ?_ | refine G.ret ?_ | (refine G.cond rfl ?_ ?_ <;> intro hc <;> (try simp only [tests, reduceCtorEq] at hc) <;> (try exact Zf))) | refine G.endOps ?_ | (refine G.atGd ?_; first | refine G.guardNoS rfl rfl rfl ?_ | refine G.guardU rfl rfl rfl ?_) | refine G.op rfl rfl ?_ | (refine G.atLoad ?_; first | refine G.loadOwn1 rfl (tyy rfl) rfl rfl Za rfl rfl ?_) | (refine G.atFld ?_; first | refine G.fieldAddr rfl (tyy rfl) rfl rfl ?_) | (refine G.atSto ?_; refine G.storeOwn rfl rfl (tyy rfl) Za rfl rfl rfl rfl ?_) | (refine G.atBld ?_; refine G.build (tyy rfl) rfl rfl rfl ?_))
      all_goals first | (exfalso; omega) | exact G.done (rs := [.cell 2 51, .tmp 3]) rfl (.cellA rfl (tyy rfl) rfl rfl Za rfl (.tmp rfl .nil)) rfl [] (SubH.nil _) ⟨RdR.err (by omega) rfl, rfl⟩ | skip
    | some [], ⟨e, hk⟩ =>
      intro hO
      subst e
      obtain ⟨A, c, rfl, _, hm⟩ := hk.form
      simp only [List.length_nil] at *
      repeat' (first | (refine G.atCode ?_; first | refine G.seq ?_ | refine G.region ?_ | refine G.ret ?_ | (refine G.cond rfl ?_ ?_ <;> intro hc <;> (try simp only [tests, reduceCtorEq] at hc) <;> (try exact Zf))) | refine G.endOps ?_ | (refine G.atGd ?_; first | refine G.guardYes rfl rfl ?_ | refine G.guardNoS rfl rfl rfl ?_ | refine G.guardU rfl rfl rfl ?_) | (refine G.atBin ?_; first | refine G.op rfl rfl ?_) | refine G.op rfl rfl ?_ | (refine G.atLen ?_; first | refine G.lenSlice rfl (tyy rfl) rfl ?_) | (refine G.atLoad ?_; first | refine G.loadOwn1 rfl (tyy rfl) rfl rfl Za rfl rfl ?_) | (refine G.atFld ?_; first | refine G.fieldAddr rfl (tyy rfl) rfl rfl ?_) | (refine G.atSto ?_; refine G.storeOwn rfl rfl (tyy rfl) Za rfl rfl rfl rfl ?_) | (refine G.atBld ?_; refine G.build (tyy rfl) rfl rfl rfl ?_))
      all_goals first | (exfalso; omega) | exact G.done (rs := [.cell 2 51, .tmp 3]) rfl (.cellA rfl (tyy rfl) rfl rfl Za rfl (.tmp rfl .nil)) rfl [] (SubH.nil _) ⟨RdR.err (by omega) rfl, rfl⟩ | skip
    | some (o :: c :: d :: r), ⟨e, hk⟩ =>
      intro hO
      subst e
      obtain ⟨A, c, rfl, _, hm⟩ := hk.form
      simp only [List.length_cons] at *
      repeat' (first | (refine G.atCode ?_; first | refine G.seq ?_ | refine G.region ?_ | refine G.ret ?_ | (refine G.cond rfl ?_ ?_ <;> intro hc <;> (try simp only [tests, reduceCtorEq] at hc) <;> (try exact Zf))) | refine G.endOps ?_ | (refine G.atGd ?_; first | refine G.guardYes rfl rfl ?_ | refine G.guardNoS rfl rfl rfl ?_ | refine G.guardU rfl rfl rfl ?_ | (refine G.guardS rfl rfl rfl ?_ ?_ <;> intro hc <;> (try simp only [tests, reduceCtorEq] at hc) <;> (try exact Zf))) | (refine G.atBin ?_; first | refine G.op rfl rfl ?_) | refine G.op rfl rfl ?_ | (refine G.atLen ?_; first | refine G.lenSlice rfl (tyy rfl) rfl ?_) | (refine G.atLoad ?_; first | refine G.loadOwn1 rfl (tyy rfl) rfl rfl Za rfl rfl ?_) | (refine G.atFld ?_; first | refine G.fieldAddr rfl (tyy rfl) rfl rfl ?_) | (refine G.atSto ?_; refine G.storeOwn rfl rfl (tyy rfl) Za rfl rfl rfl rfl ?_) | (refine G.atBld ?_; refine G.build (tyy rfl) rfl rfl rfl ?_))
      all_goals first | (exfalso; omega) | exact G.done (rs := [.cell 2 51, .tmp 3]) rfl (.cellA rfl (tyy rfl) rfl rfl Za rfl (.tmp rfl .nil)) rfl [] (SubH.nil _) ⟨RdR.err (by omega) rfl, rfl⟩ | skip
    | some [o], ⟨e, hk⟩ =>
      intro hO
      subst e
      have hk0 := hk
      obtain ⟨A, cp, rfl, hcp, hm⟩ := hk.form
      obtain ⟨rows, hsl, hr⟩ := hk
      have hrl := hr.len
      simp only [KidsC] at hr
      obtain ⟨ro, rs, rfl, hno, hrs⟩ := hr
      have hno0 := hno
      obtain ⟨okv, rfl, hokv⟩ := hno.ks
      obtain ⟨A5, c5, rfl, _, _⟩ := hokv.form
      have hwo : WfN o 63 := by have := hwf1 _ rfl; rw [WfKs] at this; exact this.1
      have hwto : o.wt <= 100000000 := by have := hw2; rw [show psW (some [o]) = o.wt + 0 from by simp only [psW, wts]] at this; omega
      have htl := hsl.tail 1 (by simp only [List.length_cons]; omega)
      simp only [List.length_cons, List.length_nil] at *
      have hl3 : ([.int .i64 o.tag, str o.data, .slice A5 o.kids.length c5] : List Value).length = 3 := rfl
      repeat' (first | (refine G.atIdx ?_; refine G.idxImm rfl rfl (tyy rfl) (tyy rfl) (hsl.mono (by solve | repeat first | assumption | exact Zr _ | refine Zq ?_ Zp)) Zj rfl (by simp only [List.length_cons, List.length_nil]; omega) ?_; intro pp rr hx9 hp9; (obtain rfl := Option.some.inj hx9)) | (refine G.atAlc ?_; refine G.alloc (tyy rfl) rfl rfl ?_; intro g9) | (refine G.atLoad ?_; refine G.loadImmA rfl (tyy rfl) rfl rfl (hT.mono (by solve | repeat first | assumption | exact Zr _ | refine Zq ?_ Zp)) formsC_len rfl ?_) | (refine G.atCode ?_; refine G.stopLoop ?_) | (refine G.atCode ?_; first | refine G.seq ?_ | refine G.region ?_ | refine G.block ?_ | refine G.skip ?_ | (refine G.cond rfl ?_ ?_ <;> intro hc <;> (try simp only [tests, reduceCtorEq] at hc) <;> (try exact Zf))) | refine G.endOps ?_ | (refine G.atGd ?_; first | refine G.guardYes rfl rfl ?_ | refine G.guardNoS rfl rfl rfl ?_) | (refine G.atBin ?_; first | (refine G.atEql ?_; first | refine G.op rfl rfl ?_) | refine G.op rfl rfl ?_) | refine G.op rfl rfl ?_ | (refine G.atLen ?_; first | refine G.lenSlice rfl (tyy rfl) rfl ?_) | (refine G.atLoad ?_; first | refine G.loadOwn1 rfl (tyy rfl) rfl rfl Za rfl rfl ?_ | refine G.loadImmA rfl (tyy rfl) rfl rfl Zp Zp rfl ?_) | (refine G.atFld ?_; first | refine G.fieldAddr rfl (tyy rfl) rfl rfl ?_) | (refine G.atSto ?_; refine G.storeOwn rfl rfl (tyy rfl) Za rfl rfl rfl rfl ?_))
      all_goals first | (exfalso; omega) | skip
      refine G.go ?_
      refine G.loop (σ := Nat) (fun i => [(84, .int .i64 i), (83, .agg formsC.toArray), (10, .bool (lkR (formsL.take i) o.tag none).isSome), (9, .pointer (some ⟨g9, 0, none⟩)), (8, .pointer (some ⟨gm, 0, none⟩)), (7, .pointer (some ⟨q, 0, none⟩)), (2, .pointer (some ⟨g2, 0, none⟩))])
        (fun i => [msB gm { zM with id := id, op := (lkR (formsL.take i) o.tag none).getD 0 } nilV nilV nilV nilV nilV nilV, prt q (.slice A (0 + 1) cp) false, .blk g9 [.int .i64 o.tag, str o.data, .slice A5 o.kids.length c5] 90, .blk g2 (msR zM nilV nilV nilV nilV nilV nilV) 51])
        (fun i _ => i <= 19) (fun i => 19 - i) 0 ⟨rfl, rfl, rfl, rfl, rfl, rfl, rfl, trivial⟩ Zu (by omega) ?_
      rintro i h5 hle5 hi
      by_cases hlt : i < 19
      . obtain ⟨a, b, hf, hp⟩ := forms_at i hlt
        have hnx : lkR (formsL.take (i + 1)) o.tag none = if b = o.tag then some a else lkR (formsL.take i) o.tag none := by rw [take_get hf, lkR_app]
        generalize lkR (formsL.take i) o.tag none = cur at *
        by_cases hb : b = o.tag
        . rw [if_pos hb] at hnx
          repeat' (first | (refine G.idxArrA rfl rfl (tyy rfl) (tyy rfl) rfl rfl Zj hp rfl Zo ?_) | (refine G.atCode ?_; first | refine G.seq ?_ | refine G.region ?_ | refine G.block ?_ | refine G.skip ?_ | (refine G.cond rfl ?_ ?_ <;> intro hc <;> (try simp only [tests, reduceCtorEq] at hc) <;> (try exact Zf))) | refine G.endOps ?_ | refine G.endBlk ?_ | (refine G.atBin ?_; first | (refine G.atAdd ?_; first | refine G.arith rfl rfl rfl rfl rfl Zi ?_) | (refine G.atEql ?_; first | refine G.op rfl rfl ?_) | refine G.op rfl rfl ?_) | refine G.op rfl rfl ?_ | (refine G.atLoad ?_; first | refine G.loadOwn1 rfl (tyy rfl) rfl rfl Za rfl rfl ?_) | (refine G.atFld ?_; first | refine G.fieldAddr rfl (tyy rfl) rfl rfl ?_) | (refine G.atSto ?_; refine G.storeOwn rfl rfl (tyy rfl) Za rfl rfl rfl rfl ?_) | (refine G.atAlc ?_; refine G.alloc (tyy rfl) rfl rfl ?_; intro _))
          all_goals first | (exfalso; omega) | skip
          all_goals refine G.again (i + 1) ?_ ?_ (by omega) (by solve | repeat first | assumption | exact Zr _ | refine Zq ?_ Zp) (by omega)
          all_goals simp only [hnx]
          . exact ⟨sint (by omega), rfl, rfl, rfl, rfl, rfl, rfl, trivial⟩
          . exact Zu
        . rw [if_neg hb] at hnx
          repeat' (first | (refine G.idxArrA rfl rfl (tyy rfl) (tyy rfl) rfl rfl Zj hp rfl Zo ?_) | (refine G.atCode ?_; first | refine G.seq ?_ | refine G.region ?_ | refine G.block ?_ | refine G.skip ?_ | (refine G.cond rfl ?_ ?_ <;> intro hc <;> (try simp only [tests, reduceCtorEq] at hc) <;> (try exact Zf))) | refine G.endOps ?_ | refine G.endBlk ?_ | (refine G.atBin ?_; first | (refine G.atAdd ?_; first | refine G.arith rfl rfl rfl rfl rfl Zi ?_) | (refine G.atEql ?_; first | refine G.op rfl rfl ?_) | refine G.op rfl rfl ?_) | refine G.op rfl rfl ?_ | (refine G.atLoad ?_; first | refine G.loadOwn1 rfl (tyy rfl) rfl rfl Za rfl rfl ?_) | (refine G.atFld ?_; first | refine G.fieldAddr rfl (tyy rfl) rfl rfl ?_) | (refine G.atSto ?_; refine G.storeOwn rfl rfl (tyy rfl) Za rfl rfl rfl rfl ?_) | (refine G.atAlc ?_; refine G.alloc (tyy rfl) rfl rfl ?_; intro _))
          all_goals first | (exfalso; omega) | skip
          all_goals refine G.again (i + 1) ?_ ?_ (by omega) (by solve | repeat first | assumption | exact Zr _ | refine Zq ?_ Zp) (by omega)
          all_goals simp only [hnx]
          . exact ⟨sint (by omega), rfl, rfl, rfl, rfl, rfl, rfl, trivial⟩
          . exact Zu
      . obtain rfl : i = 19 := by omega
        have ho : lkR (formsL.take 19) o.tag none = opOf o.tag := rfl
        rw [ho]
        cases hop : opOf o.tag with
        | none =>
          have hrd : rdO id o [] = .error 24 := by unfold rdO; rw [hop]
          rw [hrd]
          repeat' (first | (refine G.atCode ?_; first | refine G.seq ?_ | refine G.region ?_ | refine G.exit rfl ?_ | refine G.ret ?_ | (refine G.cond rfl ?_ ?_ <;> intro hc <;> (try simp only [tests, reduceCtorEq] at hc) <;> (try exact Zf))) | refine G.endOps ?_ | (refine G.atBin ?_; first | refine G.op rfl rfl ?_) | refine G.op rfl rfl ?_ | (refine G.atSto ?_; refine G.storeOwn rfl rfl (tyy rfl) Za rfl rfl rfl rfl ?_) | (refine G.atBld ?_; refine G.build (tyy rfl) rfl rfl rfl ?_))
          all_goals first | (exfalso; omega) | exact G.done (rs := [.cell 2 51, .tmp 3]) rfl (.cellA rfl (tyy rfl) rfl rfl Za rfl (.tmp rfl .nil)) rfl [] (SubH.nil _) ⟨RdR.err (by omega) rfl, rfl⟩ | skip
        | some op =>
          have hOp := fun h hn => hO _ _ _ rfl hop gm id o (by omega) 63 hwo [.int .i64 o.tag, str o.data, .slice A5 o.kids.length c5] h hn
          repeat' (first | (show G _ (.ops .seq _ (⟨some _, .call { callee := .value (.func 62), args := _, argTypes := _ }, _, _, _, none⟩ :: _) :: _) _ _ _; refine G.call callOperation rfl rfl (hOp _ (NodeC.mono (by solve | repeat first | assumption | exact Zr _ | refine Zq ?_ Zp) _ _ hno0)) Ze ?_; rintro _ h6 H6 ⟨m', pv, kv', nv, av, mv, b0, rfl, rfl, hres⟩ hle6) | (refine G.atSlc ?_; refine G.sliceSl rfl rfl rfl (tyy rfl) (tyy rfl) rfl Zj Zj (by omega) ?_) | (refine G.atCode ?_; refine G.stopLoop ?_) | (refine G.atCode ?_; first | refine G.seq ?_ | refine G.region ?_ | refine G.block ?_ | refine G.skip ?_ | refine G.exit rfl ?_ | (refine G.cond rfl ?_ ?_ <;> intro hc <;> (try simp only [tests, reduceCtorEq] at hc) <;> (try exact Zf))) | refine G.endOps ?_ | (refine G.atBin ?_; first | refine G.op rfl rfl ?_) | refine G.op rfl rfl ?_ | (refine G.atLen ?_; first | refine G.lenSlice rfl (tyy rfl) rfl ?_) | (refine G.atLoad ?_; first | refine G.loadOwn1 rfl (tyy rfl) rfl rfl Za rfl rfl ?_ | refine G.loadOwnA rfl (tyy rfl) rfl rfl Za rfl rfl ?_) | (refine G.atFld ?_; first | refine G.fieldAddr rfl (tyy rfl) rfl rfl ?_))
          all_goals first | (exfalso; omega) | skip
          refine G.go ?_
          refine G.loop (σ := Unit) (fun _ => [(107, .int .i64 0), (106, .int .i64 0), (13, .bool b0), (8, .pointer (some ⟨gm, 0, none⟩)), (2, .pointer (some ⟨g2, 0, none⟩))])
            (fun _ => [msB gm m' pv kv' nv av mv nilV, .blk g2 (msR zM nilV nilV nilV nilV nilV nilV) 51]) (fun _ _ => True) (fun _ => 0) () ⟨rfl, rfl, rfl, rfl, rfl, trivial⟩ Zu trivial ?_
          rintro _ h7 hle7 _
          rcases rd_of_op hop hres (CtI.start b0 []) with ⟨rfl, hrd, hV⟩ | ⟨rfl, hrd⟩
          . rw [hrd]
            obtain ⟨⟨pA, pn, pc, rfl⟩, ⟨kA, kn, kc, rfl⟩, ⟨nA, nn, nc, rfl⟩, ⟨aA, an, ac, rfl⟩, ⟨mA', mn, mc, rfl⟩, _⟩ := hV.forms
            repeat' (first | (refine G.atCode ?_; first | refine G.seq ?_ | refine G.region ?_ | refine G.skip ?_ | refine G.exit rfl ?_ | refine G.ret ?_ | (refine G.cond rfl ?_ ?_ <;> intro hc <;> (try simp only [tests, reduceCtorEq] at hc) <;> (try exact Zf))) | refine G.endOps ?_ | (refine G.atBin ?_; first | refine G.op rfl rfl ?_) | refine G.op rfl rfl ?_ | (refine G.atLoad ?_; first | refine G.loadOwnA rfl (tyy rfl) rfl rfl Za rfl rfl ?_) | (refine G.atSto ?_; refine G.storeOwn rfl rfl (tyy rfl) Za rfl rfl rfl rfl ?_))
            all_goals first | (exfalso; omega) | skip
            all_goals exact G.done (rs := [.cell 2 51, .tmp 3]) rfl (.cellA rfl (tyy rfl) rfl rfl Za rfl (.tmp rfl .nil)) rfl [] (SubH.nil _) ⟨RdR.ok (m := { m' with ctls := [] }) rfl ⟨FlC.mono (by solve | repeat first | assumption | exact Zr _ | refine Zq ?_ Zp) _ _ hV.fl, hV.names.mono (by solve | repeat first | assumption | exact Zr _ | refine Zq ?_ Zp), hV.attrs.mono (by solve | repeat first | assumption | exact Zr _ | refine Zq ?_ Zp), hV.mods.mono (by solve | repeat first | assumption | exact Zr _ | refine Zq ?_ Zp), HSl.nil _ 4⟩, rfl⟩
          . rw [hrd]
            repeat' (first | (refine G.atCode ?_; first | refine G.seq ?_ | refine G.region ?_ | refine G.exit rfl ?_ | refine G.ret ?_ | (refine G.cond rfl ?_ ?_ <;> intro hc <;> (try simp only [tests, reduceCtorEq] at hc) <;> (try exact Zf))) | refine G.endOps ?_ | (refine G.atBin ?_; first | refine G.op rfl rfl ?_) | refine G.op rfl rfl ?_ | (refine G.atSto ?_; refine G.storeOwn rfl rfl (tyy rfl) Za rfl rfl rfl rfl ?_) | (refine G.atBld ?_; refine G.build (tyy rfl) rfl rfl rfl ?_))
            all_goals first | (exfalso; omega) | exact G.done (rs := [.cell 2 51, .tmp 3]) rfl (.cellA rfl (tyy rfl) rfl rfl Za rfl (.tmp rfl .nil)) rfl [] (SubH.nil _) ⟨RdR.err (by omega) rfl, rfl⟩ | skip
    | some [o, c], ⟨e, hk⟩ =>
      intro hO
      subst e
      have hk0 := hk
      obtain ⟨A, cp, rfl, hcp, hm⟩ := hk.form
      obtain ⟨rows, hsl, hr⟩ := hk
      have hrl := hr.len
      simp only [KidsC] at hr
      obtain ⟨ro, rs, rfl, hno, hrs⟩ := hr
      have hno0 := hno
      obtain ⟨okv, rfl, hokv⟩ := hno.ks
      obtain ⟨A5, c5, rfl, _, _⟩ := hokv.form
      have hwo : WfN o 63 := by have := hwf1 _ rfl; rw [WfKs] at this; exact this.1
      have hwto : o.wt + c.wt <= 100000000 := by have := hw2; rw [show psW (some [o, c]) = o.wt + (c.wt + 0) from by simp only [psW, wts]] at this; omega
      have htl := hsl.tail 1 (by simp only [List.length_cons]; omega)
      obtain ⟨rc, rs2, rfl, hnc, rfl⟩ := hrs
      have hnc0 := hnc
      obtain ⟨ckv, rfl, hckv⟩ := hnc.ks
      obtain ⟨A6, c6, rfl, _, hkm⟩ := hckv.form
      simp only [List.length_cons, List.length_nil] at *
      have hl3 : ([.int .i64 o.tag, str o.data, .slice A5 o.kids.length c5] : List Value).length = 3 := rfl
      have hl4 : ([.int .i64 c.tag, str c.data, .slice A6 c.kids.length c6] : List Value).length = 3 := rfl
      by_cases htc : c.tag = 160
      . rw [if_pos htc]
        repeat' (first | (refine G.atIdx ?_; refine G.idxImm rfl rfl (tyy rfl) (tyy rfl) (hsl.mono (by solve | repeat first | assumption | exact Zr _ | refine Zq ?_ Zp)) Zj rfl (by simp only [List.length_cons, List.length_nil]; omega) ?_; intro pp rr hx9 hp9; (obtain rfl := Option.some.inj hx9)) | (refine G.atLoad ?_; refine G.loadImmAt1 rfl (tyy rfl) rfl rfl Zp rfl rfl ?_) | (refine G.atAlc ?_; refine G.alloc (tyy rfl) rfl rfl ?_; intro g9) | (refine G.atLoad ?_; refine G.loadImmA rfl (tyy rfl) rfl rfl (hT.mono (by solve | repeat first | assumption | exact Zr _ | refine Zq ?_ Zp)) formsC_len rfl ?_) | (refine G.atCode ?_; refine G.stopLoop ?_) | (refine G.atCode ?_; first | refine G.seq ?_ | refine G.region ?_ | refine G.block ?_ | refine G.skip ?_ | (refine G.cond rfl ?_ ?_ <;> intro hc <;> (try simp only [tests, reduceCtorEq] at hc) <;> (try exact Zf))) | refine G.endOps ?_ | (refine G.atGd ?_; first | refine G.guardYes rfl rfl ?_) | (refine G.atBin ?_; first | (refine G.atEql ?_; first | refine G.op rfl rfl ?_) | (refine G.atNeq ?_; first | refine G.op rfl rfl ?_) | refine G.op rfl rfl ?_) | refine G.op rfl rfl ?_ | (refine G.atLen ?_; first | refine G.lenSlice rfl (tyy rfl) rfl ?_) | (refine G.atLoad ?_; first | refine G.loadOwn1 rfl (tyy rfl) rfl rfl Za rfl rfl ?_ | refine G.loadImmA rfl (tyy rfl) rfl rfl Zp Zp rfl ?_) | (refine G.atFld ?_; first | refine G.fieldAddr rfl (tyy rfl) rfl rfl ?_ | refine G.fieldAddrP rfl (tyy rfl) rfl rfl ?_) | (refine G.atSto ?_; refine G.storeOwn rfl rfl (tyy rfl) Za rfl rfl rfl rfl ?_))
        all_goals first | (exfalso; omega) | skip
        refine G.go ?_
        refine G.loop (σ := Nat) (fun i => [(84, .int .i64 i), (83, .agg formsC.toArray), (10, .bool (lkR (formsL.take i) o.tag none).isSome), (9, .pointer (some ⟨g9, 0, none⟩)), (8, .pointer (some ⟨gm, 0, none⟩)), (7, .pointer (some ⟨q, 0, none⟩)), (2, .pointer (some ⟨g2, 0, none⟩))])
          (fun i => [msB gm { zM with id := id, op := (lkR (formsL.take i) o.tag none).getD 0 } nilV nilV nilV nilV nilV nilV, prt q (.slice A (0 + 1 + 1) cp) false, .blk g9 [.int .i64 o.tag, str o.data, .slice A5 o.kids.length c5] 90, .blk g2 (msR zM nilV nilV nilV nilV nilV nilV) 51])
          (fun i _ => i <= 19) (fun i => 19 - i) 0 ⟨rfl, rfl, rfl, rfl, rfl, rfl, rfl, trivial⟩ Zu (by omega) ?_
        rintro i h5 hle5 hi
        by_cases hlt : i < 19
        . obtain ⟨a, b, hf, hp⟩ := forms_at i hlt
          have hnx : lkR (formsL.take (i + 1)) o.tag none = if b = o.tag then some a else lkR (formsL.take i) o.tag none := by rw [take_get hf, lkR_app]
          generalize lkR (formsL.take i) o.tag none = cur at *
          by_cases hb : b = o.tag
          . rw [if_pos hb] at hnx
            repeat' (first | (refine G.idxArrA rfl rfl (tyy rfl) (tyy rfl) rfl rfl Zj hp rfl Zo ?_) | (refine G.atCode ?_; first | refine G.seq ?_ | refine G.region ?_ | refine G.block ?_ | refine G.skip ?_ | (refine G.cond rfl ?_ ?_ <;> intro hc <;> (try simp only [tests, reduceCtorEq] at hc) <;> (try exact Zf))) | refine G.endOps ?_ | refine G.endBlk ?_ | (refine G.atBin ?_; first | (refine G.atAdd ?_; first | refine G.arith rfl rfl rfl rfl rfl Zi ?_) | (refine G.atEql ?_; first | refine G.op rfl rfl ?_) | refine G.op rfl rfl ?_) | refine G.op rfl rfl ?_ | (refine G.atLoad ?_; first | refine G.loadOwn1 rfl (tyy rfl) rfl rfl Za rfl rfl ?_) | (refine G.atFld ?_; first | refine G.fieldAddr rfl (tyy rfl) rfl rfl ?_) | (refine G.atSto ?_; refine G.storeOwn rfl rfl (tyy rfl) Za rfl rfl rfl rfl ?_) | (refine G.atAlc ?_; refine G.alloc (tyy rfl) rfl rfl ?_; intro _))
            all_goals first | (exfalso; omega) | skip
            all_goals refine G.again (i + 1) ?_ ?_ (by omega) (by solve | repeat first | assumption | exact Zr _ | refine Zq ?_ Zp) (by omega)
            all_goals simp only [hnx]
            . exact ⟨sint (by omega), rfl, rfl, rfl, rfl, rfl, rfl, trivial⟩
            . exact Zu
          . rw [if_neg hb] at hnx
            repeat' (first | (refine G.idxArrA rfl rfl (tyy rfl) (tyy rfl) rfl rfl Zj hp rfl Zo ?_) | (refine G.atCode ?_; first | refine G.seq ?_ | refine G.region ?_ | refine G.block ?_ | refine G.skip ?_ | (refine G.cond rfl ?_ ?_ <;> intro hc <;> (try simp only [tests, reduceCtorEq] at hc) <;> (try exact Zf))) | refine G.endOps ?_ | refine G.endBlk ?_ | (refine G.atBin ?_; first | (refine G.atAdd ?_; first | refine G.arith rfl rfl rfl rfl rfl Zi ?_) | (refine G.atEql ?_; first | refine G.op rfl rfl ?_) | refine G.op rfl rfl ?_) | refine G.op rfl rfl ?_ | (refine G.atLoad ?_; first | refine G.loadOwn1 rfl (tyy rfl) rfl rfl Za rfl rfl ?_) | (refine G.atFld ?_; first | refine G.fieldAddr rfl (tyy rfl) rfl rfl ?_) | (refine G.atSto ?_; refine G.storeOwn rfl rfl (tyy rfl) Za rfl rfl rfl rfl ?_) | (refine G.atAlc ?_; refine G.alloc (tyy rfl) rfl rfl ?_; intro _))
            all_goals first | (exfalso; omega) | skip
            all_goals refine G.again (i + 1) ?_ ?_ (by omega) (by solve | repeat first | assumption | exact Zr _ | refine Zq ?_ Zp) (by omega)
            all_goals simp only [hnx]
            . exact ⟨sint (by omega), rfl, rfl, rfl, rfl, rfl, rfl, trivial⟩
            . exact Zu
        . obtain rfl : i = 19 := by omega
          have ho : lkR (formsL.take 19) o.tag none = opOf o.tag := rfl
          rw [ho]
          cases hop : opOf o.tag with
          | none =>
            have hrd : rdO id o c.kids = .error 24 := by unfold rdO; rw [hop]
            rw [hrd]
            repeat' (first | (refine G.atCode ?_; first | refine G.seq ?_ | refine G.region ?_ | refine G.exit rfl ?_ | refine G.ret ?_ | (refine G.cond rfl ?_ ?_ <;> intro hc <;> (try simp only [tests, reduceCtorEq] at hc) <;> (try exact Zf))) | refine G.endOps ?_ | (refine G.atBin ?_; first | refine G.op rfl rfl ?_) | refine G.op rfl rfl ?_ | (refine G.atSto ?_; refine G.storeOwn rfl rfl (tyy rfl) Za rfl rfl rfl rfl ?_) | (refine G.atBld ?_; refine G.build (tyy rfl) rfl rfl rfl ?_))
            all_goals first | (exfalso; omega) | exact G.done (rs := [.cell 2 51, .tmp 3]) rfl (.cellA rfl (tyy rfl) rfl rfl Za rfl (.tmp rfl .nil)) rfl [] (SubH.nil _) ⟨RdR.err (by omega) rfl, rfl⟩ | skip
          | some op =>
            have hOp := fun h hn => hO _ _ _ rfl hop gm id o (by omega) 63 hwo [.int .i64 o.tag, str o.data, .slice A5 o.kids.length c5] h hn
            repeat' (first | (show G _ (.ops .seq _ (⟨some _, .call { callee := .value (.func 62), args := _, argTypes := _ }, _, _, _, none⟩ :: _) :: _) _ _ _; refine G.call callOperation rfl rfl (hOp _ (NodeC.mono (by solve | repeat first | assumption | exact Zr _ | refine Zq ?_ Zp) _ _ hno0)) Ze ?_; rintro _ h6 H6 ⟨m', pv, kv', nv, av, mv, b0, rfl, rfl, hres⟩ hle6) | (refine G.atSlc ?_; refine G.sliceSl rfl rfl rfl (tyy rfl) (tyy rfl) rfl Zj Zj (by omega) ?_) | (refine G.atCode ?_; refine G.stopLoop ?_) | (refine G.atCode ?_; first | refine G.seq ?_ | refine G.region ?_ | refine G.block ?_ | refine G.skip ?_ | refine G.exit rfl ?_ | (refine G.cond rfl ?_ ?_ <;> intro hc <;> (try simp only [tests, reduceCtorEq] at hc) <;> (try exact Zf))) | refine G.endOps ?_ | (refine G.atBin ?_; first | refine G.op rfl rfl ?_) | refine G.op rfl rfl ?_ | (refine G.atLen ?_; first | refine G.lenSlice rfl (tyy rfl) rfl ?_) | (refine G.atLoad ?_; first | refine G.loadOwn1 rfl (tyy rfl) rfl rfl Za rfl rfl ?_ | refine G.loadOwnA rfl (tyy rfl) rfl rfl Za rfl rfl ?_) | (refine G.atFld ?_; first | refine G.fieldAddr rfl (tyy rfl) rfl rfl ?_))
            all_goals first | (exfalso; omega) | skip
            refine G.nilRow 95 4 ?_
            refine G.go ?_
            refine G.loop (σ := Nat × Bool × List Ctl × Option Addr × Nat) (fun x => [(107, .int .i64 x.1), (106, .int .i64 1), (105, .slice (if cp = 1 then A else A.map fun a => a.add (1 * 3)) ((0 + 1 + 1) - 1) (cp - 1)), (13, .bool x.2.1), (8, .pointer (some ⟨gm, 0, none⟩)), (2, .pointer (some ⟨g2, 0, none⟩))])
              (fun x => [msB gm m' pv kv' nv av mv (.slice x.2.2.2.1 (ctlsR x.2.2.1).length x.2.2.2.2), .blk g2 (msR zM nilV nilV nilV nilV nilV nilV) 51, .row (.slice x.2.2.2.1 (ctlsR x.2.2.1).length x.2.2.2.2) 95 4 (ctlsR x.2.2.1)])
              (fun x _ => (x.1 = 0 /\ x.2.1 = b0 /\ x.2.2.1 = []) \/ (x.1 = 1 /\ CtI b0 c.kids c.kids.length x.2.1 x.2.2.1)) (fun x => 1 - x.1) ⟨0, b0, [], none, 0⟩ ⟨rfl, rfl, rfl, rfl, rfl, rfl, trivial⟩ Zu (.inl ⟨rfl, rfl, rfl⟩) ?_
            rintro ⟨i2, okb, cs, B, d⟩ h7 hle7 hst
            simp only at hst
            refine G.norm (by (try dsimp only) <;> exact rfl) (by (try dsimp only) <;> exact rfl) ?_
            rcases hst with ⟨rfl, rfl, rfl⟩ | ⟨rfl, hI⟩
            . repeat' (first | (refine G.atIdx ?_; refine G.idxImm rfl rfl (tyy rfl) (tyy rfl) (htl.mono (by solve | repeat first | assumption | exact Zr _ | refine Zq ?_ Zp)) Zj rfl (by simp only [List.length_cons, List.length_nil, List.drop_succ_cons, List.drop_zero]; omega) ?_; intro pp rr hx9 hp9; (obtain rfl := Option.some.inj hx9)) | (refine G.atCode ?_; refine G.stopLoop ?_) | (refine G.atCode ?_; first | refine G.seq ?_ | refine G.region ?_ | refine G.block ?_ | refine G.skip ?_ | (refine G.cond rfl ?_ ?_ <;> intro hc <;> (try simp only [tests, reduceCtorEq] at hc) <;> (try exact Zf))) | refine G.endOps ?_ | (refine G.atBin ?_; first | refine G.op rfl rfl ?_) | refine G.op rfl rfl ?_ | (refine G.atLen ?_; first | refine G.lenSlice rfl (tyy rfl) rfl ?_) | (refine G.atLoad ?_; first | refine G.loadOwn1 rfl (tyy rfl) rfl rfl Za rfl rfl ?_ | refine G.loadImmA rfl (tyy rfl) rfl rfl Zp Zp rfl ?_) | (refine G.atFld ?_; first | refine G.fieldAddr rfl (tyy rfl) rfl rfl ?_) | (refine G.atSto ?_; refine G.storeOwn rfl rfl (tyy rfl) Za rfl rfl rfl rfl ?_) | (refine G.atAlc ?_; refine G.alloc (tyy rfl) rfl rfl ?_; intro _))
              all_goals first | (exfalso; omega) | skip
              refine G.go ?_
              obtain ⟨rowc, sc, kc⟩ := hckv
              have hrc := kc.len
              refine G.loop (σ := Nat × Bool × List Ctl × Option Addr × Nat) (fun x => [(114, .int .i64 x.1), (113, .int .i64 c.kids.length), (112, .slice A6 c.kids.length c6), (107, .int .i64 0), (106, .int .i64 1), (105, .slice (if cp = 1 then A else A.map fun a => a.add (1 * 3)) ((0 + 1 + 1) - 1) (cp - 1)), (13, .bool x.2.1), (8, .pointer (some ⟨gm, 0, none⟩)), (2, .pointer (some ⟨g2, 0, none⟩))])
                (fun x => [msB gm m' pv kv' nv av mv (.slice x.2.2.2.1 (ctlsR x.2.2.1).length x.2.2.2.2), .blk g2 (msR zM nilV nilV nilV nilV nilV nilV) 51, .row (.slice x.2.2.2.1 (ctlsR x.2.2.1).length x.2.2.2.2) 95 4 (ctlsR x.2.2.1)])
                (fun x _ => x.1 <= c.kids.length /\ CtI okb c.kids x.1 x.2.1 x.2.2.1) (fun x => c.kids.length - x.1) ⟨0, okb, [], B, d⟩ ⟨rfl, rfl, rfl, rfl, rfl, rfl, rfl, rfl, rfl, trivial⟩ Zu ⟨Nat.zero_le _, CtI.start okb c.kids⟩ ?_
              rintro ⟨j, okc, cs, B2, d2⟩ h8 hle8 ⟨hj, hI⟩
              simp only at hj hI
              refine G.norm (by (try dsimp only) <;> exact rfl) (by (try dsimp only) <;> exact rfl) ?_
              have hcl := ctlsR_length cs
              have hjl := hI.1
              have hkw := wts_len c.kids
              have hcw := c.wt_eq
              by_cases hlt : j < c.kids.length
              . obtain ⟨k, hk⟩ : ∃ k, c.kids[j]? = some k := ⟨c.kids[j], List.getElem?_eq_getElem hlt⟩
                obtain ⟨q1, e1, n1⟩ := kc.get hk
                have hC := fun h (hn : NodeC h k q1) => wire_control k q1 h hn
                have n1' := n1
                obtain ⟨kv1, rfl, hkv1⟩ := n1.ks
                obtain ⟨A3, c3, rfl, _, _⟩ := hkv1.form
                have hl1 : ([.int .i64 k.tag, str k.data, .slice A3 k.kids.length c3] : List Value).length = 3 := rfl
                repeat' (first | (refine G.atIdx ?_; refine G.idxImm rfl rfl (tyy rfl) (tyy rfl) (sc.mono (by solve | repeat first | assumption | exact Zr _ | refine Zq ?_ Zp)) Zj rfl (by omega) ?_; intro pp9 rr9 hx9 hp9; (rw [e1] at hx9); (obtain rfl := Option.some.inj hx9)) | (show G _ (.ops .seq _ (⟨some _, .call { callee := .value (.func 63), args := _, argTypes := _ }, _, _, _, none⟩ :: _) :: _) _ _ _; refine G.call callControl rfl rfl (hC _ (NodeC.mono (by solve | repeat first | assumption | exact Zr _ | refine Zq ?_ Zp) _ _ n1')) Ze ?_; rintro _ h9 H9 ⟨⟨ct, fb, rfl, hct⟩, rfl⟩ hle9) | (refine G.atApp ?_; refine G.append1 rfl rfl (tyy rfl) (tyy rfl) rfl rfl Za Za rfl rfl rfl Zo ?_; intro _; refine G.rowForm Take.hd ?_; rintro _ _ rfl) | (refine G.atCode ?_; first | refine G.seq ?_ | refine G.region ?_ | refine G.block ?_ | refine G.skip ?_ | (refine G.cond rfl ?_ ?_ <;> intro hc <;> (try simp only [tests, reduceCtorEq] at hc) <;> (try exact Zf))) | refine G.endOps ?_ | refine G.endBlk ?_ | (refine G.atGd ?_; first | (refine G.guardS rfl rfl rfl ?_ ?_ <;> intro hc <;> (try simp only [tests, reduceCtorEq] at hc) <;> (try exact Zf))) | (refine G.atBin ?_; first | (refine G.atAdd ?_; first | refine G.arith rfl rfl rfl rfl rfl Zi ?_) | refine G.op rfl rfl ?_) | refine G.op rfl rfl ?_ | (refine G.atLoad ?_; first | refine G.loadOwn1 rfl (tyy rfl) rfl rfl Za rfl rfl ?_ | refine G.loadOwnA rfl (tyy rfl) rfl rfl Za rfl rfl ?_ | refine G.loadImmA rfl (tyy rfl) rfl rfl Zp Zp rfl ?_) | (refine G.atFld ?_; first | refine G.fieldAddr rfl (tyy rfl) rfl rfl ?_) | (refine G.atSto ?_; refine G.storeOwn rfl rfl (tyy rfl) Za rfl rfl rfl rfl ?_) | (refine G.atAlc ?_; refine G.alloc (tyy rfl) rfl rfl ?_; intro _) | (refine G.atBsl ?_; refine G.buildSlice (tyy rfl) (tyy rfl) rfl rfl rfl rfl ?_; intro _))
                all_goals first | (exfalso; omega) | skip
                all_goals
                  rename_i B' d'
                  refine G.again ⟨j + 1, okc && fb, cs ++ [ct], B', d'⟩ ?_ ?_ ⟨by simp only; omega, hI.step hk hct⟩ (by solve | repeat first | assumption | exact Zr _ | refine Zq ?_ Zp) (by simp only; omega)
                . refine ⟨sint (by simp), rfl, rfl, rfl, rfl, rfl, ?_, rfl, rfl, trivial⟩
                  rw [‹okc = true›]; rfl
                . simp only [ctlsR_app]
                  exact Zu
                . refine ⟨sint (by simp), rfl, rfl, rfl, rfl, rfl, ?_, rfl, rfl, trivial⟩
                  rw [‹okc = false›]; rfl
                . simp only [ctlsR_app]
                  exact Zu
              . obtain rfl : j = c.kids.length := by omega
                repeat' (first | (refine G.atCode ?_; first | refine G.seq ?_ | refine G.region ?_ | refine G.exit rfl ?_ | (refine G.cond rfl ?_ ?_ <;> intro hc <;> (try simp only [tests, reduceCtorEq] at hc) <;> (try exact Zf))) | refine G.endOps ?_ | refine G.endBlk ?_ | (refine G.atBin ?_; first | (refine G.atAdd ?_; first | refine G.arith rfl rfl rfl rfl rfl Zi ?_) | refine G.op rfl rfl ?_) | refine G.op rfl rfl ?_)
                all_goals first | (exfalso; omega) | skip
                all_goals exact G.again ⟨1, okc, cs, B2, d2⟩ ⟨sint (by simp), rfl, rfl, rfl, rfl, rfl, trivial⟩ Zu (.inr ⟨rfl, hI⟩) (by solve | repeat first | assumption | exact Zr _ | refine Zq ?_ Zp) (by simp only; omega)
            . have hcl := hI.1
              refine G.freezeRow (v := .slice B (ctlsR cs).length d) Za ?_
              intro h11 hle11 hs11
              rcases rd_of_op hop hres hI with ⟨rfl, hrd, hV⟩ | ⟨rfl, hrd⟩
              . rw [hrd]
                obtain ⟨⟨pA, pn, pc, rfl⟩, ⟨kA, kn, kc, rfl⟩, ⟨nA, nn, nc, rfl⟩, ⟨aA, an, ac, rfl⟩, ⟨mA', mn, mc, rfl⟩, _⟩ := hV.forms
                repeat' (first | (refine G.atCode ?_; first | refine G.seq ?_ | refine G.region ?_ | refine G.skip ?_ | refine G.exit rfl ?_ | refine G.ret ?_ | (refine G.cond rfl ?_ ?_ <;> intro hc <;> (try simp only [tests, reduceCtorEq] at hc) <;> (try exact Zf))) | refine G.endOps ?_ | (refine G.atBin ?_; first | refine G.op rfl rfl ?_) | refine G.op rfl rfl ?_ | (refine G.atLoad ?_; first | refine G.loadOwnA rfl (tyy rfl) rfl rfl Za rfl rfl ?_) | (refine G.atSto ?_; refine G.storeOwn rfl rfl (tyy rfl) Za rfl rfl rfl rfl ?_))
                all_goals first | (exfalso; omega) | skip
                all_goals exact G.done (rs := [.cell 2 51, .tmp 3]) rfl (.cellA rfl (tyy rfl) rfl rfl Za rfl (.tmp rfl .nil)) rfl [] (SubH.nil _) ⟨RdR.ok (m := { m' with ctls := cs }) rfl ⟨FlC.mono (by solve | repeat first | assumption | exact Zr _ | refine Zq ?_ Zp) _ _ hV.fl, hV.names.mono (by solve | repeat first | assumption | exact Zr _ | refine Zq ?_ Zp), hV.attrs.mono (by solve | repeat first | assumption | exact Zr _ | refine Zq ?_ Zp), hV.mods.mono (by solve | repeat first | assumption | exact Zr _ | refine Zq ?_ Zp), hs11.mono (by solve | repeat first | assumption | exact Zr _ | refine Zq ?_ Zp)⟩, rfl⟩
              . rw [hrd]
                repeat' (first | (refine G.atCode ?_; first | refine G.seq ?_ | refine G.region ?_ | refine G.exit rfl ?_ | refine G.ret ?_ | (refine G.cond rfl ?_ ?_ <;> intro hc <;> (try simp only [tests, reduceCtorEq] at hc) <;> (try exact Zf))) | refine G.endOps ?_ | (refine G.atBin ?_; first | refine G.op rfl rfl ?_) | refine G.op rfl rfl ?_ | (refine G.atSto ?_; refine G.storeOwn rfl rfl (tyy rfl) Za rfl rfl rfl rfl ?_) | (refine G.atBld ?_; refine G.build (tyy rfl) rfl rfl rfl ?_))
                all_goals first | (exfalso; omega) | exact G.done (rs := [.cell 2 51, .tmp 3]) rfl (.cellA rfl (tyy rfl) rfl rfl Za rfl (.tmp rfl .nil)) rfl [] (SubH.nil _) ⟨RdR.err (by omega) rfl, rfl⟩ | skip
      . rw [if_neg htc]
        repeat' (first | (refine G.atIdx ?_; refine G.idxImm rfl rfl (tyy rfl) (tyy rfl) (hsl.mono (by solve | repeat first | assumption | exact Zr _ | refine Zq ?_ Zp)) Zj rfl (by simp only [List.length_cons, List.length_nil]; omega) ?_; intro pp rr hx9 hp9; (obtain rfl := Option.some.inj hx9)) | (refine G.atLoad ?_; refine G.loadImmAt1 rfl (tyy rfl) rfl rfl Zp rfl rfl ?_) | (refine G.atCode ?_; first | refine G.seq ?_ | refine G.region ?_ | refine G.ret ?_ | (refine G.cond rfl ?_ ?_ <;> intro hc <;> (try simp only [tests, reduceCtorEq] at hc) <;> (try exact Zf))) | refine G.endOps ?_ | (refine G.atGd ?_; first | refine G.guardYes rfl rfl ?_) | (refine G.atBin ?_; first | (refine G.atEql ?_; first | refine G.op rfl rfl ?_) | (refine G.atNeq ?_; first | refine G.op rfl rfl ?_) | refine G.op rfl rfl ?_) | refine G.op rfl rfl ?_ | (refine G.atLen ?_; first | refine G.lenSlice rfl (tyy rfl) rfl ?_) | (refine G.atLoad ?_; first | refine G.loadOwn1 rfl (tyy rfl) rfl rfl Za rfl rfl ?_) | (refine G.atFld ?_; first | refine G.fieldAddr rfl (tyy rfl) rfl rfl ?_ | refine G.fieldAddrP rfl (tyy rfl) rfl rfl ?_) | (refine G.atSto ?_; refine G.storeOwn rfl rfl (tyy rfl) Za rfl rfl rfl rfl ?_) | (refine G.atBld ?_; refine G.build (tyy rfl) rfl rfl rfl ?_))
        all_goals first | (exfalso; omega) | exact G.done (rs := [.cell 2 51, .tmp 3]) rfl (.cellA rfl (tyy rfl) rfl rfl Za rfl (.tmp rfl .nil)) rfl [] (SubH.nil _) ⟨RdR.err (by omega) rfl, rfl⟩ | skip
  . rw [if_neg he]
    refine Spec.enter Tryd.func28 rfl rfl ?_; intro w0
    repeat' (first | (show G _ (.ops .seq _ (⟨some _, .call { callee := .value (.func 59), args := _, argTypes := _ }, _, _, _, none⟩ :: _) :: _) _ _ _; refine G.call callWhole rfl rfl (hWh _) Ze ?_; rintro _ h1 H1 ⟨rfl, rr, hn, rfl⟩ hle1; obtain ⟨kv, rfl, hkv⟩ := hn.ks; obtain ⟨A2, c2, rfl, hA2, hA3⟩ := hkv.form) | (refine G.atCode ?_; first | refine G.seq ?_ | refine G.region ?_ | refine G.ret ?_ | (refine G.cond rfl ?_ ?_ <;> intro hc <;> (try simp only [tests, reduceCtorEq] at hc) <;> (try exact Zf))) | refine G.endOps ?_ | (refine G.atBin ?_; first | (refine G.atNeq ?_; first | refine G.op rfl rfl ?_)) | refine G.op rfl rfl ?_ | (refine G.atSto ?_; refine G.storeOwn rfl rfl (tyy rfl) Za rfl rfl rfl rfl ?_) | (refine G.atAlc ?_; refine G.alloc (tyy rfl) rfl rfl ?_; intro _) | (refine G.atBld ?_; refine G.build (tyy rfl) rfl rfl rfl ?_))
    all_goals first | (exfalso; omega) | exact G.done (rs := [.cell 2 51, .tmp 3]) rfl (.cellA rfl (tyy rfl) rfl rfl Za rfl (.tmp rfl .nil)) rfl [] (SubH.nil _) ⟨RdR.err he rfl, rfl⟩ | skip
theorem write_op {m : Ms} (h : (writeM m).2 = 0) {op : Int} {o : Nd} {rest : List Nd} (h1 : nmS 2 0 2147483647 (wiS 48 (some [(who (writeM m).1).1])) = some (o :: rest)) (h2 : opOf o.tag = some op) : op = m.op := by
  obtain ⟨_, ht, _, h4, h5⟩ := write_ok h
  rw [h5, who_put h4] at h1
  unfold nodeM at h1
  generalize (if m.ctls.length = 0 then ([] : List Nd) else [sqN 160 (m.ctls.map ctlN)]) = L at h1
  have e : wiS 48 (some [((sqN 48 (numN 2 m.id :: elemM m :: L)), (0 : Int)).1]) = some (numN 2 m.id :: elemM m :: L) := rfl
  rw [e] at h1
  have h3 : nxt 2 (some (numN 2 m.id :: elemM m :: L)) = some (o :: rest) := by
    unfold nmS bdS at h1
    split at h1
    . exact h1
    . cases h1
  rw [show nxt 2 (some (numN 2 m.id :: elemM m :: L)) = some (elemM m :: L) from rfl] at h3
  injection h3 with h3
  injection h3 with h3 _
  subst h3
  have et : (elemM m).tag = tagM m.op := by
    unfold elemM
    split
    . rfl
    split
    . rfl
    split <;> rfl
  rw [et, op_back ht] at h2
  injection h2 with h2
  exact h2.symm
end Go.Proofs.YtibkffoeioidlaaDoor
