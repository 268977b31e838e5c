/- wire.filter: an element as a filter. -/
import Derived.Test.YtibkffoeioidlaaDoorWrG
import Derived.Test.YtibkffoeioidlaaDoorWrJ
import Derived.Test.YtibkffoeioidlaaDoorFlK
namespace Go.Proofs.YtibkffoeioidlaaDoor
set_option linter.all false
set_option maxRecDepth 4000
open Go.RowKit

theorem callFilterW : Callable Tryd.prog 107 := ⟨_, Tryd.func107, by kernel_rfl, rfl⟩
theorem chkE_pc (ps : Pcs) : chkE (.mk 4 [97] [] ps []) = if pcsOk ps = true then 0 else 4 := by
  unfold chkE
  rw [chkM, if_neg (by omega), if_neg (by omega), if_neg (by omega), if_neg (by omega), if_neg (by decide)]
  cases pcsOk ps
  . rw [if_pos ⟨rfl, rfl⟩, if_neg (by simp)]
  . rw [if_neg (by simp), if_pos rfl]
theorem rdFs_app : ∀ (a b : List Nd) (n : Nat), rdFs (a ++ b) n = match rdFs a n with
    | none => none
    | some (l, m) => match rdFs b m with
      | none => none
      | some (l2, q) => some (l ++ l2, q)
  | [], b, n => by
    rw [List.nil_append, rdFs]
    simp only
    cases rdFs b n with
    | none => rfl
    | some x => rfl
  | k :: a, b, n => by
    have ih := rdFs_app a b
    rw [List.cons_append, rdFs, rdFs]
    cases rdF k n with
    | none => rfl
    | some x =>
      simp only
      rw [ih]
      cases rdFs a x.2 with
      | none => rfl
      | some y =>
        simp only
        cases rdFs b y.2 with
        | none => rfl
        | some z => rfl
mutual
theorem rdF_le : ∀ (nd : Nd) (n : Nat) (f : Fl) (m : Nat), rdF nd n = some (f, m) -> m <= 1000
  | .mk t d ks, n, f, m, h => by
    rw [rdF] at h
    split at h
    . cases h
    rename_i h1
    split at h
    . injection h with h; injection h with _ h; omega
    split at h
    . split at h
      . cases h
      . rename_i l q hq
        split at h
        . cases h
        . injection h with h; injection h with _ h
          have := rdFs_le ks (n + 1) l q hq
          omega
    split at h
    . split at h
      . injection h with h; injection h with _ h; omega
      . cases h
    split at h
    . split at h
      . injection h with h; injection h with _ h; omega
      . cases h
    . cases h
theorem rdFs_le : ∀ (l : List Nd) (n : Nat) (f : List Fl) (m : Nat), rdFs l n = some (f, m) -> m <= 1000 \/ m = n
  | [], n, f, m, h => by rw [rdFs] at h; injection h with h; injection h with _ h; omega
  | k :: ks, n, f, m, h => by
    rw [rdFs] at h
    split at h
    . cases h
    . rename_i f1 m1 h1
      split at h
      . cases h
      . rename_i l2 q h2
        injection h with h; injection h with _ h
        have a1 := rdF_le k n _ _ h1
        have a2 := rdFs_le ks m1 _ _ h2
        omega
end
def RfR (gc : Nat) (o : Option (Fl × Nat)) (u : Value) (h' : Heap) (H' : List Chunk) : Prop := ∃ (k : Int) (a v : Bs) (A : Option Addr) (m1 c : Nat) (B : Option Addr) (m2 d n' : Nat) (b : Bool),
  u = .tuple #[.agg #[.int .i64 k, str a, str v, .slice A m1 c, .slice B m2 d], .bool b] /\ H' = [.blk gc [.int .i64 n'] 3] ∧
  ((b = true /\ ∃ fl, o = some (fl, n') /\ FlC h' fl [.int .i64 k, str a, str v, .slice A m1 c, .slice B m2 d]) \/ (b = false /\ o = none))
theorem RfR.ok {gc : Nat} {o : Option (Fl × Nat)} {h' : Heap} {k : Int} {a v : Bs} {A : Option Addr} {m1 c : Nat} {B : Option Addr} {m2 d n' : Nat} {fl : Fl} (ho : o = some (fl, n')) (hf : FlC h' fl [.int .i64 k, str a, str v, .slice A m1 c, .slice B m2 d]) :
    RfR gc o (.tuple #[.agg #[.int .i64 k, str a, str v, .slice A m1 c, .slice B m2 d], .bool true]) h' [.blk gc [.int .i64 n'] 3] := ⟨k, a, v, A, m1, c, B, m2, d, n', true, rfl, rfl, .inl ⟨rfl, fl, ho, hf⟩⟩
theorem RfR.no {gc : Nat} {o : Option (Fl × Nat)} {h' : Heap} {k : Int} {a v : Bs} {A : Option Addr} {m1 c : Nat} {B : Option Addr} {m2 d n' : Nat} (ho : o = none) :
    RfR gc o (.tuple #[.agg #[.int .i64 k, str a, str v, .slice A m1 c, .slice B m2 d], .bool false]) h' [.blk gc [.int .i64 n'] 3] := ⟨k, a, v, A, m1, c, B, m2, d, n', false, rfl, rfl, .inr ⟨rfl, ho⟩⟩
theorem rdFs_stop {ks : List Nd} {i : Nat} {k : Nd} (hk : ks[i]? = some k) {n m : Nat} {l : List Fl} (h1 : rdFs (ks.take i) n = some (l, m)) (h2 : rdF k m = none) : rdFs ks n = none := by
  have hi := (List.getElem?_eq_some_iff.1 hk).1
  have e : ks = ks.take i ++ (k :: ks.drop (i + 1)) := by
    rw [<- (List.getElem?_eq_some_iff.1 hk).2, ← List.drop_eq_getElem_cons hi, List.take_append_drop]
  rw [e, rdFs_app, h1]
  simp only
  rw [rdFs, h2]
theorem rdFs_step {ks : List Nd} {i : Nat} {k : Nd} (hk : ks[i]? = some k) {n m q : Nat} {l : List Fl} {f : Fl} (h1 : rdFs (ks.take i) n = some (l, m)) (h2 : rdF k m = some (f, q)) : rdFs (ks.take (i + 1)) n = some (l ++ [f], q) := by
  rw [take_get hk, rdFs_app, h1]
  simp only
  rw [rdFs, h2]
  simp only
  rw [rdFs]
theorem RfR.ofB {gc : Nat} {o : Option (Fl × Nat)} {h' : Heap} {k : Int} {a v : Bs} {A : Option Addr} {m1 c : Nat} {B : Option Addr} {m2 d n' : Nat} {fl : Fl} (P : Bool) (ho : o = if P = true then some (fl, n') else none) (hf : FlC h' fl [.int .i64 k, str a, str v, .slice A m1 c, .slice B m2 d]) :
    RfR gc o (.tuple #[.agg #[.int .i64 k, str a, str v, .slice A m1 c, .slice B m2 d], .bool P]) h' [.blk gc [.int .i64 n'] 3] := by
  cases P with
  | true => exact RfR.ok (by rw [ho, if_pos rfl]) hf
  | false => exact RfR.no (by rw [ho, if_neg Bool.false_ne_true])
def PsWf (s : PS) (w : Nat) : Prop := ∀ l, s = some l -> WfKs l w
theorem PsWf.nxt {s : PS} {w : Nat} (h : PsWf s w) (t : Int) : PsWf (nxt t s) w := by
  intro l hl
  rcases psW_cases t s with ⟨e, _⟩ | ⟨n, l', e0, e, _⟩
  . rw [e] at hl; cases hl
  . rw [e] at hl
    injection hl with hl
    subst hl
    have := h _ e0
    rw [WfKs] at this
    exact this.2
theorem PsWf.nxN {s : PS} {w : Nat} (h : PsWf s w) (t : Int) (hn : Go.Proofs.YtibkffoeioidlaaDoor.nxt t s ≠ none) : WfN (nxN t s) w := by
  rcases psW_cases t s with ⟨e, _⟩ | ⟨n, l', e0, e, e1, _⟩
  . exact absurd e hn
  . rw [e1]
    have := h _ e0
    rw [WfKs] at this
    exact this.1
theorem wi_some {t : Int} {s : PS} {l : List Nd} (h : wiS t s = some l) : l = (nxN t s).kids /\ nxt t s ≠ none := by
  unfold wiS at h
  split at h
  . rename_i hc
    injection h with h
    exact ⟨h.symm, fun e => by rw [e] at hc; cases hc⟩
  . cases h
theorem wi_none {t : Int} {s : PS} (h : wiS t s = none) : nxt t s = none := by
  unfold wiS at h
  split at h
  . cases h
  . rename_i hc
    cases hn : nxt t s with
    | none => rfl
    | some l => rw [hn] at hc; exact absurd rfl hc
theorem WfN.kids : ∀ {n : Nd} {w : Nat}, WfN n w -> WfKs n.kids (w - 1)
  | .mk t d ks, w, h => by rw [WfN] at h; exact h.2.2.2.2.2.2
theorem WfN.tag : ∀ {n : Nd} {w : Nat}, WfN n w -> 0 <= n.tag /\ n.tag <= 255
  | .mk t d ks, w, h => by rw [WfN] at h; exact ⟨h.2.1, h.2.2.1⟩
theorem PsWf.wi {s : PS} {w : Nat} (h : PsWf s w) (t : Int) : PsWf (wiS t s) (w - 1) := by
  intro l hl
  obtain ⟨rfl, hn⟩ := wi_some hl
  exact (h.nxN t hn).kids
theorem wire_end1' {e : Bool} (g q w : Nat) (s s2 : PS) (v v2 : Value) (bad bad2 : Bool) (he : (endP s && endP s2) = e) (h : Heap) (hp : PtC h s v bad) (hp2 : PtC h s2 v2 bad2) :
    Spec Tryd.prog 93 [.pointer (some ⟨g, 0, none⟩), .slice (some ⟨w, 0, none⟩) 1 1] h [prt g v bad, prt q v2 bad2, .blk w [.pointer (some ⟨q, 0, none⟩)] 112] (fun u _ H' => u = .bool e /\ H' = [prt g v bad, prt q v2 bad2]) := by
  rw [<- he]
  exact wire_end1 g q w s s2 v v2 bad bad2 h hp hp2
theorem pcsR_of_len (l : List Nd) : (pcsR_of l).length = l.length := by simp [pcsR_of]
set_option maxRecDepth 8000 in
set_option maxHeartbeats 4000000 in
theorem wire_filter : ∀ (q : Nat) (nd : Nd), nd.sz <= q -> ∀ (w : Nat), WfN nd w -> nd.wt <= 100000000 -> ∀ (n : Nat), n <= 1000 -> ∀ (gc : Nat) (r : List Value) (h : Heap), NodeC h nd r →
    Spec Tryd.prog 107 [.agg r.toArray, .pointer (some ⟨gc, 0, none⟩)] h [.blk gc [.int .i64 n] 3] (fun u h' H' => RfR gc (rdF nd n) u h' H')
  | 0, .mk _ _ _, hq, _, _, _, _, _, _, _, _, _ => by simp only [Nd.sz] at hq; omega
  | q + 1, .mk t d ks, hq, w, hw, hwt, n, hn, gc, r, h, hnd => by
    have ih := wire_filter q
    obtain ⟨kv, rfl, hkv⟩ := hnd.ks
    rw [WfN] at hw
    obtain ⟨hw0, ht0, ht1, _, _, _, hwk⟩ := hw
    simp only [Nd.wt] at hwt
    simp only [Nd.sz] at hq
    simp only [Nd.tag, Nd.data, Nd.kids] at *
    have hkl := wts_len ks
    obtain ⟨kA, kc, rfl, _, hkm⟩ := hkv.form
    have hl3 : ([.int .i64 t, str d, .slice kA ks.length kc] : List Value).length = 3 := rfl
    rw [rdF]
    by_cases h1 : 1000 < n + 1
    . rw [if_pos h1]
      refine Spec.enter Tryd.func107 rfl rfl ?_; intro w0
      repeat' (first | (refine G.atCode ?_; first | refine G.seq ?_ | refine G.region ?_ | refine G.ret ?_ | (refine G.cond rfl ?_ ?_ <;> intro hc <;> (try simp only [tests, reduceCtorEq] at hc) <;> (try exact Zf))) | refine G.endOps ?_ | (refine G.atBin ?_; first | (refine G.atAdd ?_; first | refine G.arith rfl rfl rfl rfl rfl Zi ?_) | refine G.op rfl rfl ?_) | refine G.op rfl rfl ?_ | (refine G.atLoad ?_; first | refine G.loadOwn1 rfl (tyy rfl) rfl rfl Za rfl rfl ?_) | (refine G.atSto ?_; refine G.storeOwn rfl rfl (tyy rfl) Za rfl rfl rfl rfl ?_) | (refine G.atAlc ?_; refine G.alloc (tyy rfl) rfl rfl ?_; intro _) | (refine G.atBox ?_; refine G.box rfl rfl rfl ?_; intro _) | (refine G.atBld ?_; refine G.build (tyy rfl) rfl rfl rfl ?_))
      all_goals first | (exfalso; omega) | exact G.done (rs := [.cell 4 45, .tmp 5]) rfl (.cellA rfl (tyy rfl) rfl rfl Za rfl (.tmp rfl .nil)) rfl [.blk gc _ 3] Zu (RfR.no rfl) | skip
    rw [if_neg h1]
    by_cases h2 : t = 135
    . rw [if_pos h2]
      refine Spec.enter Tryd.func107 rfl rfl ?_; intro w0
      repeat' (first | (refine G.atCode ?_; first | refine G.seq ?_ | refine G.region ?_ | refine G.skip ?_ | refine G.ret ?_ | (refine G.cond rfl ?_ ?_ <;> intro hc <;> (try simp only [tests, reduceCtorEq] at hc) <;> (try exact Zf))) | refine G.endOps ?_ | (refine G.atBin ?_; first | (refine G.atAdd ?_; first | refine G.arith rfl rfl rfl rfl rfl Zi ?_) | (refine G.atSub ?_; first | refine G.arith rfl rfl rfl rfl rfl Zi ?_) | (refine G.atEql ?_; first | refine G.op rfl rfl ?_) | refine G.op rfl rfl ?_) | refine G.op rfl rfl ?_ | (refine G.atLoad ?_; first | refine G.loadOwn1 rfl (tyy rfl) rfl rfl Za rfl rfl ?_) | (refine G.atFld ?_; first | refine G.fieldAddr rfl (tyy rfl) rfl rfl ?_) | (refine G.atSto ?_; refine G.storeOwn rfl rfl (tyy rfl) Za rfl rfl rfl rfl ?_) | (refine G.atAlc ?_; refine G.alloc (tyy rfl) rfl rfl ?_; intro _) | (refine G.atBox ?_; refine G.box rfl rfl rfl ?_; intro _) | (refine G.atBld ?_; refine G.build (tyy rfl) rfl rfl rfl ?_))
      all_goals first | (exfalso; omega) | exact G.done (rs := [.cell 4 45, .tmp 5]) rfl (.cellA rfl (tyy rfl) rfl rfl Za rfl (.tmp rfl .nil)) rfl [.blk gc _ 3] Zu (RfR.ok rfl (FlC.mk_ (HSl.nil _ 2) (HSl.nil _ 5) (FlsC.nil _))) | skip
    rw [if_neg h2]
    by_cases h3 : t = 160 \/ t = 161 \/ t = 162
    . rw [if_pos h3]
      obtain ⟨rowa, sa, ka⟩ := hkv
      have hral := ka.len
      refine Spec.enter Tryd.func107 rfl rfl ?_; intro w0
      repeat' (first | (refine G.atCode ?_; first | refine G.stopB 0 ?_) | (refine G.atCode ?_; first | refine G.seq ?_ | refine G.region ?_ | refine G.skip ?_ | (refine G.cond rfl ?_ ?_ <;> intro hc <;> (try simp only [tests, reduceCtorEq] at hc) <;> (try exact Zf))) | refine G.endOps ?_ | (refine G.atBin ?_; first | (refine G.atAdd ?_; first | refine G.arith rfl rfl rfl rfl rfl Zi ?_) | (refine G.atSub ?_; first | refine G.arith rfl rfl rfl rfl rfl Zi ?_) | (refine G.atEql ?_; first | refine G.op rfl rfl ?_) | refine G.op rfl rfl ?_) | refine G.op rfl rfl ?_ | (refine G.atLoad ?_; first | refine G.loadOwn1 rfl (tyy rfl) rfl rfl Za rfl rfl ?_) | (refine G.atFld ?_; first | refine G.fieldAddr rfl (tyy rfl) rfl rfl ?_) | (refine G.atSto ?_; refine G.storeOwn rfl rfl (tyy rfl) Za rfl rfl rfl rfl ?_) | (refine G.atAlc ?_; refine G.alloc (tyy rfl) rfl rfl ?_; intro _) | (refine G.atBox ?_; refine G.box rfl rfl rfl ?_; intro _) | (refine G.atBld ?_; refine G.build (tyy rfl) rfl rfl rfl ?_))
      all_goals first | (exfalso; omega) | skip
      rename_i g2 g4 _ g6 g7
      refine G.go ?_
      repeat' (first | (refine G.atCode ?_; refine G.stopLoop ?_) | (refine G.atCode ?_; first | refine G.seq ?_ | refine G.region ?_ | refine G.block ?_ | refine G.skip ?_ | (refine G.cond rfl ?_ ?_ <;> intro hc <;> (try simp only [tests, reduceCtorEq] at hc) <;> (try exact Zf))) | refine G.endOps ?_ | (refine G.atBin ?_; first | (refine G.atEql ?_; first | refine G.op rfl rfl ?_)) | refine G.op rfl rfl ?_ | (refine G.atLen ?_; first | refine G.lenSlice rfl (tyy rfl) rfl ?_) | (refine G.atLoad ?_; first | refine G.loadOwn1 rfl (tyy rfl) rfl rfl Za rfl rfl ?_) | (refine G.atFld ?_; first | refine G.fieldAddr rfl (tyy rfl) rfl rfl ?_))
      all_goals first | (exfalso; omega) | skip
      all_goals
        refine G.nilRow 45 5 ?_
        refine G.go ?_
        refine G.loop (σ := Nat × Nat × List (List Value) × Option Addr × Nat × List Fl) (fun x => [(48, .int .i64 x.1), (47, .int .i64 ks.length), (46, .slice kA ks.length kc), (6, .pointer (some ⟨g6, 0, none⟩)), (4, .pointer (some ⟨g4, 0, none⟩)), (1, .pointer (some ⟨gc, 0, none⟩))])
          (fun x => [.blk gc [.int .i64 x.2.1] 3, .blk g6 [.int .i64 (t - 160), str [], str [], .slice none 0 0, .slice x.2.2.2.1 x.2.2.1.length x.2.2.2.2.1] 45, .blk g4 [.int .i64 0, str [], str [], .slice none 0 0, .slice none 0 0] 45, .row (.slice x.2.2.2.1 x.2.2.1.length x.2.2.2.2.1) 45 5 x.2.2.1])
          (fun x h' => x.1 <= ks.length /\ x.2.2.1.length = x.1 /\ x.2.1 <= 1000 /\ x.2.2.2.2.2.length = x.1 /\ rdFs (ks.take x.1) (n + 1) = some (x.2.2.2.2.2, x.2.1) /\ FlsC h' x.2.2.2.2.2 x.2.2.1) (fun x => ks.length - x.1) ⟨0, n + 1, [], none, 0, []⟩ ⟨rfl, rfl, rfl, rfl, rfl, rfl, trivial⟩ Zu ⟨Nat.zero_le _, rfl, by simp only; omega, rfl, rdFs.eq_1 _, FlsC.nil _⟩ ?_
        rintro ⟨i, m, rws, A1, c1, l⟩ h5 hle5 ⟨hi, hil, hm, hll, hrd, hik⟩
        simp only at hi hil hm hll hrd hik
        refine G.norm (by (try dsimp only) <;> exact rfl) (by (try dsimp only) <;> exact rfl) ?_
        by_cases hlt : i < ks.length
        . obtain ⟨k, hk⟩ : ∃ k, ks[i]? = some k := ⟨ks[i], List.getElem?_eq_getElem hlt⟩
          obtain ⟨q1, e1, n1⟩ := ka.get hk
          have n1 := NodeC.mono hle5 _ _ n1
          have hmem := List.mem_of_getElem? hk
          have hsz := sz_mem hmem
          have hwk1 := wt_mem hmem
          have t1 : HSl h5 (.slice kA ks.length kc) 3 rowa := sa.mono hle5
          have hcall := ih k (by omega) (w - 1) (hwk.mem k hmem) (by omega) m hm gc q1 h5 n1
          obtain ⟨kv1, rfl, hkv1⟩ := n1.ks
          obtain ⟨A3, c3, rfl, _, _⟩ := hkv1.form
          have hl1 : ([.int .i64 k.tag, str k.data, .slice A3 k.kids.length c3] : List Value).length = 3 := rfl
          repeat' (first | (refine G.atIdx ?_; refine G.idxImm rfl rfl (tyy rfl) (tyy rfl) t1 Zj rfl (by omega) ?_; intro p1 r1 hx1 hp1; (rw [e1] at hx1); (obtain rfl := Option.some.inj hx1)) | (show G _ (.ops .seq _ (⟨some _, .call { callee := .value (.func 107), args := _, argTypes := _ }, _, _, _, none⟩ :: _) :: _) _ _ _; refine G.call callFilterW rfl rfl hcall Ze ?_; rintro _ h4 H4 ⟨k9, a9, v9, A9, m9, c9, B9, p9, d9, n9, b9, rfl, rfl, ⟨rfl, fl9, ho9, hf9⟩ | ⟨rfl, ho9⟩⟩ hle4) | (refine G.atApp ?_; refine G.append1 rfl rfl (tyy rfl) (tyy rfl) rfl rfl Za Za rfl rfl rfl Zo ?_; intro _; refine G.rowForm Take.hd ?_; rintro _ _ rfl) | (refine G.atCode ?_; first | refine G.seq ?_ | refine G.region ?_ | refine G.block ?_ | refine G.skip ?_ | refine G.ret ?_ | (refine G.cond rfl ?_ ?_ <;> intro hc <;> (try simp only [tests, reduceCtorEq] at hc) <;> (try exact Zf))) | refine G.endOps ?_ | refine G.endBlk ?_ | (refine G.atBin ?_; first | (refine G.atAdd ?_; first | refine G.arith rfl rfl rfl rfl rfl Zi ?_) | refine G.op rfl rfl ?_) | refine G.op rfl rfl ?_ | (refine G.atLoad ?_; first | refine G.loadOwn1 rfl (tyy rfl) rfl rfl Za rfl rfl ?_ | refine G.loadOwnA rfl (tyy rfl) rfl rfl Za rfl rfl ?_ | refine G.loadImmA rfl (tyy rfl) rfl rfl Zp Zp rfl ?_) | (refine G.atFld ?_; first | refine G.fieldAddr rfl (tyy rfl) rfl rfl ?_) | (refine G.atSto ?_; refine G.storeOwn rfl rfl (tyy rfl) Za rfl rfl rfl rfl ?_) | (refine G.atAlc ?_; refine G.alloc (tyy rfl) rfl rfl ?_; intro _) | (refine G.atBld ?_; refine G.build (tyy rfl) rfl rfl rfl ?_) | (refine G.atBsl ?_; refine G.buildSlice (tyy rfl) (tyy rfl) rfl rfl rfl rfl ?_; intro _))
          all_goals first | (exfalso; omega) | (exfalso; simp_all; done) | exact G.done (rs := [.cell 4 45, .tmp 5]) rfl (.cellA rfl (tyy rfl) rfl rfl Za rfl (.tmp rfl .nil)) rfl [.blk gc _ 3] Zu (RfR.no (by rw [rdFs_stop hk hrd ho9])) | skip
          rename_i A' c'
          exact G.again ⟨i + 1, n9, rws ++ [[.int .i64 k9, str a9, str v9, .slice A9 m9 c9, .slice B9 p9 d9]], A', c', l ++ [fl9]⟩ ⟨sint (by simp), rfl, rfl, rfl, rfl, rfl, trivial⟩ Zu ⟨by simp only; omega, by simp [hil], by have := rdF_le _ _ _ _ ho9; simpa using this, by simp [hll], rdFs_step hk hrd ho9, (FlsC.mono (by solve | repeat first | assumption | exact Zr _ | refine Zq ?_ Zp) _ _ hik).append (FlsC.one hf9)⟩ (by solve | repeat first | assumption | exact Zr _ | refine Zq ?_ Zp) (by simp only; omega)
        . obtain rfl : i = ks.length := by omega
          rw [List.take_length] at hrd
          refine G.freezeRow (v := .slice A1 rws.length c1) Za ?_
          intro h9 hle9 hs9
          by_cases hn1 : t = 162 /\ l.length ≠ 1
          . repeat' (first | (refine G.atCode ?_; first | refine G.seq ?_ | refine G.region ?_ | refine G.anyIn mixedOk ?_ | refine G.exit rfl ?_ | refine G.ret ?_ | (refine G.cond rfl ?_ ?_ <;> intro hc <;> (try simp only [tests, reduceCtorEq] at hc) <;> (try exact Zf))) | refine G.endOps ?_ | refine G.endHeld ?_ | refine G.back ?_ | (refine G.atAny ?_; first | refine G.anyAutoX slB rfl rfl Zw Zg Zd ?_ | refine G.anyOne rfl Zw Zg Zu ?_ | refine G.anyEndX Zw ?_) | (refine G.atGd ?_; first | refine G.guardYes rfl rfl ?_ | (refine G.guardS rfl rfl rfl ?_ ?_ <;> intro hc <;> (try simp only [tests, reduceCtorEq] at hc) <;> (try exact Zf))) | (refine G.atBin ?_; first | (refine G.atEql ?_; first | refine G.op rfl rfl ?_) | (refine G.atNeq ?_; first | refine G.op rfl rfl ?_) | refine G.op rfl rfl ?_) | refine G.op rfl rfl ?_ | (refine G.atLen ?_; first | refine G.lenSlice rfl (tyy rfl) rfl ?_) | (refine G.atLoad ?_; first | refine G.loadOwn1 rfl (tyy rfl) rfl rfl Za rfl rfl ?_ | refine G.loadOwnA rfl (tyy rfl) rfl rfl Za rfl rfl ?_) | (refine G.atFld ?_; first | refine G.fieldAddr rfl (tyy rfl) rfl rfl ?_) | (refine G.atSto ?_; refine G.storeOwn rfl rfl (tyy rfl) Za rfl rfl rfl rfl ?_))
            all_goals first | (exfalso; omega) | skip
            all_goals exact G.done (rs := [.cell 4 45, .tmp 5]) rfl (.cellA rfl (tyy rfl) rfl rfl Za rfl (.tmp rfl .nil)) rfl [.blk gc _ 3] Zu ⟨_, _, _, _, _, _, _, _, _, m, _, rfl, rfl, .inr ⟨decide_eq_false (by omega), by rw [hrd]; simp only; rw [if_pos hn1]⟩⟩
          . repeat' (first | (refine G.atCode ?_; first | refine G.seq ?_ | refine G.region ?_ | refine G.anyIn mixedOk ?_ | refine G.exit rfl ?_ | refine G.ret ?_ | (refine G.cond rfl ?_ ?_ <;> intro hc <;> (try simp only [tests, reduceCtorEq] at hc) <;> (try exact Zf))) | refine G.endOps ?_ | refine G.endHeld ?_ | refine G.back ?_ | (refine G.atAny ?_; first | refine G.anyAutoX slB rfl rfl Zw Zg Zd ?_ | refine G.anyOne rfl Zw Zg Zu ?_ | refine G.anyEndX Zw ?_) | (refine G.atGd ?_; first | refine G.guardYes rfl rfl ?_ | refine G.guardNoS rfl rfl rfl ?_ | (refine G.guardS rfl rfl rfl ?_ ?_ <;> intro hc <;> (try simp only [tests, reduceCtorEq] at hc) <;> (try exact Zf))) | (refine G.atBin ?_; first | (refine G.atEql ?_; first | refine G.op rfl rfl ?_) | (refine G.atNeq ?_; first | refine G.op rfl rfl ?_) | refine G.op rfl rfl ?_) | refine G.op rfl rfl ?_ | (refine G.atLen ?_; first | refine G.lenSlice rfl (tyy rfl) rfl ?_) | (refine G.atLoad ?_; first | refine G.loadOwn1 rfl (tyy rfl) rfl rfl Za rfl rfl ?_ | refine G.loadOwnA rfl (tyy rfl) rfl rfl Za rfl rfl ?_) | (refine G.atFld ?_; first | refine G.fieldAddr rfl (tyy rfl) rfl rfl ?_) | (refine G.atSto ?_; refine G.storeOwn rfl rfl (tyy rfl) Za rfl rfl rfl rfl ?_))
            all_goals first | (exfalso; omega) | skip
            all_goals exact G.done (rs := [.cell 4 45, .tmp 5]) rfl (.cellA rfl (tyy rfl) rfl rfl Za rfl (.tmp rfl .nil)) rfl [.blk gc _ 3] Zu ⟨_, _, _, _, _, _, _, _, _, m, _, rfl, rfl, .inl ⟨by first | rfl | exact decide_eq_true (by omega), _, by rw [hrd]; simp only; rw [if_neg hn1], FlC.mk_ (HSl.nil _ 2) hs9 (FlsC.mono (by solve | repeat first | assumption | exact Zr _ | refine Zq ?_ Zp) _ _ hik)⟩⟩
    rw [if_neg h3]
    by_cases h4 : t = 164
    . subst h4
      rw [if_pos rfl]
      have hpf : PsWf (some ks) (w - 1) := fun l hl => by injection hl with hl; subst hl; exact hwk
      have hpw := (hpf.nxt 4).wi 48
      generalize hS0 : wiS 48 (nxt 4 (some ks)) = S0
      generalize hS1 : nxt 48 (nxt 4 (some ks)) = S1
      generalize hnm : txV (some ks) = nm
      have hw1 := psW_nxt 4 (some ks)
      have hw2 := psW_wi 48 (nxt 4 (some ks))
      rw [hS0] at hw2 hpw
      simp only [psW] at hw1
      have hwi := fun g v2 b2 h2 (hp2 : PtC h2 (nxt 4 (some ks)) v2 b2) => wire_within g 48 (nxt 4 (some ks)) v2 b2 h2 hp2
      unfold WiR at hwi
      rw [hS0, hS1] at hwi
      have htx := fun g v b => wire_text g (some ks) v b
      rw [hnm] at htx
      refine Spec.enter Tryd.func107 rfl rfl ?_; intro w0
      repeat' (first | (show G _ (.ops .seq _ (⟨some _, .call { callee := .value (.func 91), args := _, argTypes := _ }, _, _, _, none⟩ :: _) :: _) _ _ _; refine G.call callTextW rfl rfl (htx _ _ false _ ⟨rfl, hkv.mono (by solve | repeat first | assumption | exact Zr _ | refine Zq ?_ Zp)⟩) Ze ?_; rintro _ h2 H2 ⟨⟨v2, b2, rfl, hp2⟩, rfl⟩ hle2) | (show G _ (.ops .seq _ (⟨some _, .call { callee := .value (.func 60), args := _, argTypes := _ }, _, _, _, none⟩ :: _) :: _) _ _ _; refine G.call callWithin rfl rfl (hwi _ _ _ _ (hp2.mono (by solve | repeat first | assumption | exact Zr _ | refine Zq ?_ Zp))) Ze ?_; rintro _ h3 H3 ⟨v3, b3, gq, w3, bq, rfl, hp3, rfl, hq3, hqn⟩ hle3) | (refine G.atCode ?_; first | refine G.seq ?_ | refine G.region ?_ | refine G.block ?_ | refine G.skip ?_ | (refine G.cond rfl ?_ ?_ <;> intro hc <;> (try simp only [tests, reduceCtorEq] at hc) <;> (try exact Zf))) | refine G.endOps ?_ | (refine G.atBin ?_; first | (refine G.atAdd ?_; first | refine G.arith rfl rfl rfl rfl rfl Zi ?_) | (refine G.atSub ?_; first | refine G.arith rfl rfl rfl rfl rfl Zi ?_) | (refine G.atEql ?_; first | refine G.op rfl rfl ?_) | refine G.op rfl rfl ?_) | refine G.op rfl rfl ?_ | (refine G.atLoad ?_; first | refine G.loadOwn1 rfl (tyy rfl) rfl rfl Za rfl rfl ?_) | (refine G.atFld ?_; first | refine G.fieldAddr rfl (tyy rfl) rfl rfl ?_) | (refine G.atSto ?_; refine G.storeOwn rfl rfl (tyy rfl) Za rfl rfl rfl rfl ?_) | (refine G.atAlc ?_; refine G.alloc (tyy rfl) rfl rfl ?_; intro _) | (refine G.atBox ?_; refine G.box rfl rfl rfl ?_; intro _) | (refine G.atBld ?_; refine G.build (tyy rfl) rfl rfl rfl ?_))
      all_goals first | (exfalso; omega) | skip
      rename_i g2 g4 _ g6 _ g7 _ _ _
      have hpl : ∃ pl, KsC h3 pl w3 /\ ((S0 = some pl /\ bq = false) \/ (S0 = none /\ bq = true /\ pl = [])) := by
        match S0, hq3, hqn with
        | none, ⟨e, _⟩, hqn => exact ⟨[], hqn rfl, .inr ⟨rfl, e, rfl⟩⟩
        | some l, ⟨e, hl⟩, _ => exact ⟨l, hl, .inl ⟨rfl, e⟩⟩
      obtain ⟨pl, hpk, hpS⟩ := hpl
      have hplen : pl.length <= 100000000 := by
        have := wts_len pl
        rcases hpS with ⟨rfl, _⟩ | ⟨_, _, rfl⟩
        . simp only [psW] at hw2; omega
        . simp
      have hptg : ∀ x ∈ pl, 0 <= x.tag /\ x.tag <= 255 := by
        intro x hx
        rcases hpS with ⟨rfl, _⟩ | ⟨_, _, rfl⟩
        . exact ((hpw _ rfl).mem x hx).tag
        . simp at hx
      obtain ⟨Aq, cq, rfl, _, hqm⟩ := hpk.form
      obtain ⟨rws, hsl, hrw⟩ := hpk
      have hrl := hrw.len
      repeat' (first | (refine G.atCode ?_; refine G.stopLoop ?_) | (refine G.atCode ?_; first | refine G.block ?_) | refine G.endOps ?_ | refine G.op rfl rfl ?_ | (refine G.atLen ?_; first | refine G.lenSlice rfl (tyy rfl) rfl ?_))
      all_goals first | (exfalso; omega) | skip
      refine G.nilRow 148 2 ?_
      refine G.go ?_
      refine G.loop (σ := Nat × Option Addr × Nat) (fun x => [(90, .int .i64 x.1), (89, .int .i64 pl.length), (88, .slice Aq pl.length cq), (12, .pointer (some ⟨gq, 0, none⟩)), (7, .pointer (some ⟨g7, 0, none⟩)), (6, .pointer (some ⟨g6, 0, none⟩)), (4, .pointer (some ⟨g4, 0, none⟩)), (1, .pointer (some ⟨gc, 0, none⟩))])
        (fun x => [.blk g6 [.int .i64 (164 - 160), str nm, str [], .slice x.2.1 x.1 x.2.2, .slice none 0 0] 45, .row (.slice x.2.1 x.1 x.2.2) 148 2 (pcsR (pcsR_of (pl.take x.1))), prt gq (.slice Aq pl.length cq) bq, prt g7 v3 b3, .blk g4 [.int .i64 0, str [], str [], .slice none 0 0, .slice none 0 0] 45, .blk gc [.int .i64 (n + 1)] 3])
        (fun x _ => x.1 <= pl.length) (fun x => pl.length - x.1) ⟨0, none, 0⟩ ⟨rfl, rfl, rfl, rfl, rfl, rfl, rfl, rfl, trivial⟩ Zu (Nat.zero_le _) ?_
      rintro ⟨i, A1, c1⟩ h5 hle5 hi
      simp only at hi
      refine G.norm (by (try dsimp only) <;> exact rfl) (by (try dsimp only) <;> exact rfl) ?_
      by_cases hlt : i < pl.length
      . obtain ⟨k, hk⟩ : ∃ k, pl[i]? = some k := ⟨pl[i], List.getElem?_eq_getElem hlt⟩
        obtain ⟨q1, e1, n1⟩ := hrw.get hk
        have htg := hptg k (List.mem_of_getElem? hk)
        have hn1 : pcsR (pcsR_of (pl.take (i + 1))) = pcsR (pcsR_of (pl.take i)) ++ [[.int .i64 (k.tag - 128), str k.data]] := by rw [take_get hk]; simp [pcsR_of, pcsR]
        have hpl1 : (pcsR (pcsR_of (pl.take i))).length = i := by rw [pcsR_length, pcsR_of_len, List.length_take]; omega
        obtain ⟨kv1, rfl, hkv1⟩ := n1.ks
        obtain ⟨A3, c3, rfl, _, _⟩ := hkv1.form
        have hl1 : ([.int .i64 k.tag, str k.data, .slice A3 k.kids.length c3] : List Value).length = 3 := rfl
        generalize pcsR (pcsR_of (pl.take i)) = P at *
        repeat' (first | (refine G.atIdx ?_; refine G.idxImm rfl rfl (tyy rfl) (tyy rfl) (hsl.mono (by solve | repeat first | assumption | exact Zr _ | refine Zq ?_ Zp)) Zj rfl (by rw [hrl]; omega) ?_; intro pp rr hx9 hp9; (rw [e1] at hx9); (obtain rfl := Option.some.inj hx9)) | (refine G.atApp ?_; refine G.append1 rfl rfl (tyy rfl) (tyy rfl) rfl rfl Za Za rfl rfl rfl Zo ?_; intro _; refine G.rowForm Take.hd ?_; rintro _ _ rfl) | (refine G.atCode ?_; first | refine G.seq ?_ | refine G.region ?_ | refine G.block ?_ | refine G.skip ?_ | (refine G.cond rfl ?_ ?_ <;> intro hc <;> (try simp only [tests, reduceCtorEq] at hc) <;> (try exact Zf))) | refine G.endOps ?_ | refine G.endBlk ?_ | (refine G.atBin ?_; first | (refine G.atAdd ?_; first | refine G.arith rfl rfl rfl rfl rfl Zi ?_) | (refine G.atSub ?_; first | refine G.arith rfl rfl rfl rfl rfl Zi ?_) | refine G.op rfl rfl ?_) | refine G.op rfl rfl ?_ | (refine G.atLoad ?_; first | refine G.loadOwn1 rfl (tyy rfl) rfl rfl Za rfl rfl ?_ | refine G.loadImmA rfl (tyy rfl) rfl rfl Zp Zp rfl ?_) | (refine G.atFld ?_; first | refine G.fieldAddr rfl (tyy rfl) rfl rfl ?_) | (refine G.atSto ?_; refine G.storeOwn rfl rfl (tyy rfl) Za rfl rfl rfl rfl ?_) | (refine G.atAlc ?_; refine G.alloc (tyy rfl) rfl rfl ?_; intro _) | (refine G.atBld ?_; refine G.build (tyy rfl) rfl rfl rfl ?_) | (refine G.atBsl ?_; refine G.buildSlice (tyy rfl) (tyy rfl) rfl rfl rfl rfl ?_; intro _))
        all_goals first | (exfalso; omega) | skip
        rename_i A' c'
        refine G.again ⟨i + 1, A', c'⟩ ⟨sint (by simp), rfl, rfl, rfl, rfl, rfl, rfl, rfl, trivial⟩ ?_ (by simp only; omega) (by solve | repeat first | assumption | exact Zr _ | refine Zq ?_ Zp) (by simp only; omega)
        simp only [hn1, List.length_append, List.length_cons, List.length_nil, hpl1]
        exact Zu
      . obtain rfl : i = pl.length := by omega
        rw [List.take_length]
        refine G.freezeRow (v := .slice A1 pl.length c1) Za ?_
        intro h9 hle9 hs9
        have hfl : FlC h9 (.mk 4 nm [] (pcsR_of pl) []) [.int .i64 4, str nm, str [], .slice A1 pl.length c1, .slice none 0 0] := FlC.mk_ hs9 (HSl.nil _ 5) (FlsC.nil _)
        have hfc : ∀ h', Heap.le h9 h' -> FlC h' (.mk 4 [97] [] (pcsR_of pl) []) [.int .i64 4, str [97], str [], .slice A1 pl.length c1, .slice none 0 0] := fun h' hl' => FlC.mk_ (hs9.mono hl') (HSl.nil _ 5) (FlsC.nil _)
        rcases hpS with ⟨rfl, rfl⟩ | ⟨rfl, rfl, rfl⟩
        . obtain ⟨hkid, _⟩ := wi_some hS0
          cases hE : endP S1 with
          | false =>
            have hend := fun w hw v' => wire_end1' (e := false) g7 gq w S1 (some []) v3 v' b3 false (by rw [hE]; rfl) hw
            repeat' (first | (refine G.atAny ?_; first | refine G.anyAutoX slB rfl rfl Zw (by solve | exact Heap.none_le _ | assumption | exact Zr _ | (repeat first | assumption | exact Zr _ | refine Zq ?_ Zp)) Zd ?_ | refine G.anyKeep slB rfl Zw (by solve | exact Heap.none_le _ | assumption | exact Zr _ | (repeat first | assumption | exact Zr _ | refine Zq ?_ Zp)) Zu ?_ | refine G.anyOne rfl Zw (by solve | exact Heap.none_le _ | assumption | exact Zr _ | (repeat first | assumption | exact Zr _ | refine Zq ?_ Zp)) Zu ?_ | refine G.anyEndX Zw ?_) | (show G _ (.ops .seq _ (⟨some _, .call { callee := .value (.func 93), args := _, argTypes := _ }, _, _, _, none⟩ :: _) :: _) _ _ _; refine G.call callEnd rfl rfl (hend _ _ _ (hp3.mono (by solve | repeat first | assumption | exact Zr _ | refine Zq ?_ Zp)) ⟨rfl, KsC.nil _⟩) Ze ?_; rintro _ h6 H6 ⟨rfl, rfl⟩ hle6) | (refine G.atCode ?_; first | refine G.seq ?_ | refine G.region ?_ | refine G.anyIn mixedOk ?_ | refine G.exit rfl ?_ | refine G.ret ?_ | (refine G.cond rfl ?_ ?_ <;> intro hc <;> (try simp only [tests, reduceCtorEq] at hc) <;> (try exact Zf))) | refine G.endOps ?_ | refine G.endHeld ?_ | refine G.back ?_ | (refine G.atGd ?_; first | refine G.guardNoS rfl rfl rfl ?_) | (refine G.atBin ?_; first | refine G.op rfl rfl ?_) | refine G.op rfl rfl ?_ | (refine G.atLoad ?_; first | refine G.loadOwnA rfl (tyy rfl) rfl rfl Za rfl rfl ?_) | (refine G.atFld ?_; first | refine G.fieldAddr rfl (tyy rfl) rfl rfl ?_) | (refine G.atSto ?_; refine G.storeOwn rfl rfl (tyy rfl) Za rfl rfl rfl rfl ?_) | (refine G.atBsl ?_; refine G.buildSlice (tyy rfl) (tyy rfl) rfl rfl rfl rfl ?_; intro _))
            all_goals first | (exfalso; omega) | (exfalso; simp_all; done) | skip
            all_goals exact G.done (rs := [.cell 4 45, .tmp 5]) rfl (.cellA rfl (tyy rfl) rfl rfl Za rfl (.tmp rfl .nil)) rfl [.blk gc _ 3] Zu (RfR.no (by rw [if_neg (by simp)]))
          | true =>
            have hend := fun w hw v' => wire_end1' (e := true) g7 gq w S1 (some []) v3 v' b3 false (by rw [hE]; rfl) hw
            repeat' (first | (refine G.atAny ?_; first | refine G.anyAutoX slB rfl rfl Zw (by solve | exact Heap.none_le _ | assumption | exact Zr _ | (repeat first | assumption | exact Zr _ | refine Zq ?_ Zp)) Zd ?_ | refine G.anyKeep slB rfl Zw (by solve | exact Heap.none_le _ | assumption | exact Zr _ | (repeat first | assumption | exact Zr _ | refine Zq ?_ Zp)) Zu ?_ | refine G.anyOne rfl Zw (by solve | exact Heap.none_le _ | assumption | exact Zr _ | (repeat first | assumption | exact Zr _ | refine Zq ?_ Zp)) Zu ?_ | refine G.anyEndX Zw ?_) | (show G _ (.ops .seq _ (⟨some _, .call { callee := .value (.func 93), args := _, argTypes := _ }, _, _, _, none⟩ :: _) :: _) _ _ _; refine G.call callEnd rfl rfl (hend _ _ _ (hp3.mono (by solve | repeat first | assumption | exact Zr _ | refine Zq ?_ Zp)) ⟨rfl, KsC.nil _⟩) Ze ?_; rintro _ h6 H6 ⟨rfl, rfl⟩ hle6) | (show G _ (.ops .seq _ (⟨some _, .call { callee := .value (.func 101), args := _, argTypes := _ }, _, _, _, none⟩ :: _) :: _) _ _ _; refine G.call callFCheck rfl rfl (filt_Check _ _ _ (hfc _ (by solve | repeat first | assumption | exact Zr _ | refine Zq ?_ Zp))) Ze ?_; rintro _ h7 H7 ⟨rfl, rfl⟩ hle7) | (refine G.atCode ?_; first | refine G.seq ?_ | refine G.region ?_ | refine G.anyIn mixedOk ?_ | refine G.exit rfl ?_ | refine G.ret ?_ | (refine G.cond rfl ?_ ?_ <;> intro hc <;> (try simp only [tests, reduceCtorEq] at hc) <;> (try exact Zf))) | refine G.endOps ?_ | refine G.endHeld ?_ | refine G.back ?_ | (refine G.atGd ?_; first | refine G.guardYes rfl rfl ?_) | (refine G.atBin ?_; first | (refine G.atEql ?_; first | refine G.op rfl rfl ?_) | refine G.op rfl rfl ?_) | refine G.op rfl rfl ?_ | (refine G.atLoad ?_; first | refine G.loadOwn1 rfl (tyy rfl) rfl rfl Za rfl rfl ?_ | refine G.loadOwnA rfl (tyy rfl) rfl rfl Za rfl rfl ?_) | (refine G.atFld ?_; first | refine G.fieldAddr rfl (tyy rfl) rfl rfl ?_) | (refine G.atSto ?_; refine G.storeOwn rfl rfl (tyy rfl) Za rfl rfl rfl rfl ?_) | (refine G.atBld ?_; refine G.build (tyy rfl) rfl rfl rfl ?_) | (refine G.atBsl ?_; refine G.buildSlice (tyy rfl) (tyy rfl) rfl rfl rfl rfl ?_; intro _))
            all_goals first | (exfalso; omega) | (exfalso; simp_all; done) | skip
            all_goals exact G.done (rs := [.cell 4 45, .tmp 5]) rfl (.cellA rfl (tyy rfl) rfl rfl Za rfl (.tmp rfl .nil)) rfl [.blk gc _ 3] Zu (RfR.ofB (decide (chkE (.mk 4 [97] [] (pcsR_of pl) []) = 0)) (by rw [chkE_pc, ← hkid]; cases pcsOk (pcsR_of pl) <;> simp) (FlC.mono (by solve | repeat first | assumption | exact Zr _ | refine Zq ?_ Zp) _ _ hfl))
        . have hS1n := wi_none hS0
          rw [hS1] at hS1n
          subst hS1n
          have hend := fun w hw v' => wire_end1' (e := false) g7 gq w none none v3 v' b3 true rfl hw
          repeat' (first | (refine G.atAny ?_; first | refine G.anyAutoX slB rfl rfl Zw (by solve | exact Heap.none_le _ | assumption | exact Zr _ | (repeat first | assumption | exact Zr _ | refine Zq ?_ Zp)) Zd ?_ | refine G.anyKeep slB rfl Zw (by solve | exact Heap.none_le _ | assumption | exact Zr _ | (repeat first | assumption | exact Zr _ | refine Zq ?_ Zp)) Zu ?_ | refine G.anyOne rfl Zw (by solve | exact Heap.none_le _ | assumption | exact Zr _ | (repeat first | assumption | exact Zr _ | refine Zq ?_ Zp)) Zu ?_ | refine G.anyEndX Zw ?_) | (show G _ (.ops .seq _ (⟨some _, .call { callee := .value (.func 93), args := _, argTypes := _ }, _, _, _, none⟩ :: _) :: _) _ _ _; refine G.call callEnd rfl rfl (hend _ _ _ (hp3.mono (by solve | repeat first | assumption | exact Zr _ | refine Zq ?_ Zp)) ⟨rfl, [], KsC.nil _⟩) Ze ?_; rintro _ h6 H6 ⟨rfl, rfl⟩ hle6) | (refine G.atCode ?_; first | refine G.seq ?_ | refine G.region ?_ | refine G.anyIn mixedOk ?_ | refine G.exit rfl ?_ | refine G.ret ?_ | (refine G.cond rfl ?_ ?_ <;> intro hc <;> (try simp only [tests, reduceCtorEq] at hc) <;> (try exact Zf))) | refine G.endOps ?_ | refine G.endHeld ?_ | refine G.back ?_ | (refine G.atGd ?_; first | refine G.guardNoS rfl rfl rfl ?_) | (refine G.atBin ?_; first | refine G.op rfl rfl ?_) | refine G.op rfl rfl ?_ | (refine G.atLoad ?_; first | refine G.loadOwnA rfl (tyy rfl) rfl rfl Za rfl rfl ?_) | (refine G.atFld ?_; first | refine G.fieldAddr rfl (tyy rfl) rfl rfl ?_) | (refine G.atSto ?_; refine G.storeOwn rfl rfl (tyy rfl) Za rfl rfl rfl rfl ?_) | (refine G.atBsl ?_; refine G.buildSlice (tyy rfl) (tyy rfl) rfl rfl rfl rfl ?_; intro _))
          all_goals first | (exfalso; omega) | (exfalso; simp_all; done) | skip
          all_goals exact G.done (rs := [.cell 4 45, .tmp 5]) rfl (.cellA rfl (tyy rfl) rfl rfl Za rfl (.tmp rfl .nil)) rfl [.blk gc _ 3] Zu (RfR.no (by rw [if_neg (by simp [endP])]))
    rw [if_neg h4]
    by_cases h5 : t = 163 \/ t = 165 \/ t = 166 \/ t = 168
    . rw [if_pos h5]
      have htx := fun g v b => wire_text g (some ks) v b
      have htx2 := fun g v b h2 (hp2 : PtC h2 (nxt 4 (some ks)) v b) => wire_text g (nxt 4 (some ks)) v b h2 hp2
      refine Spec.enter Tryd.func107 rfl rfl ?_; intro w0
      repeat' (first | (refine G.atAny ?_; first | refine G.anyAutoX slB rfl rfl Zw (by solve | exact Heap.none_le _ | assumption | exact Zr _ | (repeat first | assumption | exact Zr _ | refine Zq ?_ Zp)) Zd ?_ | refine G.anyKeep slB rfl Zw (by solve | exact Heap.none_le _ | assumption | exact Zr _ | (repeat first | assumption | exact Zr _ | refine Zq ?_ Zp)) Zu ?_ | refine G.anyOne rfl Zw (by solve | exact Heap.none_le _ | assumption | exact Zr _ | (repeat first | assumption | exact Zr _ | refine Zq ?_ Zp)) Zu ?_ | refine G.anyEndX Zw ?_) | (show G _ (.ops .seq _ (⟨some _, .call { callee := .value (.func 91), args := _, argTypes := _ }, _, _, _, none⟩ :: _) :: _) _ _ _; refine G.call callTextW rfl rfl (htx _ _ false _ ⟨rfl, hkv.mono (by solve | repeat first | assumption | exact Zr _ | refine Zq ?_ Zp)⟩) Ze ?_; rintro _ h2 H2 ⟨⟨v2, b2, rfl, hp2⟩, rfl⟩ hle2) | (show G _ (.ops .seq _ (⟨some _, .call { callee := .value (.func 91), args := _, argTypes := _ }, _, _, _, none⟩ :: _) :: _) _ _ _; refine G.call callTextW rfl rfl (htx2 _ v2 b2 _ (hp2.mono (by solve | repeat first | assumption | exact Zr _ | refine Zq ?_ Zp))) Ze ?_; rintro _ h3 H3 ⟨⟨v3, b3, rfl, hp3⟩, rfl⟩ hle3) | (show G _ (.ops .seq _ (⟨some _, .call { callee := .value (.func 93), args := _, argTypes := _ }, _, _, _, none⟩ :: _) :: _) _ _ _; refine G.call callEnd rfl rfl (wire_end0 _ _ v3 b3 _ (hp3.mono (by solve | repeat first | assumption | exact Zr _ | refine Zq ?_ Zp))) Ze ?_; rintro _ h6 H6 ⟨rfl, rfl⟩ hle6) | (refine G.atCode ?_; first | refine G.seq ?_ | refine G.region ?_ | refine G.block ?_ | refine G.skip ?_ | refine G.anyIn mixedOk ?_ | refine G.ret ?_ | (refine G.cond rfl ?_ ?_ <;> intro hc <;> (try simp only [tests, reduceCtorEq] at hc) <;> (try exact Zf))) | refine G.endOps ?_ | refine G.endHeld ?_ | refine G.back ?_ | (refine G.atBin ?_; first | (refine G.atAdd ?_; first | refine G.arith rfl rfl rfl rfl rfl Zi ?_) | (refine G.atSub ?_; first | refine G.arith rfl rfl rfl rfl rfl Zi ?_) | (refine G.atEql ?_; first | refine G.op rfl rfl ?_) | refine G.op rfl rfl ?_) | refine G.op rfl rfl ?_ | (refine G.atLoad ?_; first | refine G.loadOwn1 rfl (tyy rfl) rfl rfl Za rfl rfl ?_ | refine G.loadOwnA rfl (tyy rfl) rfl rfl Za rfl rfl ?_) | (refine G.atFld ?_; first | refine G.fieldAddr rfl (tyy rfl) rfl rfl ?_) | (refine G.atSto ?_; refine G.storeOwn rfl rfl (tyy rfl) Za rfl rfl rfl rfl ?_) | (refine G.atAlc ?_; refine G.alloc (tyy rfl) rfl rfl ?_; intro _) | (refine G.atBox ?_; refine G.box rfl rfl rfl ?_; intro _) | (refine G.atBld ?_; refine G.build (tyy rfl) rfl rfl rfl ?_))
      all_goals first | (exfalso; omega) | skip
      all_goals exact G.done (rs := [.cell 4 45, .tmp 5]) rfl (.cellA rfl (tyy rfl) rfl rfl Za rfl (.tmp rfl .nil)) rfl [.blk gc _ 3] Zu (RfR.ofB _ rfl (FlC.mk_ (HSl.nil _ 2) (HSl.nil _ 5) (FlsC.nil _)))
    . rw [if_neg h5]
      refine Spec.enter Tryd.func107 rfl rfl ?_; intro w0
      repeat' (first | (refine G.atCode ?_; first | refine G.seq ?_ | refine G.region ?_ | refine G.block ?_ | refine G.skip ?_ | refine G.ret ?_ | (refine G.cond rfl ?_ ?_ <;> intro hc <;> (try simp only [tests, reduceCtorEq] at hc) <;> (try exact Zf))) | refine G.endOps ?_ | refine G.endBlk ?_ | (refine G.atBin ?_; first | (refine G.atAdd ?_; first | refine G.arith rfl rfl rfl rfl rfl Zi ?_) | (refine G.atSub ?_; first | refine G.arith rfl rfl rfl rfl rfl Zi ?_) | (refine G.atEql ?_; first | refine G.op rfl rfl ?_) | refine G.op rfl rfl ?_) | refine G.op rfl rfl ?_ | (refine G.atLoad ?_; first | refine G.loadOwn1 rfl (tyy rfl) rfl rfl Za rfl rfl ?_) | (refine G.atFld ?_; first | refine G.fieldAddr rfl (tyy rfl) rfl rfl ?_) | (refine G.atSto ?_; refine G.storeOwn rfl rfl (tyy rfl) Za rfl rfl rfl rfl ?_) | (refine G.atAlc ?_; refine G.alloc (tyy rfl) rfl rfl ?_; intro _) | (refine G.atBox ?_; refine G.box rfl rfl rfl ?_; intro _) | (refine G.atBld ?_; refine G.build (tyy rfl) rfl rfl rfl ?_))
      all_goals first | (exfalso; omega) | exact G.done (rs := [.cell 4 45, .tmp 5]) rfl (.cellA rfl (tyy rfl) rfl rfl Za rfl (.tmp rfl .nil)) rfl [.blk gc _ 3] Zu (RfR.no rfl) | skip
end Go.Proofs.YtibkffoeioidlaaDoor
