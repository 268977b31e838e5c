/- Names: folded types and prepared values, sorted; castellanref09.plain, Norm. -/
import Derived.Test.YtahpemfnhepgoaaDnL
import Derived.Sort.Walk0
namespace Go.Proofs.Ytahpemfnhepgoaa
set_option linter.all false
set_option maxRecDepth 4000
open Go.RowKit

section
variable {E : Env} {k : List It} {f : Fr} {h : Heap} {H : List Chunk} {st : Md} [hmd : OkMd st h H] {all : Array Oper} {rest : List Oper} {d : Nat} {ty : TypeId} {pos : String} {aft : Array Edge}
theorem gtr_str (l l' : List UInt8) : (!(Op.bytesLess l l' || l == l')) = decide (l' < l) := by
  rw [bytesLess_eq]
  by_cases h : l < l'
  . have h2 : ¬ l' < l := fun h3 => List.lt_irrefl l (List.lt_trans h h3)
    simp [h, h2]
  . by_cases he : l = l'
    . subst he; simp [List.lt_irrefl]
    . have h2 : l' < l := by
        have h3 := List.not_lt.1 h
        rcases List.le_iff_lt_or_eq.1 h3 with h4 | h4
        . exact h4
        . exact absurd h4.symm he
      simp [h, he, h2]
theorem G.gtStr {t t' : TypeId} {x y : Operand} {l l' : List UInt8} (hx : ev f x = some (str l)) (hy : ev f y = some (str l')) (hd : Nat.blt d E.n = true)
    (g : G E (.ops st all rest :: k) ((d, .bool (decide (l' < l))) :: f) h H) :
    G E (.ops st all (⟨some d, .binOp .gtr t x y t', ty, pos, aft, none⟩ :: rest) :: k) f h H := by
  refine G.opVal hd (fun _ a w ha _ => ?_) g
  have hbd := gtr_str l l'
  simp only [execOp, ev_eq ha hx, ev_eq ha hy, str, eqGuard, binOp, Op.stringOp, ba_toList, hbd]
  simp
end
def insA (L : Rdn) (i : Nat) (x : List UInt8 × List UInt8) : Rdn := L.take i ++ [x] ++ L.drop i
def RiseR (L : Rdn) : Prop := L.Pairwise fun a b => avaT a <= avaT b
theorem insA_perm (L : Rdn) (i : Nat) (x : List UInt8 × List UInt8) : (insA L i x).Perm (x :: L) := by
  unfold insA
  have h1 : (L.take i ++ [x] ++ L.drop i).Perm ([x] ++ L.take i ++ L.drop i) := List.Perm.append_right _ List.perm_append_comm
  refine h1.trans ?_
  rw [List.append_assoc, List.take_append_drop]
  exact List.Perm.refl _
theorem insA_rise {L : Rdn} {i : Nat} {x : List UInt8 × List UInt8} (hi : i <= L.length) (hL : RiseR L) (h1 : ∀ (j : Nat) a, i <= j -> L[j]? = some a -> avaT x < avaT a) (h2 : i = 0 \/ ∃ a, L[i - 1]? = some a /\ ¬ avaT x < avaT a) : RiseR (insA L i x) := by
  have hsplit : RiseR (L.take i ++ L.drop i) := by rw [List.take_append_drop]; exact hL
  unfold RiseR at *
  rw [List.pairwise_append] at hsplit
  obtain ⟨s1, s2, s3⟩ := hsplit
  unfold insA
  rw [List.append_assoc, List.pairwise_append]
  have hd : ∀ b ∈ L.drop i, avaT x < avaT b := fun b hb => by
    obtain ⟨j, hj⟩ := List.getElem?_of_mem hb
    rw [List.getElem?_drop] at hj
    exact h1 (i + j) b (by omega) hj
  have ht : ∀ a ∈ L.take i, avaT a <= avaT x := fun a ha => by
    rcases h2 with h2 | ⟨e, he, hne⟩
    . subst h2; simp at ha
    . have hle : avaT e <= avaT x := List.not_lt.1 hne
      obtain ⟨j, hj⟩ := List.getElem?_of_mem ha
      have hji : j < i := by have := (List.getElem?_eq_some_iff.1 hj).1; rw [List.length_take] at this; omega
      rw [List.getElem?_take_of_lt hji] at hj
      by_cases hje : j = i - 1
      . subst hje
        rw [hj] at he
        obtain rfl := Option.some.inj he
        exact hle
      . have hjl := (List.getElem?_eq_some_iff.1 hj)
        have hel := (List.getElem?_eq_some_iff.1 he)
        obtain ⟨g1, g2⟩ := hjl
        obtain ⟨g3, g4⟩ := hel
        have := List.pairwise_iff_getElem.1 hL j (i - 1) g1 g3 (by omega)
        rw [g2, g4] at this
        exact List.le_trans this hle
  refine ⟨s1, ?_, fun a ha b hb => ?_⟩
  . rw [List.singleton_append, List.pairwise_cons]
    exact ⟨fun b hb => List.le_of_lt (hd b hb), s2⟩
  . rw [List.singleton_append, List.mem_cons] at hb
    rcases hb with rfl | hb
    . exact ht a ha
    . exact s3 a ha b hb
theorem keyA_w (a : List UInt8 × List UInt8) : avaW (keyA a) <= avaW a := by
  have := prepM_len a.2
  simp only [avaW, keyA, foldM_len]; omega
theorem perm_w {L l : Rdn} (h : L.Perm (l.map keyA)) : rdnW L <= rdnW l := by
  have h1 := (h.map avaW).sum_nat
  rw [List.map_map] at h1
  unfold rdnW
  rw [h1]
  exact sum_le _ _ _ fun a _ => keyA_w a
theorem rise_sort {L l : Rdn} (hp : L.Perm (l.map keyA)) (hr : RiseR L) : L.map avaT = sortM (l.map (fA true)) := by
  have e : (l.map keyA).map avaT = l.map (fA true) := by rw [List.map_map]; rfl
  have h1 : (L.map avaT).Perm (sortM (l.map (fA true))) := by
    rw [<- e]
    exact (hp.map avaT).trans (List.mergeSort_perm _ _).symm
  have h2 : (L.map avaT).Pairwise fun a b => a <= b := by rw [List.pairwise_map]; exact hr
  have h3 : (sortM (l.map (fA true))).Pairwise fun a b => a <= b := by
    have := List.pairwise_mergeSort (le := fun (x y : List UInt8) => decide (x <= y)) (fun a b c h1 h2 => by simp only [decide_eq_true_eq] at *; exact List.le_trans h1 h2) (fun a b => by simp only [Bool.or_eq_true, decide_eq_true_eq]; exact List.le_total a b) (l.map (fA true))
    exact this.imp fun h => by simpa using h
  exact h1.eq_of_pairwise (fun a b _ _ h1 h2 => List.le_antisymm h1 h2) h2 h3
structure PlainD (d p : Dn) : Prop where
  same : p.map (fun l => l.map avaT) = d.map fun r => sortM (r.map (fA true))
  w : dnW p <= dnW d
theorem PlainD.text {d p : Dn} (h : PlainD d p) : txt false p = txt true d := by
  have e1 : p.map (fR false) = (p.map fun l => l.map avaT).map fun l => Lib.join l [43] := by rw [List.map_map]; rfl
  have e2 : d.map (fR true) = (d.map fun r => sortM (r.map (fA true))).map fun l => Lib.join l [43] := by rw [List.map_map]; rfl
  unfold txt
  rw [e1, e2, h.same]
theorem avaR_one (r : Rdn) : ∀ x ∈ avaR r, ∀ q ∈ x, q.oneCell' = true := by
  intro x hx q hq
  simp only [avaR, List.mem_map] at hx
  obtain ⟨a, _, rfl⟩ := hx
  rcases List.mem_cons.1 hq with rfl | hq
  . rfl
  . rw [List.mem_singleton.1 hq]; rfl
theorem avaR_drop (r : Rdn) (k : Nat) : avaR (r.drop k) = (avaR r).drop k := by simp [avaR, List.map_drop]
theorem callPlain : Callable Try.prog 36 := ⟨_, Try.func36, by kernel_rfl, rfl⟩
set_option maxRecDepth 8000 in
set_option maxHeartbeats 4000000 in
theorem ref09_plain (d : Dn) (v : Value) (hd : dnW d <= 10000000) (h : Heap) (hv : DnC h d v) : Spec Try.prog 36 [v] h [] (fun u h' H' => (∃ p, DnC h' p u /\ PlainD d p) /\ H' = []) := by
  obtain ⟨rows, hs, hrows⟩ := hv
  have hrl := hrows.len
  have hdl := dn_len_le d
  refine Spec.enter Try.func36 rfl rfl ?_; intro w0
  repeat' (first | (refine G.atCode ?_; refine G.stopLoop ?_) | (refine G.atCode ?_; first | refine G.seq ?_ | refine G.region ?_ | refine G.block ?_) | refine G.endOps ?_ | refine G.op rfl rfl ?_ | (refine G.atLen ?_; first | refine G.lenImm rfl (tyy rfl) Zl rfl ?_))
  refine G.nilRow 45 1 ?_
  refine G.go ?_
  rw [hrl]
  refine G.loop (σ := Nat × Value × List (List Value) × Dn) (fun x => [(14, .int .i64 x.1), (13, .int .i64 d.length), (12, v), (3, x.2.1)])
    (fun x => [.row x.2.1 45 1 x.2.2.1]) (fun x h1 => x.1 <= d.length /\ x.2.2.2.length = x.1 /\ RdnsC h1 x.2.2.2 x.2.2.1 /\ PlainD (d.take x.1) x.2.2.2) (fun x => d.length - x.1) ⟨0, .slice none 0 0, [], []⟩ ⟨rfl, rfl, rfl, rfl, trivial⟩ Zu ⟨Nat.zero_le _, rfl, rfl, ⟨rfl, Nat.le_refl _⟩⟩ ?_
  rintro ⟨i, ov, orows, p⟩ h1 hle1 ⟨hi, hpl, horows, hP⟩
  simp only at hi hpl horows hP
  refine G.norm (by (try dsimp only) <;> exact rfl) (by (try dsimp only) <;> exact rfl) ?_
  have horl := horows.len
  by_cases hlt : i < d.length
  . obtain ⟨r, hr⟩ : ∃ r, d[i]? = some r := ⟨d[i], List.getElem?_eq_getElem hlt⟩
    obtain ⟨rv, hget, hrv⟩ := hrows.get hr
    have hrw := rdnW_le (List.mem_of_getElem? hr)
    have hrlen := rdn_len_le r
    have hal := avaR_length r
    repeat' (first | (refine G.atIdx ?_; refine G.idxImm rfl rfl (tyy rfl) (tyy rfl) (hs.mono hle1) Zj rfl (by omega) ?_; intro p1 r1 hr1 hp1; (rw [hget] at hr1); (obtain rfl := Option.some.inj hr1)) | (refine G.atCode ?_; refine G.stopLoop ?_) | (refine G.atCode ?_; first | refine G.seq ?_ | refine G.region ?_ | refine G.block ?_ | refine G.skip ?_ | (refine G.cond rfl ?_ ?_ <;> intro hc <;> (try simp only [tests, reduceCtorEq] at hc) <;> (try exact Zf))) | refine G.endOps ?_ | (refine G.atBin ?_; first | refine G.op rfl rfl ?_) | refine G.op rfl rfl ?_ | (refine G.atLen ?_; first | refine G.lenImm rfl (tyy rfl) Zl rfl ?_) | (refine G.atLoad ?_; first | refine G.loadImm1 rfl (tyy rfl) rfl rfl Zp rfl ?_))
    refine G.go ?_
    rw [hal]
    refine G.loop (σ := Nat × Value × Rdn) (fun x => [(20, .int .i64 x.1), (19, .int .i64 r.length), (18, rv), (6, x.2.1), (14, .int .i64 i), (13, .int .i64 d.length), (12, v), (3, ov)])
      (fun _ => [.row ov 45 1 orows]) (fun x h2 => x.1 <= r.length /\ HSl h2 x.2.1 2 (avaR x.2.2) /\ RiseR x.2.2 /\ x.2.2.Perm ((r.take x.1).map keyA)) (fun x => r.length - x.1) ⟨0, .slice none 0 0, []⟩ ⟨rfl, rfl, rfl, rfl, rfl, rfl, rfl, rfl, trivial⟩ Zu ⟨Nat.zero_le _, HSl.nil _ _, List.Pairwise.nil, List.Perm.refl _⟩ ?_
    rintro ⟨k, lv, L⟩ h3 hle3 ⟨hk, hlv, hrise, hperm⟩
    simp only at hk hlv hrise hperm
    refine G.norm (by (try dsimp only) <;> exact rfl) (by (try dsimp only) <;> exact rfl) ?_
    have hLl : L.length = k := by rw [hperm.length_eq, List.length_map, List.length_take]; omega
    have hle13 : Heap.le h h3 := Heap.le_trans hle1 hle3
    by_cases hkl : k < r.length
    . obtain ⟨⟨ty, vl⟩, ha⟩ : ∃ a, r[k]? = some a := ⟨r[k], List.getElem?_eq_getElem hkl⟩
      have hget2 := avaR_get ha
      have haw := avaW_le (List.mem_of_getElem? ha)
      simp only [avaW] at haw hget2
      have hwk := sum_take avaW r k (ty, vl) ha
      have hLw : rdnW L <= rdnW (r.take k) := perm_w hperm
      have hrw2 : rdnW (r.take k) <= rdnW r := by have : rdnW (r.take k) + avaW (ty, vl) <= rdnW r := hwk; omega
      obtain ⟨A, cap, rfl, hcap, hcapm, _⟩ := hlv.form
      have hall := avaR_length L
      rw [hall] at hlv hcap ⊢
      have hffl := foldM_len ty
      have hpll := prepM_len vl
      have hwp := wrM_len (prepM vl)
      have hstep := take_of_get ha
      repeat' (first | (refine G.atIdx ?_; refine G.idxImm rfl rfl (tyy rfl) (tyy rfl) (hrv.mono hle13) Zj rfl (by omega) ?_; intro p1 r1 hr1 hp1; (rw [hget2] at hr1); (obtain rfl := Option.some.inj hr1); have hl1 : ([str ty, str vl] : List Value).length = 2 := rfl) | (show G _ (.ops .seq _ (⟨some _, .call { callee := .value (.func 31), args := _, argTypes := _ }, _, _, _, none⟩ :: _) :: _) _ _ _; refine G.call callRFold rfl rfl (ref01_Fold ty (by omega) _) Ze ?_; rintro _ h4 H4 ⟨rfl, rfl⟩ hle4) | (show G _ (.ops .seq _ (⟨some _, .call { callee := .value (.func 50), args := _, argTypes := _ }, _, _, _, none⟩ :: _) :: _) _ _ _; refine G.call callRPrep rfl rfl (ref01_Prep vl (by omega) _) Ze ?_; rintro _ h5 H5 ⟨rfl, rfl⟩ hle5) | (refine G.atCode ?_; refine G.stopLoop ?_) | (refine G.atCode ?_; first | refine G.seq ?_ | refine G.region ?_ | refine G.block ?_ | refine G.skip ?_ | refine G.anyIn mixedOk ?_ | (refine G.cond rfl ?_ ?_ <;> intro hc <;> (try simp only [tests, reduceCtorEq] at hc) <;> (try exact Zf))) | refine G.endOps ?_ | refine G.endHeld ?_ | refine G.back ?_ | (refine G.atAny ?_; first | refine G.anyAutoX slB rfl rfl Zw Zg Zd ?_ | refine G.anyOne rfl Zw Zg Zu ?_ | refine G.anyAuto slB rfl Zw Zg Zu ?_ | refine G.anyEndX Zw ?_ | refine G.anyTwo rfl Zw Zg Zu ?_ ?_) | (refine G.atBin ?_; first | refine G.op rfl rfl ?_) | refine G.op rfl rfl ?_ | (refine G.atLen ?_; first | refine G.lenSlice rfl (tyy rfl) rfl ?_) | (refine G.atLoad ?_; first | refine G.loadOwn1 rfl (tyy rfl) rfl rfl Za rfl rfl ?_ | refine G.loadImmA rfl (tyy rfl) rfl rfl Zp Zp rfl ?_) | (refine G.atFld ?_; first | refine G.fieldAddr rfl (tyy rfl) rfl rfl ?_) | (refine G.atSto ?_; refine G.storeOwn rfl rfl (tyy rfl) Za rfl rfl rfl rfl ?_) | (refine G.atAlc ?_; refine G.alloc (tyy rfl) rfl rfl ?_; intro _) | (refine G.atBld ?_; refine G.build (tyy rfl) rfl rfl rfl ?_))
      all_goals (
        rename_i g9
        refine G.go ?_
        refine G.loop (σ := Nat) (fun a => [(10, .int .i64 a), (9, .pointer (some ⟨g9, 0, none⟩)), (6, .slice A L.length cap), (20, .int .i64 k), (19, .int .i64 r.length), (18, rv), (14, .int .i64 i), (13, .int .i64 d.length), (12, v), (3, ov)])
          (fun _ => [.blk g9 [str (foldM ty), str (prepM vl)] 51, .row ov 45 1 orows]) (fun a _ => a <= L.length /\ ∀ (j : Nat) b, a <= j -> L[j]? = some b -> avaT (keyA (ty, vl)) < avaT b) (fun a => a) L.length
          ⟨rfl, rfl, rfl, rfl, rfl, rfl, rfl, rfl, rfl, rfl, trivial⟩ Zu ⟨Nat.le_refl _, fun j b hj hb => absurd (List.getElem?_eq_some_iff.1 hb).1 (by omega)⟩ ?_
        rintro a h6 hle6 ⟨ha1, ha2⟩
        have hlv6 : HSl h6 (.slice A L.length cap) 2 (avaR L) := hlv.mono (by solve | repeat first | assumption | exact Zr _ | refine Zq ?_ Zp)
        by_cases ha0 : 1 <= a
        . obtain ⟨⟨t2, v2⟩, hb⟩ : ∃ b, L[a - 1]? = some b := ⟨L[a - 1]'(by omega), List.getElem?_eq_getElem (by omega)⟩
          have hget3 := avaR_get hb
          have hbw := avaW_le (List.mem_of_getElem? hb)
          simp only [avaW] at hbw hget3
          have hwl2 := wrM_len v2
          have hI : ((a : Int) - 1).toNat = a - 1 := by omega
          have hcutA := HSl.cut hlv6 a (by omega)
          have hcutB := HSl.tail hlv6 a (by omega)
          rw [<- avaR_take] at hcutA
          rw [<- avaR_drop] at hcutB
          have hta : (L.take a).length = a := by rw [List.length_take]; omega
          have htb : (L.drop a).length = L.length - a := List.length_drop
          have hav : (avaR (L.take a)).length = a := by rw [avaR_length, hta]
          refine G.nilRow 51 2 ?_
          repeat' (first | (refine G.gtStr rfl rfl rfl ?_) | (refine G.atIdx ?_; refine G.idxImm rfl rfl (tyy rfl) (tyy rfl) hlv6 Zj rfl (by omega) ?_; intro p1 r1 hr1 hp1; (rw [hI, hget3] at hr1); (obtain rfl := Option.some.inj hr1)) | (refine G.atLoad ?_; refine G.loadImmAt1 rfl (tyy rfl) rfl rfl Zp rfl rfl ?_) | (show G _ (.ops .seq _ (⟨some _, .call { callee := .value (.func 49), args := _, argTypes := _ }, _, _, _, none⟩ :: _) :: _) _ _ _; refine G.call callRWritten rfl rfl (ref09_written v2 (by omega) _) Ze ?_; rintro _ h7 H7 ⟨rfl, rfl⟩ hle7) | (show G _ (.ops .seq _ (⟨some _, .call { callee := .value (.func 49), args := _, argTypes := _ }, _, _, _, none⟩ :: _) :: _) _ _ _; refine G.call callRWritten rfl rfl (ref09_written (prepM vl) (by omega) _) Ze ?_; rintro _ h8 H8 ⟨rfl, rfl⟩ hle8) | (refine G.atApp ?_; refine G.append rfl rfl (tyy rfl) (tyy rfl) (tyy rfl) (.inl ⟨_, rfl⟩) rfl Za (Src.imm (hcutA.mono (by solve | repeat first | assumption | exact Zr _ | refine Zq ?_ Zp))) (avaR_rowed _) (avaR_one _) rfl (by simp only [List.length_nil, avaR_length]; omega) (by simp only [List.length_nil, avaR_length]; omega) ?_; intro _) | (refine G.atApp ?_; refine G.append rfl rfl (tyy rfl) (tyy rfl) (tyy rfl) (.inl ⟨_, rfl⟩) rfl Za (Src.imm (hcutB.mono (by solve | repeat first | assumption | exact Zr _ | refine Zq ?_ Zp))) (avaR_rowed _) (avaR_one _) rfl (by simp only [List.length_append, List.length_cons, List.length_nil, avaR_length]; omega) (by simp only [List.length_append, List.length_cons, List.length_nil, avaR_length]; omega) ?_; intro _) | (refine G.slicePre (b' := a) rfl rfl (tyy rfl) (tyy rfl) rfl Zj (by omega) ?_) | (refine G.sliceSl (a := (a : Nat)) (b := L.length) (a' := a) (b' := L.length) rfl rfl rfl (tyy rfl) (tyy rfl) rfl Zj Zj (by omega) ?_) | (refine G.atCode ?_; first | refine G.seq ?_ | refine G.region ?_ | refine G.block ?_ | refine G.skip ?_ | refine G.anyIn mixedOk ?_ | refine G.exit rfl ?_ | (refine G.cond rfl ?_ ?_ <;> intro hc <;> (try simp only [tests, reduceCtorEq] at hc) <;> (try exact Zf))) | refine G.endOps ?_ | refine G.endHeld ?_ | refine G.back ?_ | refine G.endBlk ?_ | (refine G.atAny ?_; first | refine G.anyAutoX slB rfl rfl Zw Zg Zd ?_ | refine G.anyOne rfl Zw Zg Zu ?_ | refine G.anyAuto slB rfl Zw Zg Zu ?_ | refine G.anyEnd Zw Zg Zu ?_) | (refine G.atGd ?_; first | refine G.guardYes rfl rfl ?_ | (refine G.guardS rfl rfl rfl ?_ ?_ <;> intro hc <;> (try simp only [tests, reduceCtorEq] at hc) <;> (try exact Zf))) | (refine G.atBin ?_; first | (refine G.atAdd ?_; first | refine G.arith rfl rfl rfl rfl rfl Zi ?_ | refine G.catStr rfl rfl rfl Zo ?_) | (refine G.atSub ?_; first | refine G.arith rfl rfl rfl rfl rfl Zi ?_) | refine G.op rfl rfl ?_) | refine G.op rfl rfl ?_ | (refine G.atLoad ?_; first | refine G.loadOwn1 rfl (tyy rfl) rfl rfl Za rfl rfl ?_ | refine G.loadOwnA rfl (tyy rfl) rfl rfl Za rfl rfl ?_) | (refine G.atFld ?_; first | refine G.fieldAddr rfl (tyy rfl) rfl rfl ?_ | refine G.fieldAddrP rfl (tyy rfl) rfl rfl ?_) | (refine G.atBsl ?_; refine G.buildSlice (tyy rfl) (tyy rfl) rfl rfl rfl rfl ?_; intro _) | (refine G.atApp ?_; first | (refine G.append1 rfl rfl (tyy rfl) (tyy rfl) rfl rfl Za Za rfl rfl rfl Zo ?_; intro _; refine G.rowForm Take.hd ?_; rintro _ _ rfl)))
          all_goals first
            | exact G.again (a - 1) ⟨sint (by omega), rfl, rfl, rfl, rfl, rfl, rfl, rfl, rfl, rfl, trivial⟩ Zu ⟨by omega, fun j b hj hb' => if hja : a <= j then ha2 j b hja hb' else by (obtain rfl : j = a - 1 := by omega); (rw [hb] at hb'); (obtain rfl := Option.some.inj hb'); assumption⟩ (by solve | repeat first | assumption | exact Zr _ | refine Zq ?_ Zp) (by omega)
            | (refine G.freezeRow Take.hd ?_
               intro h7 hle7 hs7
               have hrs : ([] ++ avaR (L.take a)) ++ [[str (foldM ty), str (prepM vl)]] ++ avaR (L.drop a) = avaR (insA L a (keyA (ty, vl))) := by unfold insA; rw [avaR_append, avaR_append]; rfl
               rw [hrs] at hs7
               exact G.again ⟨k + 1, _, insA L a (keyA (ty, vl))⟩ ⟨sint (by omega), rfl, rfl, rfl, rfl, rfl, rfl, rfl, trivial⟩ Zu ⟨by simp only; omega, hs7, insA_rise (by omega) hrise ha2 (.inr ⟨_, hb, by assumption⟩), by rw [hstep, List.map_append]; exact (insA_perm L a _).trans ((List.Perm.cons _ hperm).trans (List.perm_append_comm (l₁ := [keyA (ty, vl)])))⟩ (by solve | repeat first | assumption | exact Zr _ | refine Zq ?_ Zp) (by simp only; omega))
        . have ha0' : a = 0 := by omega
          have hcutA := HSl.cut hlv6 a (by omega)
          have hcutB := HSl.tail hlv6 a (by omega)
          rw [<- avaR_take] at hcutA
          rw [<- avaR_drop] at hcutB
          have hta : (L.take a).length = a := by rw [List.length_take]; omega
          have htb : (L.drop a).length = L.length - a := List.length_drop
          have hav : (avaR (L.take a)).length = a := by rw [avaR_length, hta]
          refine G.nilRow 51 2 ?_
          repeat' (first | (refine G.atApp ?_; refine G.append rfl rfl (tyy rfl) (tyy rfl) (tyy rfl) (.inl ⟨_, rfl⟩) rfl Za (Src.imm (hcutA.mono (by solve | repeat first | assumption | exact Zr _ | refine Zq ?_ Zp))) (avaR_rowed _) (avaR_one _) rfl (by simp only [List.length_nil, avaR_length]; omega) (by simp only [List.length_nil, avaR_length]; omega) ?_; intro _) | (refine G.atApp ?_; refine G.append rfl rfl (tyy rfl) (tyy rfl) (tyy rfl) (.inl ⟨_, rfl⟩) rfl Za (Src.imm (hcutB.mono (by solve | repeat first | assumption | exact Zr _ | refine Zq ?_ Zp))) (avaR_rowed _) (avaR_one _) rfl (by simp only [List.length_append, List.length_cons, List.length_nil, avaR_length]; omega) (by simp only [List.length_append, List.length_cons, List.length_nil, avaR_length]; omega) ?_; intro _) | (refine G.slicePre (b' := a) rfl rfl (tyy rfl) (tyy rfl) rfl Zj (by omega) ?_) | (refine G.sliceSl (a := (a : Nat)) (b := L.length) (a' := a) (b' := L.length) rfl rfl rfl (tyy rfl) (tyy rfl) rfl Zj Zj (by omega) ?_) | (refine G.atCode ?_; first | refine G.seq ?_ | refine G.region ?_ | refine G.anyIn mixedOk ?_ | refine G.exit rfl ?_ | (refine G.cond rfl ?_ ?_ <;> intro hc <;> (try simp only [tests, reduceCtorEq] at hc) <;> (try exact Zf))) | refine G.endOps ?_ | refine G.endHeld ?_ | refine G.back ?_ | refine G.endBlk ?_ | (refine G.atAny ?_; first | refine G.anyAutoX slB rfl rfl Zw Zg Zd ?_ | refine G.anyOne rfl Zw Zg Zu ?_ | refine G.anyAuto slB rfl Zw Zg Zu ?_ | refine G.anyEnd Zw Zg Zu ?_) | (refine G.atGd ?_; first | refine G.guardNoS rfl rfl rfl ?_ | (refine G.guardS rfl rfl rfl ?_ ?_ <;> intro hc <;> (try simp only [tests, reduceCtorEq] at hc) <;> (try exact Zf))) | (refine G.atBin ?_; first | (refine G.atAdd ?_; first | refine G.arith rfl rfl rfl rfl rfl Zi ?_) | refine G.op rfl rfl ?_) | refine G.op rfl rfl ?_ | (refine G.atLoad ?_; first | refine G.loadOwnA rfl (tyy rfl) rfl rfl Za rfl rfl ?_) | (refine G.atBsl ?_; refine G.buildSlice (tyy rfl) (tyy rfl) rfl rfl rfl rfl ?_; intro _) | (refine G.atApp ?_; first | (refine G.append1 rfl rfl (tyy rfl) (tyy rfl) rfl rfl Za Za rfl rfl rfl Zo ?_; intro _; refine G.rowForm Take.hd ?_; rintro _ _ rfl)))
          all_goals first
            | (refine G.freezeRow Take.hd ?_
               intro h7 hle7 hs7
               have hrs : ([] ++ avaR (L.take a)) ++ [[str (foldM ty), str (prepM vl)]] ++ avaR (L.drop a) = avaR (insA L a (keyA (ty, vl))) := by unfold insA; rw [avaR_append, avaR_append]; rfl
               rw [hrs] at hs7
               exact G.again ⟨k + 1, _, insA L a (keyA (ty, vl))⟩ ⟨sint (by omega), rfl, rfl, rfl, rfl, rfl, rfl, rfl, trivial⟩ Zu ⟨by simp only; omega, hs7, insA_rise (by omega) hrise ha2 (.inl (by omega)), by rw [hstep, List.map_append]; exact (insA_perm L a _).trans ((List.Perm.cons _ hperm).trans (List.perm_append_comm (l₁ := [keyA (ty, vl)])))⟩ (by solve | repeat first | assumption | exact Zr _ | refine Zq ?_ Zp) (by simp only; omega)))
    . obtain rfl : k = r.length := by omega
      rw [List.take_length] at hperm
      obtain ⟨A, cap, rfl, hcap, hcapm, _⟩ := hlv.form
      repeat' (first | (refine G.atCode ?_; first | refine G.seq ?_ | refine G.region ?_ | refine G.exit rfl ?_ | (refine G.cond rfl ?_ ?_ <;> intro hc <;> (try simp only [tests, reduceCtorEq] at hc) <;> (try exact Zf))) | refine G.endOps ?_ | refine G.endBlk ?_ | (refine G.atBin ?_; first | (refine G.atAdd ?_; first | refine G.arith rfl rfl rfl rfl rfl Zi ?_) | refine G.op rfl rfl ?_) | refine G.op rfl rfl ?_ | (refine G.atBsl ?_; refine G.buildSlice (tyy rfl) (tyy rfl) rfl rfl rfl rfl ?_; intro _) | (refine G.atApp ?_; first | (refine G.append1 rfl rfl (tyy rfl) (tyy rfl) rfl rfl Za Za rfl rfl rfl Zo ?_; intro _; refine G.rowForm Take.hd ?_; rintro _ _ rfl)))
      all_goals first
        | (exfalso; omega)
        | (have hnx := take_of_get hr
           have hnp : PlainD (d.take (i + 1)) (p ++ [L]) := ⟨by rw [hnx, List.map_append, List.map_append, hP.same]; simp only [List.map_cons, List.map_nil]; rw [rise_sort hperm hrise], by
             have h1 := hP.w
             have h2 := perm_w hperm
             have e1 : dnW (p ++ [L]) = dnW p + (rdnW L + 1) := by unfold dnW; simp
             have e2 : dnW (d.take (i + 1)) = dnW (d.take i) + (rdnW r + 1) := by rw [hnx]; unfold dnW; simp
             omega⟩
           exact G.again ⟨i + 1, _, _, p ++ [L]⟩ ⟨sint (by omega), rfl, rfl, rfl, trivial⟩ Zu ⟨by simp only; omega, by simp only [List.length_append, List.length_cons, List.length_nil]; omega, (horows.mono (by solve | repeat first | assumption | exact Zr _ | refine Zq ?_ Zp)).append (RdnsC.one (hlv.mono (by solve | repeat first | assumption | exact Zr _ | refine Zq ?_ Zp))), hnp⟩ (by solve | repeat first | assumption | exact Zr _ | refine Zq ?_ Zp) (by simp only; omega))
  . obtain rfl : i = d.length := by omega
    rw [List.take_length] at hP
    repeat' (first | (refine G.atCode ?_; first | refine G.seq ?_ | refine G.region ?_ | refine G.exit rfl ?_ | refine G.ret ?_ | (refine G.cond rfl ?_ ?_ <;> intro hc <;> (try simp only [tests, reduceCtorEq] at hc) <;> (try exact Zf))) | refine G.endOps ?_ | (refine G.atBin ?_; first | refine G.op rfl rfl ?_) | refine G.op rfl rfl ?_)
    refine G.freezeRow Take.hd ?_
    intro h8 hle8 hs8
    exact G.done1 rfl rfl _ (SubH.nil _) ⟨⟨p, ⟨_, hs8, horows.mono hle8⟩, hP⟩, rfl⟩
end Go.Proofs.Ytahpemfnhepgoaa
