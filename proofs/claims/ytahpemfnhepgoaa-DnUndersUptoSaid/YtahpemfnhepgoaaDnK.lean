/- Names: castellanref09.text. -/
import Derived.Test.YtahpemfnhepgoaaDnJ
namespace Go.Proofs.Ytahpemfnhepgoaa
set_option linter.all false
set_option maxRecDepth 4000
open Go.RowKit

theorem join_snoc (sep : List UInt8) (x : List UInt8) : ∀ (L : List (List UInt8)), L ≠ [] -> Lib.join (L ++ [x]) sep = Lib.join L sep ++ sep ++ x := by
  intro L hL
  cases L with
  | nil => exact absurd rfl hL
  | cons y r => rw [List.cons_append, Lib.join_cons, Lib.join_cons]; simp [Lib.joinTail]
theorem join_one' (sep x : List UInt8) : Lib.join ([] ++ [x]) sep = x := Lib.join_one x sep
theorem sum_take {α : Type} (f : α -> Nat) : ∀ (l : List α) (i : Nat) (x : α), l[i]? = some x -> ((l.take i).map f).sum + f x <= (l.map f).sum
  | [], i, x, h => by simp at h
  | y :: l, 0, x, h => by simp at h; subst h; simp
  | y :: l, i + 1, x, h => by
    have := sum_take f l i x (by simpa using h)
    simp only [List.take_succ_cons, List.map_cons, List.sum_cons]; omega
theorem callRText : Callable Try.prog 35 := ⟨_, Try.func35, by kernel_rfl, rfl⟩
def pre9 (d : Dn) (i : Nat) : List UInt8 := if i = 0 then [] else Lib.join ((d.take i).map (fR false)) [44] ++ [44]
set_option maxRecDepth 8000 in
set_option maxHeartbeats 2000000 in
theorem ref09_text (d : Dn) (v : Value) (hd : dnW d <= 10000000) (h : Heap) (hv : DnC h d v) : Spec Try.prog 35 [v] h [] (fun u _ H' => u = str (txt false d) /\ H' = []) := by
  obtain ⟨rows, hs, hrows⟩ := hv
  have hrl := hrows.len
  have hdl := dn_len_le d
  refine Spec.enter Try.func35 rfl rfl ?_; intro w0
  repeat' (first | (refine G.atCode ?_; refine G.stopLoop ?_) | (refine G.atCode ?_; first | refine G.seq ?_ | refine G.region ?_ | refine G.block ?_) | refine G.endOps ?_ | refine G.op rfl rfl ?_ | (refine G.atLen ?_; first | refine G.lenImm rfl (tyy rfl) Zl rfl ?_))
  refine G.go ?_
  rw [hrl]
  refine G.loop (σ := Nat) (fun i => [(10, .int .i64 i), (9, .int .i64 d.length), (8, v), (3, str (Lib.join ((d.take i).map (fR false)) [44]))])
    (fun _ => []) (fun i _ => i <= d.length) (fun i => d.length - i) 0 ⟨rfl, rfl, rfl, rfl, trivial⟩ (SubH.nil _) (Nat.zero_le _) ?_
  rintro i h1 hle1 hi
  by_cases hlt : i < d.length
  . obtain ⟨r, hr⟩ : ∃ r, d[i]? = some r := ⟨d[i], List.getElem?_eq_getElem hlt⟩
    obtain ⟨rv, hget, hrv⟩ := hrows.get hr
    have hrlen := rdn_len_le r
    have hal := avaR_length r
    have hst : dnW (d.take i) + (rdnW r + 1) <= dnW d := sum_take (fun r => rdnW r + 1) d i r hr
    have hjl := txt_len false (d.take i)
    have hnext : Lib.join ((d.take (i + 1)).map (fR false)) [44] = pre9 d i ++ fR false r := by
      rw [map_take_succ (fR false) hr]
      unfold pre9
      by_cases h0 : i = 0
      . subst h0; rw [if_pos rfl]; exact join_one' _ _
      . rw [if_neg h0, join_snoc]
        intro e
        have h9 : ((d.take i).map (fR false)).length = i := by rw [List.length_map, List.length_take]; omega
        rw [e] at h9
        exact h0 h9.symm
    have hpl : (pre9 d i).length <= dnW (d.take i) + 1 := by
      unfold pre9; split
      . simp
      . simp only [List.length_append, List.length_cons, List.length_nil]; unfold txt at hjl; omega
    have hb0 : i = 0 -> Lib.join ((d.take i).map (fR false)) [44] = pre9 d i := fun e => by subst e; rfl
    have hb1 : ¬ i = 0 -> Lib.join ((d.take i).map (fR false)) [44] ++ [44] = pre9 d i := fun e => by unfold pre9; rw [if_neg e]
    have hjl' : (Lib.join ((d.take i).map (fR false)) [44]).length <= dnW (d.take i) := hjl
    clear hjl
    generalize Lib.join ((d.take i).map (fR false)) [44] = J at *
    generalize hPP : pre9 d i = PP at *
    repeat' (first | (refine G.atIdx ?_; refine G.idxImm rfl rfl (tyy rfl) (tyy rfl) (hs.mono hle1) Zj rfl (by omega) ?_; intro p1 r1 hr1 hp1; (rw [hget] at hr1); (obtain rfl := Option.some.inj hr1)) | (refine G.atCode ?_; refine G.stopLoop ?_) | (refine G.atCode ?_; first | refine G.seq ?_ | refine G.region ?_ | refine G.block ?_ | refine G.skip ?_ | (refine G.cond rfl ?_ ?_ <;> intro hc <;> (try simp only [tests, reduceCtorEq] at hc) <;> (try exact Zf))) | refine G.endOps ?_ | (refine G.atBin ?_; first | (refine G.atAdd ?_; first | refine G.catStr rfl rfl rfl Zo ?_) | refine G.op rfl rfl ?_) | refine G.op rfl rfl ?_ | (refine G.atLen ?_; first | refine G.lenImm rfl (tyy rfl) Zl rfl ?_) | (refine G.atLoad ?_; first | refine G.loadImm1 rfl (tyy rfl) rfl rfl Zp rfl ?_))
    all_goals (first | rw [hb0 (by omega)] | rw [hb1 (by omega)])
    all_goals (
      refine G.go ?_
      rw [hal]
      refine G.loop (σ := Nat) (fun k => [(21, .int .i64 k), (20, .int .i64 r.length), (19, rv), (10, .int .i64 i), (9, .int .i64 d.length), (8, v), (3, str (PP ++ Lib.join ((r.take k).map (fA false)) [43]))])
        (fun _ => []) (fun k _ => k <= r.length) (fun k => r.length - k) 0 ⟨rfl, rfl, rfl, rfl, rfl, rfl, sstr (by simp [Lib.join_nil]), trivial⟩ (SubH.nil _) (Nat.zero_le _) ?_
      rintro k h3 hle3 hk
      by_cases hkl : k < r.length
      . obtain ⟨⟨ty, vl⟩, ha⟩ : ∃ a, r[k]? = some a := ⟨r[k], List.getElem?_eq_getElem hkl⟩
        have hget2 := avaR_get ha
        have hst2 := sum_take avaW r k (ty, vl) ha
        have hjl2 := fRl_len false (r.take k)
        have hjj := join_len [43] ((r.take k).map (fA false))
        have hwl := wrM_len vl
        have hnext2 : Lib.join ((r.take (k + 1)).map (fA false)) [43] = (if k = 0 then [] else Lib.join ((r.take k).map (fA false)) [43] ++ [43]) ++ (ty ++ [61] ++ wrM vl) := by
          rw [map_take_succ (fA false) ha]
          by_cases h0 : k = 0
          . subst h0; rw [if_pos rfl]; exact join_one' _ _
          . rw [if_neg h0, join_snoc]
            . rfl
            . intro e
              have h9 : ((r.take k).map (fA false)).length = k := by rw [List.length_map, List.length_take]; omega
              rw [e] at h9
              exact h0 h9.symm
        have hbase : k = 0 -> Lib.join ((r.take k).map (fA false)) [43] = [] := fun e => by subst e; rfl
        have hst3 : rdnW (r.take k) + (ty.length + 3 * vl.length + 2) <= rdnW r := hst2
        have hjl3 : (Lib.join ((r.take k).map (fA false)) [43]).length <= rdnW (r.take k) := Nat.le_trans hjj hjl2
        simp only at hget2
        clear hst2 hjl2 hjj
        generalize Lib.join ((r.take k).map (fA false)) [43] = Q at *
        repeat' (first | (refine G.atIdx ?_; refine G.idxImm rfl rfl (tyy rfl) (tyy rfl) (hrv.mono (Heap.le_trans hle1 hle3)) Zj rfl (by omega) ?_; intro p1 r1 hr1 hp1; (rw [hget2] at hr1); (obtain rfl := Option.some.inj hr1); have hl1 : ([str ty, str vl] : List Value).length = 2 := rfl) | (show G _ (.ops .seq _ (⟨some _, .call { callee := .value (.func 49), args := _, argTypes := _ }, _, _, _, none⟩ :: _) :: _) _ _ _; refine G.call callRWritten rfl rfl (ref09_written vl (by omega) _) Ze ?_; rintro _ h4 H4 ⟨rfl, rfl⟩ hle4) | (refine G.atCode ?_; first | refine G.seq ?_ | refine G.region ?_ | refine G.block ?_ | refine G.skip ?_ | refine G.anyIn mixedOk ?_ | (refine G.cond rfl ?_ ?_ <;> intro hc <;> (try simp only [tests, reduceCtorEq] at hc) <;> (try exact Zf))) | refine G.endOps ?_ | refine G.endHeld ?_ | refine G.back ?_ | refine G.endBlk ?_ | (refine G.atAny ?_; first | refine G.anyAutoX slB rfl rfl Zw Zg Zd ?_ | refine G.anyOne rfl Zw Zg Zu ?_ | refine G.anyEndX Zw ?_) | (refine G.atBin ?_; first | (refine G.atAdd ?_; first | refine G.arith rfl rfl rfl rfl rfl Zi ?_ | refine G.catStr rfl rfl rfl Zo ?_) | refine G.op rfl rfl ?_) | refine G.op rfl rfl ?_ | (refine G.atLoad ?_; first | refine G.loadOwn1 rfl (tyy rfl) rfl rfl Za rfl rfl ?_ | refine G.loadImmA rfl (tyy rfl) rfl rfl Zp Zp rfl ?_) | (refine G.atFld ?_; first | refine G.fieldAddr rfl (tyy rfl) rfl rfl ?_) | (refine G.atSto ?_; refine G.storeOwn rfl rfl (tyy rfl) Za rfl rfl rfl rfl ?_) | (refine G.atAlc ?_; refine G.alloc (tyy rfl) rfl rfl ?_; intro _))
        all_goals first
          | exact G.again (k + 1) ⟨sint (by omega), rfl, rfl, rfl, rfl, rfl, sstr (by rw [hnext2, if_neg (by omega)]; simp only [List.append_assoc]), trivial⟩ (SubH.nil _) (by omega) (by solve | repeat first | assumption | exact Zr _ | refine Zq ?_ Zp) (by omega)
          | exact G.again (k + 1) ⟨sint (by omega), rfl, rfl, rfl, rfl, rfl, sstr (by rw [hnext2, if_pos (by omega), hbase (by omega)]; simp only [List.append_assoc, List.nil_append, List.append_nil]), trivial⟩ (SubH.nil _) (by omega) (by solve | repeat first | assumption | exact Zr _ | refine Zq ?_ Zp) (by omega)
      . obtain rfl : k = r.length := by omega
        rw [List.take_length, show Lib.join (r.map (fA false)) [43] = fR false r from rfl, ← hnext]
        repeat' (first | (refine G.atCode ?_; first | refine G.seq ?_ | refine G.region ?_ | refine G.exit rfl ?_ | (refine G.cond rfl ?_ ?_ <;> intro hc <;> (try simp only [tests, reduceCtorEq] at hc) <;> (try exact Zf))) | refine G.endOps ?_ | refine G.endBlk ?_ | (refine G.atBin ?_; first | (refine G.atAdd ?_; first | refine G.arith rfl rfl rfl rfl rfl Zi ?_) | refine G.op rfl rfl ?_) | refine G.op rfl rfl ?_)
        all_goals first | (exfalso; omega) | exact G.again (i + 1) ⟨sint (by omega), rfl, rfl, rfl, trivial⟩ (SubH.nil _) (by omega) (by solve | repeat first | assumption | exact Zr _ | refine Zq ?_ Zp) (by omega))
  . obtain rfl : i = d.length := by omega
    rw [List.take_length]
    repeat' (first | (refine G.atCode ?_; first | refine G.seq ?_ | refine G.region ?_ | refine G.exit rfl ?_ | refine G.ret ?_ | (refine G.cond rfl ?_ ?_ <;> intro hc <;> (try simp only [tests, reduceCtorEq] at hc) <;> (try exact Zf))) | refine G.endOps ?_ | (refine G.atBin ?_; first | refine G.op rfl rfl ?_) | refine G.op rfl rfl ?_)
    all_goals first | (exfalso; omega) | exact G.done1 rfl rfl _ (SubH.nil _) ⟨rfl, rfl⟩
end Go.Proofs.Ytahpemfnhepgoaa
