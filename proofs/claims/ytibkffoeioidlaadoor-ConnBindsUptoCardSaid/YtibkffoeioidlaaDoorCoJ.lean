/- A store into one field of an own row's element; rows of which there are many. -/
import Derived.Test.YtibkffoeioidlaaDoorLtL
import Derived.Test.YtibkffoeioidlaaDoorCoC
import Derived.Test.YtibkffoeioidlaaDoorDnU
namespace Go.Proofs.YtibkffoeioidlaaDoor
set_option linter.all false
set_option maxRecDepth 4000
open Go.RowKit
section
variable {E : Env} {k : List It} {f : Fr} {h : Heap} {H Hr : List Chunk} {all : Array Oper} {rest : List Oper} {ty : TypeId} {pos : String} {aft : Array Edge}
theorem G.storeRowAt {t e : TypeId} {x y : Operand} {td : TD} {i sz off by_ : Nat} {z v u : Value} {p : Addr} {rows : List (List Value)} {s : Value} (hx : ev f x = some (.pointer (some (p.add off)))) (hy : ev f y = some u) (ht : Ty E.P t td 1 by_ z) (hp : Elem v sz i p)
    (hH : Take (.row v e sz rows) H Hr) (hr : normL (cellsL u) = some [s]) (h1 : s.oneCell' = true) (ho : off < sz) (hi : i < rows.length)
    (n : G E (.ops .seq all rest :: k) f h (.row v e sz (rows.set i ((rows[i]'hi).set off s)) :: Hr)) :
    G E (.ops .seq all (⟨none, .store t x y, ty, pos, aft, none⟩ :: rest) :: k) f h H := by
  have hr := normL_eq hr
  have hpos : 0 < sz := by omega
  obtain ⟨g, m, c, rfl, rfl⟩ := hp
  rw [Addr.add_lit] at hx
  refine G.opGen fun a w ha hw => ?_
  have hrow := hw.own _ hH.mem
  rcases hrow.2 with ⟨h0, _⟩ | ⟨g', cap, cur, fz, hv, hg, hu, hn, hc, hcs, htk⟩
  . cases h0
  injection hv with q1 q2 q3
  injection q1 with q1
  injection q1 with q1
  subst q1 q2 q3
  have hfl := flatten_length hrow.1
  have hcl0 : cur.toList.length = c * sz := by rw [Array.length_toList, hcs]
  have h5 : (i + 1) * sz <= rows.length * sz := Nat.mul_le_mul_right _ hi
  have h6 : rows.length * sz <= c * sz := Nat.mul_le_mul_right _ hn
  rw [Nat.succ_mul] at h5
  have hle : (i * sz + off) + 0 + (cellsL u).length <= cur.toList.length := by rw [hcl0, hr]; simp only [List.length_singleton]; omega
  obtain ⟨w', cur', r1, r2, r3, r4, r5, r6, r7, r8, r9, r10⟩ := run_storeCells_blk E.P g (i * sz + off) e (cellsL u) 0 cur.toList w fz (by simpa using hg) (by simpa using hu) hle (fun u' hu' => by rw [hr] at hu'; rw [List.mem_singleton.1 hu']; exact h1)
  have hri : rows[i]? = some rows[i] := List.getElem?_eq_getElem hi
  have hset : Rowed sz (rows.set i ((rows[i]'hi).set off s)) := fun r hr => by
    rcases List.mem_or_eq_of_mem_set hr with h' | h'
    . exact hrow.1 r h'
    . rw [h', List.length_set]; exact hrow.1 _ (List.getElem_mem hi)
  refine ⟨.skip, w', f, h, .row (.slice (some ⟨g, 0, none⟩) rows.length c) e sz (rows.set i ((rows[i]'hi).set off s)) :: Hr, ?_, .inr ⟨rfl, ha⟩, ?_, n⟩
  . have hsz : u.cells.size = 1 := by have h9 : (cellsL u).length = 1 := by rw [hr]; rfl
                                      rw [cellsL_eq]; simpa using h9
    simp [execOp, Instr.storeAt, Instr.sureAddr, ev_eq ha hx, ev_eq ha hy, storeVar, run_sizeOf' ht, hsz, cellsL_eq', r1]
  . refine hw.set hH rfl rfl ⟨hset, .inr ⟨g, c, cur'.toArray, fz, by simp, r2, by simpa [r3] using hu, by simpa using hn, hc, by simp [r3, hcs], ?_⟩⟩ r6 r7 r8 r9 r10
    rw [List.length_set]
    have hfl' := flatten_length hset
    rw [List.length_set] at hfl'
    have hcl : cur'.length = c * sz := by rw [r3, Array.length_toList, hcs]
    apply list_ext_get (by rw [List.length_take, hfl']; show min _ cur'.length = _; rw [hcl]; exact Nat.min_eq_left (Nat.mul_le_mul_right _ hn))
    intro j hj
    rw [hfl'] at hj
    rw [List.getElem?_take_of_lt hj]
    have hjl : j / sz < rows.length := Nat.div_lt_of_lt_mul (by rw [Nat.mul_comm]; exact hj)
    have hjd : j / sz * sz + j % sz = j := by rw [Nat.mul_comm]; exact Nat.div_add_mod j sz
    have hjm := Nat.mod_lt j hpos
    have hrj : rows[j / sz]? = some rows[j / sz] := List.getElem?_eq_getElem hjl
    have hg2 := flatten_get hrow.1 (j / sz) rows[j / sz] hrj (j % sz) hjm
    rw [hjd] at hg2
    by_cases hji : j / sz = i
    . have hg1 := flatten_get hset i ((rows[i]'hi).set off s) (by simp [hi]) (j % sz) hjm
      have hjd2 : i * sz + j % sz = j := by rw [<- hji]; exact hjd
      rw [hjd2] at hg1
      rw [hg1]
      have hrl : (rows[i]'hi).length = sz := hrow.1 _ (List.getElem_mem hi)
      by_cases hjo : j % sz = off
      . have h7 := r4 0 (by rw [hr]; exact Nat.zero_lt_one)
        have h8 : i * sz + off + 0 + 0 = j := by omega
        rw [h8, hr] at h7
        rw [hjo, List.getElem?_set_self (by rw [hrl]; exact ho)]
        exact h7
      . rw [List.getElem?_set_ne (fun e => hjo e.symm)]
        have h7 := r5 j (by rw [hr]; simp only [List.length_singleton]; omega)
        have hg3 : rows.flatten[j]? = (rows[i]'hi)[j % sz]? := by rw [hg2]; congr 1; simp only [hji]
        rw [<- hg3, ← htk, List.getElem?_take_of_lt hj]
        exact h7
    . have hg1 := flatten_get hset (j / sz) rows[j / sz] (by rw [List.getElem?_set_ne (fun e => hji e.symm)]; exact hrj) (j % sz) hjm
      rw [hjd] at hg1
      rw [hg1, ← hg2, ← htk, List.getElem?_take_of_lt hj]
      show cur'[j]? = _
      refine r5 j ?_
      rcases Nat.lt_or_ge (j / sz) i with h5 | h5
      . have : (j / sz + 1) * sz <= i * sz := Nat.mul_le_mul_right _ h5
        rw [Nat.succ_mul] at this
        left; omega
      . have : (i + 1) * sz <= j / sz * sz := Nat.mul_le_mul_right _ (by omega)
        rw [Nat.succ_mul] at this
        right; rw [hr]; simp only [List.length_singleton]; omega
end
end Go.Proofs.YtibkffoeioidlaaDoor
namespace Go.Proofs.YtibkffoeioidlaaDoor
set_option linter.all false
set_option maxRecDepth 4000
open Go.RowKit

theorem SubH.cons {x : Chunk} {xs l m : List Chunk} (t : Take x l m) (s : SubH xs m) : SubH (x :: xs) l := by
  obtain ⟨r, h⟩ := s
  exact ⟨r, t.perm.trans (List.Perm.cons x h)⟩
def AvH (L : List (Value × Rdn)) : List Chunk := L.map fun x => .row x.1 40 2 (avaR x.2)
def JnR (d : Dn) (u : Value) (h' : Heap) (H' : List Chunk) : Prop := ∃ L : List (Value × Rdn), L.reverse.map Prod.snd = d /\ HSl h' u 1 (L.reverse.map fun y => [y.1]) /\ (∀ y ∈ L, ∃ A c, y.1 = .slice A (avaR y.2).length c) /\ H' = AvH L
set_option maxRecDepth 8000 in
set_option maxHeartbeats 2000000 in
theorem dn_JoinOwn (d b : Dn) (v v2 : Value) (hd : dnW d <= 10000000) (hb : dnW b <= 10000000) (h : Heap) (hv : DnC h d v) (hv2 : DnC h b v2) : Spec Tryd.prog 40 [v, v2] h [] (fun u h' H' => JnR (b ++ d) u h' H') := by
  obtain ⟨rows1, hs1, hr1⟩ := hv
  obtain ⟨rows2, hs2, hr2⟩ := hv2
  have hl1 := dn_len_le d
  have hl2 := dn_len_le b
  have hrl1 := hr1.len
  have hrl2 := hr2.len
  obtain ⟨A1, c1, rfl, _⟩ := hs1.form
  obtain ⟨A2, c2, rfl, _⟩ := hs2.form
  have hW : ∀ r ∈ b ++ d, rdnW r <= 10000000 := fun r hr => by
    rcases List.mem_append.1 hr with hr | hr
    . have := rdnW_le hr; omega
    . have := rdnW_le hr; omega
  have hbl : (b ++ d).length <= 20000000 := by rw [List.length_append]; omega
  refine Spec.enter Tryd.func40 rfl rfl ?_; intro w0
  repeat' (first | (show G _ (.ops .seq _ (⟨some _, .call { callee := .value (.func 70), args := _, argTypes := _ }, _, _, _, none⟩ :: _) :: _) _ _ _; refine G.freezeBlk Take.hd ?_; intro hf1 hle1 hc1; refine G.call callConcat rfl rfl (slices_Concat2 b d _ _ _ rows2 rows1 (by omega) (by omega) _ (HSl.ofBlk1 (rows := [[_], [_]]) (n := 2) hc1 (by intro r hr; simp at hr; rcases hr with rfl | rfl <;> rfl) rfl (by decide)) (hs2.mono (by solve | repeat first | assumption | exact Zr _ | refine Zq ?_ (by assumption))) (hr2.mono (by solve | repeat first | assumption | exact Zr _ | refine Zq ?_ (by assumption))) (hs1.mono (by solve | repeat first | assumption | exact Zr _ | refine Zq ?_ (by assumption))) (hr1.mono (by solve | repeat first | assumption | exact Zr _ | refine Zq ?_ (by assumption)))) (by solve | repeat first | apply Zn | apply Zh | apply Zt | apply Zc) ?_; rintro cv h2 H2 rfl hle2) | (refine G.atCode ?_; refine G.stopLoop ?_) | (refine G.atCode ?_; first | refine G.seq ?_ | refine G.region ?_ | refine G.block ?_) | refine G.endOps ?_ | refine G.op rfl rfl ?_ | (refine G.atLen ?_; first | refine G.lenRow rfl (tyy rfl) (by solve | repeat first | apply Zh | apply Zt) rfl ?_) | (refine G.atBsl ?_; refine G.buildSlice (tyy rfl) (tyy rfl) rfl rfl rfl rfl ?_; intro _))
  refine G.freezeRow Take.hd ?_
  intro h3 hle3 hs
  have hle03 : Heap.le h h3 := Heap.le_trans hle1 (Heap.le_trans hle2 hle3)
  have hrows : RdnsC h3 (b ++ d) (rows2 ++ rows1) := (hr2.append hr1).mono hle03
  clear hr1 hr2
  have hrl := hrows.len
  refine G.nilRow 38 1 ?_
  refine G.go ?_
  rw [hrl]
  generalize rows2 ++ rows1 = rows at *
  generalize b ++ d = e at *
  refine G.loop (σ := Nat × Value × List (Value × Rdn)) (fun x => [(13, .int .i64 x.1), (12, .int .i64 e.length), (11, cv), (5, x.2.1)])
    (fun x => .row x.2.1 38 1 (x.2.2.reverse.map fun y => [y.1]) :: AvH x.2.2) (fun x _ => x.1 <= e.length /\ x.2.2.reverse.map Prod.snd = e.take x.1 /\ ∀ y ∈ x.2.2, ∃ A c, y.1 = Value.slice A (avaR y.2).length c) (fun x => e.length - x.1) ⟨0, .slice none 0 0, []⟩ ⟨rfl, rfl, rfl, rfl, trivial⟩ (by solve | repeat first | apply Zm | apply Zh | apply Zt | apply Zk) ⟨Nat.zero_le _, rfl, fun y hy => by cases hy⟩ ?_
  rintro ⟨i, ov, L⟩ h4 hle4 ⟨hi, hL, hF⟩
  simp only at hi hL hF
  refine G.norm (by (try dsimp only) <;> exact rfl) (by (try dsimp only) <;> exact rfl) ?_
  have horl : L.length <= e.length := by
    have := congrArg List.length hL
    rw [List.length_map, List.length_reverse, List.length_take] at this
    omega
  have hll : (L.reverse.map fun y => [y.1]).length = L.length := by rw [List.length_map, List.length_reverse]
  by_cases hlt : i < e.length
  . obtain ⟨r, hr⟩ : ∃ r, e[i]? = some r := ⟨e[i], List.getElem?_eq_getElem hlt⟩
    obtain ⟨rv, hget, hrv⟩ := hrows.get hr
    have hrw := hW r (List.mem_of_getElem? hr)
    have hrlen := rdn_len_le r
    have hal := avaR_length r
    repeat' (first | (refine G.atIdx ?_; refine G.idxImm rfl rfl (tyy rfl) (tyy rfl) (hs.mono hle4) (by first | (simp only [Int.reduceToNat]; rfl) | with_reducible apply Int.toNat_natCast | exact Eq.refl _) rfl (by omega) ?_; intro p1 r1 hr1 hp1; (rw [hget] at hr1); (obtain rfl := Option.some.inj hr1)) | (refine G.atApp ?_; refine G.nilRow 40 2 ?_; refine G.append (v := .slice none 0 0) rfl rfl (tyy rfl) (tyy rfl) (tyy rfl) (.inl ⟨_, rfl⟩) rfl Take.hd (Src.imm (hrv.mono (by solve | repeat first | assumption | exact Zr _ | refine Zq ?_ (by assumption)))) (avaR_rowed _) (avaR_one _) rfl (by simp only [List.length_nil, avaR_length]; omega) (by simp only [List.length_nil, avaR_length]; omega) ?_; intro v9; refine G.rowForm Take.hd ?_; rintro A9 c9 rfl) | (refine G.atCode ?_; first | refine G.seq ?_ | refine G.region ?_ | refine G.block ?_ | refine G.skip ?_ | (refine G.cond rfl ?_ ?_ <;> intro hc <;> (try simp only [tests, reduceCtorEq] at hc) <;> (try (exfalso; first | omega | exact Zx hc | exact Zy hc | exact Zb hc | exact hc | exact hc trivial)))) | refine G.endOps ?_ | refine G.endBlk ?_ | (refine G.atBin ?_; first | (refine G.atAdd ?_; first | refine G.arith rfl rfl rfl rfl rfl (by simp only [inR]; omega) ?_) | refine G.op rfl rfl ?_) | refine G.op rfl rfl ?_ | (refine G.atLoad ?_; first | refine G.loadImm1 rfl (tyy rfl) rfl rfl (by assumption) rfl ?_) | (refine G.atBsl ?_; refine G.buildSlice (tyy rfl) (tyy rfl) rfl rfl rfl rfl ?_; intro _) | (refine G.atApp ?_; first | (refine G.append1 rfl rfl (tyy rfl) (tyy rfl) rfl rfl (by solve | repeat first | apply Zh | apply Zt) (by solve | repeat first | apply Zh | apply Zt) rfl rfl rfl (by first | omega | (simp only [lens] at *; omega)) ?_; intro _; refine G.rowForm Take.hd ?_; rintro _ _ rfl)))
    all_goals (
      refine G.again ⟨i + 1, _, (.slice A9 (avaR r).length c9, r) :: L⟩ ⟨sint (by simp only; omega), rfl, rfl, rfl, trivial⟩ ?_ ⟨by simp only; omega, ?_, fun y hy => by
        rcases List.mem_cons.1 hy with rfl | hy
        . exact ⟨A9, c9, rfl⟩
        . exact hF y hy⟩ (by solve | repeat first | assumption | exact Zr _ | refine Zq ?_ (by assumption)) (by simp only; omega)
      . simp only [List.reverse_cons, List.map_append, List.map_cons, List.map_nil]
        exact SubH.rfl_ _
      . simp only
        rw [List.reverse_cons, List.map_append, hL, take_of_get hr]; rfl)
  . obtain rfl : i = e.length := by omega
    rw [List.take_length] at hL
    repeat' (first | (refine G.atCode ?_; first | refine G.seq ?_ | refine G.region ?_ | refine G.exit rfl ?_ | refine G.ret ?_ | (refine G.cond rfl ?_ ?_ <;> intro hc <;> (try simp only [tests, reduceCtorEq] at hc) <;> (try (exfalso; first | omega | exact Zx hc | exact Zy hc | exact Zb hc | exact hc | exact hc trivial)))) | refine G.endOps ?_ | (refine G.atBin ?_; first | refine G.op rfl rfl ?_) | refine G.op rfl rfl ?_)
    refine G.freezeRow Take.hd ?_
    intro h8 hle8 hs8
    exact G.done1 rfl rfl _ (SubH.rfl_ _) ⟨L, hL, hs8, hF, rfl⟩
end Go.Proofs.YtibkffoeioidlaaDoor
