/- Names: dn.Join. -/
import Derived.Test.YtahpemfnhepgoaaDnP
import Derived.Test.YtahpemfnhepgoaaShG
namespace Go.Proofs.Ytahpemfnhepgoaa
set_option linter.all false
set_option maxRecDepth 4000
open Go.RowKit

theorem callGrow : Callable Try.prog 51 := ⟨_, Try.func51, by kernel_rfl, rfl⟩
theorem callConcat : Callable Try.prog 37 := ⟨_, Try.func37, by kernel_rfl, rfl⟩
theorem callJoin9 : Callable Try.prog 24 := ⟨_, Try.func24, by kernel_rfl, rfl⟩
theorem infoRdn : (Try.prog.info? 45).map (fun i => (i.size, i.bytes, i.zero)) = some (1, 24, some (.slice none 0 0)) := by kernel_rfl
theorem slices_Grow0 (n : Nat) (hn : n <= 100000000) (h : Heap) : Spec Try.prog 51 [.slice none 0 0, .int .i64 n] h [] (fun u _ H' => H' = [.row u 45 1 []]) := by
  refine ⟨fun w hw => ?_⟩
  by_cases h0 : n = 0
  . subst h0
    refine (Any8.slices_Grow_room laysGrow none 0 0 0 w (Nat.le_refl _) (by decide) (by decide) (by decide)).mono ?_
    rintro e w' ⟨rfl, rfl⟩
    refine ⟨_, h, _, rfl, rfl, ?_⟩
    have s := hw.start
    have hk : keys [Chunk.row (.slice none 0 0) 45 1 []] = [] := rfl
    exact ⟨s.os, s.tape, s.output, s.size, s.fr, s.mono, s.imm, fun x hx => by rw [List.mem_singleton.1 hx]; exact ⟨fun r hr => absurd hr (by simp), .inl ⟨rfl, rfl⟩⟩, by rw [hk]; exact List.nodup_nil, fun g hg => by rw [hk] at hg; simp at hg, fun g hg => by rw [hk] at hg; simp at hg, s.isub⟩
  . obtain ⟨i, hi, hj⟩ : ∃ i, Try.prog.info? 45 = some i /\ (i.size, i.bytes, i.zero) = (1, 24, some (Value.slice none 0 0)) := by
      have := infoRdn
      cases hx : Try.prog.info? 45 with
      | none => rw [hx] at this; cases this
      | some i => rw [hx] at this; simp only [Option.map_some, Option.some.injEq] at this; exact ⟨i, rfl, this⟩
    simp only [Prod.mk.injEq] at hj
    obtain ⟨e1, e2, e3⟩ := hj
    refine (Any8.slices_Grow_grow laysGrow i (.slice none 0 0) hi e3 (by omega) none 0 0 n [] w (Nat.le_refl _) (by omega) (by rw [e2]; omega) (by omega) (by simp) (fun _ => rfl) (fun a ha => by cases ha)).mono ?_
    rintro e w' ⟨rfl, rfl⟩
    have hge := grownCap_ge w (0 + n) 0 45
    have hcm : grownCap w (0 + n) 0 45 <= maxLen := grownCap_le_maxLen w (0 + n) 0 _ (by simp only [maxLen]; omega)
    refine ⟨_, h, _, rfl, rfl, ?_⟩
    have s : St ⟨w, keys [], h⟩ h [] w.drew := hw.start.same rfl rfl rfl rfl
    refine s.alloc _ (.row (.slice (some ⟨w.heap.size, 0, none⟩) 0 (grownCap w (0 + n) 0 45)) 45 1 []) ⟨fun r hr => absurd hr (by simp), .inr ⟨w.heap.size, _, _, (0, 0), rfl, heap_alloc_new w.drew _, fun i _ => by simp, Nat.zero_le _, hcm, ?_, by simp⟩⟩ rfl
    have hz : ((Value.slice none 0 0).cells).size = 1 := rfl
    simp only [Array.size_append, size_zeroCells, hz]
    simp only [List.size_toArray, List.length_nil]
    have hge' : 0 + n <= grownCap w (0 + n) 0 45 := hge
    show 0 + (0 + n - 0) * 1 + (grownCap w (0 + n) 0 45 - (0 + n)) * 1 = grownCap w (0 + n) 0 45 * 1
    omega
theorem RdnsC.cells1 {h : Heap} : ∀ {d : Dn} {rows : List (List Value)}, RdnsC h d rows -> ∀ r ∈ rows, ∀ q ∈ r, q.oneCell' = true
  | [], _, e, r, hr => by simp only [RdnsC] at e; subst e; simp at hr
  | _ :: _, _, ⟨v, rest, e, h1, h2⟩, r, hr => by
    subst e
    rcases List.mem_cons.1 hr with rfl | hr
    . intro q hq
      rw [List.mem_singleton.1 hq]
      obtain ⟨A, c, rfl, _⟩ := h1.form
      rfl
    . exact h2.cells1 r hr
theorem RdnsC.rowed {h : Heap} : ∀ {d : Dn} {rows : List (List Value)}, RdnsC h d rows -> Rowed 1 rows
  | [], _, e, r, hr => by simp only [RdnsC] at e; subst e; simp at hr
  | _ :: _, _, ⟨v, rest, e, h1, h2⟩, r, hr => by
    subst e
    rcases List.mem_cons.1 hr with rfl | hr
    . rfl
    . exact h2.rowed r hr
set_option maxRecDepth 8000 in
set_option maxHeartbeats 2000000 in
theorem slices_Concat2 (a b : Dn) (sv v1 v2 : Value) (rows1 rows2 : List (List Value)) (ha : a.length <= 10000000) (hb : b.length <= 10000000) (h : Heap) (hs : HSl h sv 1 [[v1], [v2]]) (h1 : HSl h v1 1 rows1) (r1 : RdnsC h a rows1) (h2 : HSl h v2 1 rows2) (r2 : RdnsC h b rows2) :
    Spec Try.prog 37 [sv] h [] (fun u _ H' => H' = [.row u 45 1 (rows1 ++ rows2)]) := by
  have hl1 := r1.len
  have hl2 := r2.len
  obtain ⟨A, cap, rfl, hcap, hcm, hf⟩ := hs.form
  have hs : HSl h (.slice A 2 cap) 1 [[v1], [v2]] := hs
  obtain ⟨A1, c1, rfl, _⟩ := h1.form
  obtain ⟨A2, c2, rfl, _⟩ := h2.form
  refine Spec.enter Try.func37 rfl rfl ?_; intro w0
  repeat' (first | (refine G.atCode ?_; refine G.stopLoop ?_) | (refine G.atCode ?_; first | refine G.seq ?_ | refine G.region ?_ | refine G.block ?_) | refine G.endOps ?_ | refine G.op rfl rfl ?_ | (refine G.atLen ?_; first | refine G.lenSlice rfl (tyy rfl) rfl ?_))
  refine G.go ?_
  refine G.loop (σ := Nat × Nat) (fun x => [(11, .int .i64 x.1), (10, .int .i64 (2 : Nat)), (9, .slice A 2 cap), (0, .slice A 2 cap), (3, .int .i64 x.2)])
    (fun _ => []) (fun x _ => x.1 <= 2 /\ (x.1 = 0 -> x.2 = 0) /\ (x.1 = 1 -> x.2 = rows1.length) /\ (x.1 = 2 -> x.2 = rows1.length + rows2.length)) (fun x => 2 - x.1) ⟨0, 0⟩ ⟨rfl, rfl, rfl, rfl, rfl, trivial⟩ (SubH.nil _) ⟨by simp, fun _ => rfl, fun e => by simp at e, fun e => by simp at e⟩ ?_
  rintro ⟨i, z⟩ h3 hle3 ⟨hi, hz0, hz1, hz2⟩
  simp only at hi hz0 hz1 hz2
  refine G.norm (by (try dsimp only) <;> exact rfl) (by (try dsimp only) <;> exact rfl) ?_
  have hs3 : HSl h3 (.slice A 2 cap) 1 [[.slice A1 rows1.length c1], [.slice A2 rows2.length c2]] := hs.mono hle3
  have h13 : HSl h3 (.slice A1 rows1.length c1) 1 rows1 := h1.mono hle3
  have h23 : HSl h3 (.slice A2 rows2.length c2) 1 rows2 := h2.mono hle3
  have hcase : i = 0 \/ i = 1 \/ i = 2 := by omega
  rcases hcase with rfl | rfl | rfl
  . have hz := hz0 rfl
    repeat' (first | (refine G.atIdx ?_; refine G.idxImm (m := 0) rfl rfl (tyy rfl) (tyy rfl) hs3 rfl rfl (by simp) ?_; intro p1 q1 hq1 hp1; (obtain rfl := Option.some.inj hq1)) | (refine G.atCode ?_; first | refine G.seq ?_ | refine G.region ?_ | refine G.block ?_ | refine G.skip ?_ | (refine G.cond rfl ?_ ?_ <;> intro hc <;> (try simp only [tests, reduceCtorEq] at hc) <;> (try exact Zf))) | refine G.endOps ?_ | refine G.endBlk ?_ | (refine G.atBin ?_; first | (refine G.atAdd ?_; first | refine G.arith rfl rfl rfl rfl rfl Zi ?_) | refine G.op rfl rfl ?_) | refine G.op rfl rfl ?_ | (refine G.atLen ?_; first | refine G.lenSlice rfl (tyy rfl) rfl ?_) | (refine G.atLoad ?_; first | refine G.loadImm1 rfl (tyy rfl) rfl rfl Zp rfl ?_))
    all_goals first | (exfalso; omega) | exact G.again ⟨1, rows1.length⟩ ⟨rfl, rfl, rfl, rfl, sint (by omega), trivial⟩ (SubH.nil _) ⟨by simp, fun e => by simp at e, fun _ => rfl, fun e => by simp at e⟩ (by solve | repeat first | assumption | exact Zr _ | refine Zq ?_ Zp) (by simp)
  . have hz := hz1 rfl
    repeat' (first | (refine G.atIdx ?_; refine G.idxImm (m := 1) rfl rfl (tyy rfl) (tyy rfl) hs3 rfl rfl (by simp) ?_; intro p1 q1 hq1 hp1; (obtain rfl := Option.some.inj hq1)) | (refine G.atCode ?_; first | refine G.seq ?_ | refine G.region ?_ | refine G.block ?_ | refine G.skip ?_ | (refine G.cond rfl ?_ ?_ <;> intro hc <;> (try simp only [tests, reduceCtorEq] at hc) <;> (try exact Zf))) | refine G.endOps ?_ | refine G.endBlk ?_ | (refine G.atBin ?_; first | (refine G.atAdd ?_; first | refine G.arith rfl rfl rfl rfl rfl Zi ?_) | refine G.op rfl rfl ?_) | refine G.op rfl rfl ?_ | (refine G.atLen ?_; first | refine G.lenSlice rfl (tyy rfl) rfl ?_) | (refine G.atLoad ?_; first | refine G.loadImm1 rfl (tyy rfl) rfl rfl Zp rfl ?_))
    all_goals first | (exfalso; omega) | exact G.again ⟨2, rows1.length + rows2.length⟩ ⟨rfl, rfl, rfl, rfl, sint (by omega), trivial⟩ (SubH.nil _) ⟨by simp, fun e => by simp at e, fun e => by simp at e, fun _ => rfl⟩ (by solve | repeat first | assumption | exact Zr _ | refine Zq ?_ Zp) (by simp)
  . have hz := hz2 rfl
    repeat' (first | (show G _ (.ops .seq _ (⟨some _, .call { callee := .value (.func 51), args := _, argTypes := _ }, _, _, _, none⟩ :: _) :: _) _ _ _; refine G.call callGrow rfl rfl (slices_Grow0 z (by omega) _) Ze ?_; rintro nv h4 H4 rfl hle4) | (refine G.atCode ?_; refine G.stopLoop ?_) | (refine G.atCode ?_; first | refine G.seq ?_ | refine G.region ?_ | refine G.block ?_ | refine G.exit rfl ?_ | (refine G.cond rfl ?_ ?_ <;> intro hc <;> (try simp only [tests, reduceCtorEq] at hc) <;> (try exact Zf))) | refine G.endOps ?_ | (refine G.atBin ?_; first | refine G.op rfl rfl ?_) | refine G.op rfl rfl ?_ | (refine G.atLen ?_; first | refine G.lenSlice rfl (tyy rfl) rfl ?_))
    all_goals (try (exfalso; omega))
    refine G.go ?_
    refine G.loop (σ := Nat × Value × List (List Value)) (fun x => [(27, .int .i64 x.1), (26, .int .i64 (2 : Nat)), (25, .slice A 2 cap), (6, x.2.1)])
      (fun x => [.row x.2.1 45 1 x.2.2]) (fun x _ => x.1 <= 2 /\ (x.1 = 0 -> x.2.2 = []) /\ (x.1 = 1 -> x.2.2 = rows1) /\ (x.1 = 2 -> x.2.2 = rows1 ++ rows2)) (fun x => 2 - x.1) ⟨0, nv, []⟩ ⟨rfl, rfl, rfl, rfl, trivial⟩ Zu ⟨by simp, fun _ => rfl, fun e => by simp at e, fun e => by simp at e⟩ ?_
    rintro ⟨i, nv2, X⟩ h5 hle5 ⟨hi, hx0, hx1, hx2⟩
    simp only at hi hx0 hx1 hx2
    refine G.norm (by (try dsimp only) <;> exact rfl) (by (try dsimp only) <;> exact rfl) ?_
    have hle15 : Heap.le h h5 := Heap.le_trans hle3 (Heap.le_trans hle4 hle5)
    have hs5 : HSl h5 (.slice A 2 cap) 1 [[.slice A1 rows1.length c1], [.slice A2 rows2.length c2]] := hs.mono hle15
    have h15 : HSl h5 (.slice A1 rows1.length c1) 1 rows1 := h1.mono hle15
    have h25 : HSl h5 (.slice A2 rows2.length c2) 1 rows2 := h2.mono hle15
    have hcase : i = 0 \/ i = 1 \/ i = 2 := by omega
    rcases hcase with rfl | rfl | rfl
    . have hx := hx0 rfl
      subst hx
      repeat' (first | (refine G.atIdx ?_; refine G.idxImm (m := 0) rfl rfl (tyy rfl) (tyy rfl) hs5 rfl rfl (by simp) ?_; intro p1 q1 hq1 hp1; (obtain rfl := Option.some.inj hq1)) | (refine G.atApp ?_; refine G.append rfl rfl (tyy rfl) (tyy rfl) (tyy rfl) (.inl ⟨_, rfl⟩) rfl Za (Src.imm h15) r1.rowed r1.cells1 rfl (by simp only [List.length_nil]; omega) (by simp only [List.length_nil]; omega) ?_; intro v9) | (refine G.atCode ?_; first | refine G.seq ?_ | refine G.region ?_ | refine G.block ?_ | refine G.skip ?_ | (refine G.cond rfl ?_ ?_ <;> intro hc <;> (try simp only [tests, reduceCtorEq] at hc) <;> (try exact Zf))) | refine G.endOps ?_ | refine G.endBlk ?_ | (refine G.atBin ?_; first | (refine G.atAdd ?_; first | refine G.arith rfl rfl rfl rfl rfl Zi ?_) | refine G.op rfl rfl ?_) | refine G.op rfl rfl ?_ | (refine G.atLoad ?_; first | refine G.loadImm1 rfl (tyy rfl) rfl rfl Zp rfl ?_))
      all_goals first | (exfalso; omega) | exact G.again ⟨1, _, rows1⟩ ⟨rfl, rfl, rfl, rfl, trivial⟩ Zu ⟨by simp, fun e => by simp at e, fun _ => rfl, fun e => by simp at e⟩ (by solve | repeat first | assumption | exact Zr _ | refine Zq ?_ Zp) (by simp)
    . have hx := hx1 rfl
      subst hx
      repeat' (first | (refine G.atIdx ?_; refine G.idxImm (m := 1) rfl rfl (tyy rfl) (tyy rfl) hs5 rfl rfl (by simp) ?_; intro p1 q1 hq1 hp1; (obtain rfl := Option.some.inj hq1)) | (refine G.atApp ?_; refine G.append rfl rfl (tyy rfl) (tyy rfl) (tyy rfl) (.inl ⟨_, rfl⟩) rfl Za (Src.imm h25) r2.rowed r2.cells1 rfl (by omega) (by omega) ?_; intro v9) | (refine G.atCode ?_; first | refine G.seq ?_ | refine G.region ?_ | refine G.block ?_ | refine G.skip ?_ | (refine G.cond rfl ?_ ?_ <;> intro hc <;> (try simp only [tests, reduceCtorEq] at hc) <;> (try exact Zf))) | refine G.endOps ?_ | refine G.endBlk ?_ | (refine G.atBin ?_; first | (refine G.atAdd ?_; first | refine G.arith rfl rfl rfl rfl rfl Zi ?_) | refine G.op rfl rfl ?_) | refine G.op rfl rfl ?_ | (refine G.atLoad ?_; first | refine G.loadImm1 rfl (tyy rfl) rfl rfl Zp rfl ?_))
      all_goals first | (exfalso; omega) | exact G.again ⟨2, _, X ++ rows2⟩ ⟨rfl, rfl, rfl, rfl, trivial⟩ Zu ⟨by simp, fun e => by simp at e, fun e => by simp at e, fun _ => rfl⟩ (by solve | repeat first | assumption | exact Zr _ | refine Zq ?_ Zp) (by simp)
    . have hx := hx2 rfl
      subst hx
      repeat' (first | (refine G.atCode ?_; first | refine G.seq ?_ | refine G.region ?_ | refine G.exit rfl ?_ | refine G.ret ?_ | (refine G.cond rfl ?_ ?_ <;> intro hc <;> (try simp only [tests, reduceCtorEq] at hc) <;> (try exact Zf))) | refine G.endOps ?_ | (refine G.atBin ?_; first | refine G.op rfl rfl ?_) | refine G.op rfl rfl ?_)
      all_goals first | (exfalso; omega) | exact G.done1 rfl rfl _ (SubH.rfl_ _) rfl
set_option maxRecDepth 8000 in
set_option maxHeartbeats 2000000 in
theorem dn_Join (d b : Dn) (v v2 : Value) (hd : dnW d <= 10000000) (hb : dnW b <= 10000000) (h : Heap) (hv : DnC h d v) (hv2 : DnC h b v2) : Spec Try.prog 24 [v, v2] h [] (fun u h' H' => DnC h' (b ++ d) u /\ H' = []) := by
  obtain ⟨rows1, hs1, hr1⟩ := hv
  obtain ⟨rows2, hs2, hr2⟩ := hv2
  have hl1 := dn_len_le d
  have hl2 := dn_len_le b
  have hrl1 := hr1.len
  have hrl2 := hr2.len
  obtain ⟨A1, c1, rfl, _⟩ := hs1.form
  obtain ⟨A2, c2, rfl, _⟩ := hs2.form
  have hW : ∀ r ∈ b ++ d, rdnW r <= 10000000 := fun r hr => by
    rcases List.mem_append.1 hr with hr | hr
    . have := rdnW_le hr; omega
    . have := rdnW_le hr; omega
  have hbl : (b ++ d).length <= 20000000 := by rw [List.length_append]; omega
  refine Spec.enter Try.func24 rfl rfl ?_; intro w0
  repeat' (first | (show G _ (.ops .seq _ (⟨some _, .call { callee := .value (.func 37), args := _, argTypes := _ }, _, _, _, none⟩ :: _) :: _) _ _ _; refine G.freezeBlk Take.hd ?_; intro hf1 hle1 hc1; refine G.call callConcat rfl rfl (slices_Concat2 b d _ _ _ rows2 rows1 (by omega) (by omega) _ (HSl.ofBlk1 (rows := [[_], [_]]) (n := 2) hc1 (by intro r hr; simp at hr; rcases hr with rfl | rfl <;> rfl) rfl (by decide)) (hs2.mono (by solve | repeat first | assumption | exact Zr _ | refine Zq ?_ Zp)) (hr2.mono (by solve | repeat first | assumption | exact Zr _ | refine Zq ?_ Zp)) (hs1.mono (by solve | repeat first | assumption | exact Zr _ | refine Zq ?_ Zp)) (hr1.mono (by solve | repeat first | assumption | exact Zr _ | refine Zq ?_ Zp))) Ze ?_; rintro cv h2 H2 rfl hle2) | (refine G.atCode ?_; refine G.stopLoop ?_) | (refine G.atCode ?_; first | refine G.seq ?_ | refine G.region ?_ | refine G.block ?_) | refine G.endOps ?_ | refine G.op rfl rfl ?_ | (refine G.atLen ?_; first | refine G.lenRow rfl (tyy rfl) Za rfl ?_) | (refine G.atBsl ?_; refine G.buildSlice (tyy rfl) (tyy rfl) rfl rfl rfl rfl ?_; intro _))
  refine G.freezeRow Take.hd ?_
  intro h3 hle3 hs
  have hle03 : Heap.le h h3 := Heap.le_trans hle1 (Heap.le_trans hle2 hle3)
  have hrows : RdnsC h3 (b ++ d) (rows2 ++ rows1) := (hr2.append hr1).mono hle03
  clear hr1 hr2
  have hrl := hrows.len
  refine G.nilRow 45 1 ?_
  refine G.go ?_
  rw [hrl]
  generalize rows2 ++ rows1 = rows at *
  generalize b ++ d = e at *
  refine G.loop (σ := Nat × Value × List (List Value)) (fun x => [(13, .int .i64 x.1), (12, .int .i64 e.length), (11, cv), (5, x.2.1)])
    (fun x => [.row x.2.1 45 1 x.2.2]) (fun x h1 => x.1 <= e.length /\ RdnsC h1 (e.take x.1) x.2.2) (fun x => e.length - x.1) ⟨0, .slice none 0 0, []⟩ ⟨rfl, rfl, rfl, rfl, trivial⟩ Zu ⟨Nat.zero_le _, rfl⟩ ?_
  rintro ⟨i, ov, orows⟩ h4 hle4 ⟨hi, horows⟩
  simp only at hi horows
  refine G.norm (by (try dsimp only) <;> exact rfl) (by (try dsimp only) <;> exact rfl) ?_
  have horl := horows.len
  rw [List.length_take] at horl
  by_cases hlt : i < e.length
  . obtain ⟨r, hr⟩ : ∃ r, e[i]? = some r := ⟨e[i], List.getElem?_eq_getElem hlt⟩
    obtain ⟨rv, hget, hrv⟩ := hrows.get hr
    have hrw := hW r (List.mem_of_getElem? hr)
    have hrlen := rdn_len_le r
    have hal := avaR_length r
    repeat' (first | (refine G.atIdx ?_; refine G.idxImm rfl rfl (tyy rfl) (tyy rfl) (hs.mono hle4) Zj rfl (by omega) ?_; intro p1 r1 hr1 hp1; (rw [hget] at hr1); (obtain rfl := Option.some.inj hr1)) | (refine G.atApp ?_; refine G.nilRow 51 2 ?_; refine G.append (v := .slice none 0 0) rfl rfl (tyy rfl) (tyy rfl) (tyy rfl) (.inl ⟨_, rfl⟩) rfl Take.hd (Src.imm (hrv.mono (by solve | repeat first | assumption | exact Zr _ | refine Zq ?_ Zp))) (avaR_rowed _) (avaR_one _) rfl (by simp only [List.length_nil, avaR_length]; omega) (by simp only [List.length_nil, avaR_length]; omega) ?_; intro v9; refine G.rowForm Take.hd ?_; rintro A9 c9 rfl) | (refine G.atCode ?_; first | refine G.seq ?_ | refine G.region ?_ | refine G.block ?_ | refine G.skip ?_ | (refine G.cond rfl ?_ ?_ <;> intro hc <;> (try simp only [tests, reduceCtorEq] at hc) <;> (try exact Zf))) | refine G.endOps ?_ | refine G.endBlk ?_ | (refine G.atBin ?_; first | (refine G.atAdd ?_; first | refine G.arith rfl rfl rfl rfl rfl Zi ?_) | refine G.op rfl rfl ?_) | refine G.op rfl rfl ?_ | (refine G.atLoad ?_; first | refine G.loadImm1 rfl (tyy rfl) rfl rfl Zp rfl ?_) | (refine G.atBsl ?_; refine G.buildSlice (tyy rfl) (tyy rfl) rfl rfl rfl rfl ?_; intro _) | (refine G.atApp ?_; first | (refine G.append1 rfl rfl (tyy rfl) (tyy rfl) rfl rfl Za Za rfl rfl rfl Zo ?_; intro _; refine G.rowForm Take.hd ?_; rintro _ _ rfl)))
    all_goals (
      refine G.freezeRow (Take.tl Take.hd) ?_
      intro h7 hle7 hs7
      exact G.again ⟨i + 1, _, _⟩ ⟨sint (by omega), rfl, rfl, rfl, trivial⟩ Zu ⟨by simp only; omega, by rw [take_of_get hr]; exact (horows.mono (by solve | repeat first | assumption | exact Zr _ | refine Zq ?_ Zp)).append (RdnsC.one (r := r) hs7)⟩ (by solve | repeat first | assumption | exact Zr _ | refine Zq ?_ Zp) (by simp only; omega))
  . obtain rfl : i = e.length := by omega
    rw [List.take_length] at horows
    repeat' (first | (refine G.atCode ?_; first | refine G.seq ?_ | refine G.region ?_ | refine G.exit rfl ?_ | refine G.ret ?_ | (refine G.cond rfl ?_ ?_ <;> intro hc <;> (try simp only [tests, reduceCtorEq] at hc) <;> (try exact Zf))) | refine G.endOps ?_ | (refine G.atBin ?_; first | refine G.op rfl rfl ?_) | refine G.op rfl rfl ?_)
    refine G.freezeRow Take.hd ?_
    intro h8 hle8 hs8
    exact G.done1 rfl rfl _ (SubH.nil _) ⟨⟨_, hs8, horows.mono hle8⟩, rfl⟩
end Go.Proofs.Ytahpemfnhepgoaa
