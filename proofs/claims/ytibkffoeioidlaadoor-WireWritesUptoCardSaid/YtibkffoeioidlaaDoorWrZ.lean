/- Filters: filt.Bare; castellanref10.Bare, Twin. -/
import Derived.Test.YtibkffoeioidlaaDoorFlO
import Derived.Test.YtibkffoeioidlaaDoorOcA
import Derived.Test.YtibkffoeioidlaaDoorLtQ
import Derived.Test.YtibkffoeioidlaaDoorTy
import Derived.Test.YtibkffoeioidlaaDoorLtA
import Derived.Test.YtibkffoeioidlaaDoorProg
import Derived.Ground.NamesProg
import Derived.Shelf.Sort.Plain
import Derived.Shelf.Strings.OnBuilder
import Derived.Shelf.Slices.In.SortNone
import Derived.Test.YtibkffoeioidlaaDoorTlvB
import Derived.Test.YtibkffoeioidlaaDoorWrJ
import Derived.Test.YtibkffoeioidlaaDoorTlvT
import Derived.Test.YtibkffoeioidlaaDoorWrX
import Derived.Test.YtibkffoeioidlaaDoorWrW
import Derived.Test.YtibkffoeioidlaaDoorWrO
namespace Go.Proofs.YtibkffoeioidlaaDoor
set_option linter.all false
set_option maxRecDepth 4000
open Go.RowKit

theorem callTwin10 : Callable Tryd.prog 41 := ⟨_, Tryd.func41, by kernel_rfl, rfl⟩
theorem one_pcs (ps : Pcs) : ∀ r ∈ pcsR ps, ∀ q ∈ r, q.oneCell' = true := by
  intro r hr q hq
  simp only [pcsR, List.mem_map] at hr
  obtain ⟨p, _, rfl⟩ := hr
  simp only [List.mem_cons, List.mem_nil_iff, or_false] at hq
  rcases hq with rfl | rfl <;> rfl
def FlU (h : Heap) (f : Fl) (u : Value) : Prop := ∃ c, FlC h f c /\ u = .agg c.toArray
theorem G.blkRow0 {E : Env} {ks : List It} {f : Fr} {h : Heap} {H Hr : List Chunk} {g : Nat} {e : TypeId} (sz : Nat) (t : Take (.blk g [] e) H Hr) (n : G E ks f h (.row (.slice (some ⟨g, 0, none⟩) 0 0) e sz [] :: Hr)) : G E ks f h H :=
  ⟨fun ac w hac hw => n.run ac w hac (hw.swapRow t rfl (fun r hr => absurd hr (by simp)) rfl (by decide))⟩
set_option maxRecDepth 8000 in
set_option maxHeartbeats 2000000 in
theorem ref10_Twin : ∀ (n : Nat) (a : Fl), a.sz <= n -> a.wt <= 100000000 -> ∀ (r : List Value) (h : Heap), FlC h a r →
    Spec Tryd.prog 41 [.agg r.toArray] h [] (fun u h' H' => FlU h' a u /\ H' = [])
  | 0, .mk _ _ _ _ _, hn, _, _, _, _ => by simp only [Fl.sz] at hn; omega
  | n + 1, a, hn, hw, r, h, ha => by
    have ih := ref10_Twin n
    obtain ⟨k, a, v, ps, ks, A, c, B, d, rowa, rfl, rfl, sp, sa, ka, la⟩ := ha.box
    have lp := pcsR_length ps
    have hpl := pcW_len ps
    have hkl := flwt_len ks
    have hwt : 1 + a.length + v.length + pcW ps + flwt ks <= 100000000 := by simpa only [Fl.wt] using hw
    clear ha
    refine Spec.enter Tryd.func41 rfl rfl ?_; intro w0
    repeat' (first | (refine G.atCode ?_; first | refine G.seq ?_ | refine G.region ?_) | refine G.endOps ?_ | (refine G.atLoad ?_; first | refine G.loadOwn1 rfl (tyy rfl) rfl rfl Za rfl rfl ?_ | refine G.loadOwnA rfl (tyy rfl) rfl rfl Za rfl rfl ?_) | (refine G.atFld ?_; first | refine G.fieldAddr rfl (tyy rfl) rfl rfl ?_) | (refine G.atSto ?_; refine G.storeOwn rfl rfl (tyy rfl) Za rfl rfl rfl rfl ?_) | (refine G.atAlc ?_; refine G.alloc (tyy rfl) rfl rfl ?_; intro _) | (refine G.atBox ?_; refine G.box rfl rfl rfl ?_; intro _) | (refine G.atBsl ?_; refine G.buildSlice (tyy rfl) (tyy rfl) rfl rfl rfl rfl ?_; intro _))
    rename_i gf gr go gp
    refine G.blkRow0 (g := gp) 2 Za ?_
    repeat' (first | (refine G.atApp ?_; refine G.appendImm rfl rfl (tyy rfl) (tyy rfl) rfl rfl Za (sp.mono (by solve | repeat first | assumption | exact Zr _ | refine Zq ?_ Zp)) (one_pcs _) rfl (by simp only [List.length_nil, pcsR_length]; omega) ?_; intro _; refine G.rowForm Take.hd ?_; rintro _ _ rfl) | (refine G.atCode ?_; refine G.stopLoop ?_) | (refine G.atCode ?_; first | refine G.seq ?_ | refine G.region ?_ | refine G.block ?_) | refine G.endOps ?_ | refine G.op rfl rfl ?_ | (refine G.atLen ?_; first | refine G.lenSlice rfl (tyy rfl) rfl ?_) | (refine G.atLoad ?_; first | refine G.loadOwn1 rfl (tyy rfl) rfl rfl Za rfl rfl ?_) | (refine G.atFld ?_; first | refine G.fieldAddr rfl (tyy rfl) rfl rfl ?_) | (refine G.atSto ?_; refine G.storeOwn rfl rfl (tyy rfl) Za rfl rfl rfl rfl ?_))
    all_goals first | (exfalso; omega) | skip
    rename_i AP cP
    refine G.nilRow 45 5 ?_
    refine G.go ?_
    refine G.loop (σ := Nat × List (List Value) × Option Addr × Nat) (fun x => [(15, .int .i64 x.1), (14, .int .i64 ks.length), (3, .pointer (some ⟨go, 0, none⟩)), (2, .pointer (some ⟨gr, 0, none⟩)), (1, .pointer (some ⟨gf, 0, none⟩))])
      (fun x => [.blk go [.int .i64 k, str a, str v, .slice AP ([] ++ pcsR ps).length cP, .slice x.2.2.1 x.2.1.length x.2.2.2] 45, .blk gr [.int .i64 0, str [], str [], .slice none 0 0, .slice none 0 0] 45, .blk gf [.int .i64 k, str a, str v, .slice A ps.length c, .slice B ks.length d] 45, .row (.slice x.2.2.1 x.2.1.length x.2.2.2) 45 5 x.2.1, .row (.slice AP ([] ++ pcsR ps).length cP) 148 2 ([] ++ pcsR ps)])
      (fun x h' => x.1 <= ks.length /\ x.2.1.length = x.1 /\ FlsC h' (ks.take x.1) x.2.1) (fun x => ks.length - x.1) ⟨0, [], none, 0⟩ ⟨rfl, sint (by simp), rfl, rfl, rfl, trivial⟩ Zu ⟨Nat.zero_le _, rfl, FlsC.nil _⟩ ?_
    rintro ⟨i, rws, A1, c1⟩ h1 hle1 ⟨hi, hil, hik⟩
    simp only at hi hil hik
    refine G.norm (by (try dsimp only) <;> exact rfl) (by (try dsimp only) <;> exact rfl) ?_
    by_cases hlt : i < ks.length
    . obtain ⟨f, hf⟩ : ∃ f, ks[i]? = some f := ⟨ks[i], List.getElem?_eq_getElem hlt⟩
      obtain ⟨q1, e1, n1⟩ := ka.get hf
      have n1 := n1.mono' hle1
      have hfs := flsz_kid (k := k) (a := a) (v := v) (ps := ps) hf
      have hfw := flwt_kid (k := k) (a := a) (v := v) (ps := ps) hf
      have t1 : HSl h1 (.slice B ks.length d) 5 rowa := sa.mono hle1
      have l1 : q1.length = 5 := t1.rowed q1 (List.mem_of_getElem? e1)
      have hcall := ih f (by omega) (by omega) q1 h1 n1
      obtain ⟨k9, a9, v9, A9, m9, q9, B9, p9, r9, rfl⟩ := n1.shp
      repeat' (first | (refine G.atIdx ?_; refine G.idxImm rfl rfl (tyy rfl) (tyy rfl) t1 Zj rfl (by omega) ?_; intro p1 r1 hx1 hp1; (rw [e1] at hx1); (obtain rfl := Option.some.inj hx1)) | (show G _ (.ops .seq _ (⟨some _, .call { callee := .value (.func 41), args := _, argTypes := _ }, _, _, _, none⟩ :: _) :: _) _ _ _; refine G.call callTwin10 rfl rfl hcall Ze ?_; rintro _ h4 H4 ⟨⟨c4, hc4, rfl⟩, rfl⟩ hle4; have hk4 := hc4; obtain ⟨k8, a8, v8, A8, m8, q8, B8, p8, r8, rfl⟩ := hc4.shp) | (refine G.atApp ?_; refine G.append1 rfl rfl (tyy rfl) (tyy rfl) rfl rfl Za Za rfl rfl rfl Zo ?_; intro _; refine G.rowForm Take.hd ?_; rintro _ _ rfl) | (refine G.atCode ?_; first | refine G.seq ?_ | refine G.region ?_ | refine G.block ?_ | refine G.skip ?_ | refine G.anyIn mixedOk ?_ | (refine G.cond rfl ?_ ?_ <;> intro hc <;> (try simp only [tests, reduceCtorEq] at hc) <;> (try exact Zf))) | refine G.endOps ?_ | refine G.endHeld ?_ | refine G.back ?_ | refine G.endBlk ?_ | (refine G.atAny ?_; first | refine G.anyAutoX slB rfl rfl Zw Zg Zd ?_ | refine G.anyOne rfl Zw Zg Zu ?_ | refine G.anyEndX Zw ?_) | (refine G.atBin ?_; first | (refine G.atAdd ?_; first | refine G.arith rfl rfl rfl rfl rfl Zi ?_) | refine G.op rfl rfl ?_) | refine G.op rfl rfl ?_ | (refine G.atLoad ?_; first | refine G.loadOwn1 rfl (tyy rfl) rfl rfl Za rfl rfl ?_ | refine G.loadImmA rfl (tyy rfl) rfl rfl Zp Zp rfl ?_) | (refine G.atFld ?_; first | refine G.fieldAddr rfl (tyy rfl) rfl rfl ?_) | (refine G.atSto ?_; refine G.storeOwn rfl rfl (tyy rfl) Za rfl rfl rfl rfl ?_) | (refine G.atBsl ?_; refine G.buildSlice (tyy rfl) (tyy rfl) rfl rfl rfl rfl ?_; intro _))
      all_goals first | (exfalso; omega) | skip
      rename_i A' c'
      refine G.again ⟨i + 1, rws ++ [[.int .i64 k8, str a8, str v8, .slice A8 m8 q8, .slice B8 p8 r8]], A', c'⟩ ⟨sint (by simp), rfl, rfl, rfl, rfl, trivial⟩ Zu ⟨by simp only; omega, by simp [hil], ?_⟩ (by solve | repeat first | assumption | exact Zr _ | refine Zq ?_ Zp) (by simp only; omega)
      simp only
      rw [List.take_succ_eq_append_getElem hlt, (List.getElem?_eq_some_iff.1 hf).2]
      exact (hik.mono' (by solve | repeat first | assumption | exact Zr _ | refine Zq ?_ Zp)).append (FlsC.one hk4)
    . obtain rfl : i = ks.length := by omega
      rw [List.take_of_length_le (Nat.le_refl _)] at hik
      repeat' (first | (refine G.atCode ?_; first | refine G.seq ?_ | refine G.region ?_ | refine G.exit rfl ?_ | refine G.ret ?_ | (refine G.cond rfl ?_ ?_ <;> intro hc <;> (try simp only [tests, reduceCtorEq] at hc) <;> (try exact Zf))) | refine G.endOps ?_ | (refine G.atBin ?_; first | refine G.op rfl rfl ?_) | (refine G.atLoad ?_; first | refine G.loadOwnA rfl (tyy rfl) rfl rfl Za rfl rfl ?_) | (refine G.atSto ?_; refine G.storeOwn rfl rfl (tyy rfl) Za rfl rfl rfl rfl ?_))
      all_goals first | (exfalso; omega) | skip
      refine G.freezeRow (v := .slice A1 rws.length c1) Za ?_
      intro h9 hle9 hs9
      refine G.freezeRow (v := .slice AP ([] ++ pcsR ps).length cP) Za ?_
      intro h8 hle8 hs8
      exact G.done (rs := [.cell 2 45]) rfl (.cellA rfl (tyy rfl) rfl rfl Za rfl .nil) rfl [] (SubH.nil _) ⟨⟨_, FlC.mk_ hs8 (hs9.mono hle8) (hik.mono' (Heap.le_trans hle9 hle8)), rfl⟩, rfl⟩
end Go.Proofs.YtibkffoeioidlaaDoor
namespace Go.Proofs.YtibkffoeioidlaaDoor
set_option linter.all false
set_option maxRecDepth 4000
open Go.RowKit

theorem St.grow {c : Ctx} {h : Heap} {H : List Chunk} {w w' : World} (s : St c h H w) {os : Array Obj} (hh : w'.heap = w.heap ++ os) (ho : w'.os = w.os) (ht : w'.tape = w.tape) (hp : w'.output = w.output) : St c h H w' := by
  have hk : ∀ b, b < w.heap.size -> w'.heap[b]? = w.heap[b]? := fun b hb => by rw [hh, Array.getElem?_append_left hb]
  refine ⟨ho.trans s.os, ht.trans s.tape, hp.trans s.output, by rw [hh, Array.size_append]; have := s.size; omega, fun b hb hK => ?_, s.mono, fun b o hb => ?_, fun x hx => ?_, s.nodup, s.sep, s.ksub, s.isub⟩
  . rw [hk b (Nat.lt_of_lt_of_le hb s.size)]; exact s.fr b hb hK
  . rw [hk b (lt_of_get (s.imm b o hb))]; exact s.imm b o hb
  . exact Chunk.holds_congr (fun g hg => hk g (Chunk.holds_lt (s.own x hx) g hg)) (s.own x hx)
theorem St.below {h : Heap} {H : List Chunk} {w w' : World} (s : StI h H w) (b : Below w.heap.size w w') : St ⟨w, keys H, h⟩ h H w' := by
  have hk : ∀ x ∈ H, ∀ g, x.key = some g -> w'.heap[g]? = w.heap[g]? := fun x hx g hg => b.block g (Chunk.holds_lt (s.own x hx) g hg)
  exact ⟨b.os, b.tape, b.output, b.size, fun q hq _ => b.block q hq, Heap.le_refl h, fun q o ho => by
      have h1 := s.imm q o ho
      rw [b.block q (lt_of_get h1)]; exact h1, fun x hx => Chunk.holds_congr (hk x hx) (s.own x hx), s.nodup, s.sep, fun g hg => .inl hg, fun q o ho => .inl ⟨o, ho⟩⟩
end Go.Proofs.YtibkffoeioidlaaDoor
namespace Go.Proofs.YtibkffoeioidlaaDoor
set_option linter.all false
set_option maxRecDepth 4000
open Go.RowKit

def cutM (l : List UInt8) : Int × Int :=
  if l.length = 0 then (0, 0) else if byteAt l 0 ≠ 48 then (0, 4) else if l.length < 2 then (0, 0) else
  let k : Int := byteAt l 1
  if k < 128 then (if l.length < 2 + k then (0, 0) else (2 + k, 0))
  else if k = 128 \/ 132 < k then (0, 8)
  else if getOk l 2 (k - 128) = false then (0, 0)
  else if 1048576 < getV l 2 (k - 128) then (0, 5)
  else if (l.length : Int) < k - 126 + getV l 2 (k - 128) then (0, 0) else (k - 126 + getV l 2 (k - 128), 0)
end Go.Proofs.YtibkffoeioidlaaDoor
namespace Go.Proofs.YtibkffoeioidlaaDoor
set_option linter.all false
set_option maxRecDepth 4000
open Go.RowKit

def Msg (w : List UInt8) : Prop := 0 < w.length /\ ∀ t, cutM (w ++ t) = ((w.length : Int), 0)
theorem flatten_cons (w : List UInt8) (ws : List (List UInt8)) : (w :: ws).flatten = w ++ ws.flatten := rfl
end Go.Proofs.YtibkffoeioidlaaDoor
namespace Go.Proofs.YtibkffoeioidlaaDoor
set_option linter.all false
set_option maxRecDepth 4000
open Go.RowKit

def MsU (h : Heap) (m : Ms) (u : Value) : Prop := ∃ pv kv nv av mv cv, u = .agg (msR m pv kv nv av mv cv).toArray /\ MsV h m pv kv nv av mv cv
theorem MsU.mk_ {h : Heap} {m : Ms} {pv kv nv av mv cv : Value} (hV : MsV h m pv kv nv av mv cv) : MsU h m (.agg (msR m pv kv nv av mv cv).toArray) := ⟨pv, kv, nv, av, mv, cv, rfl, hV⟩
end Go.Proofs.YtibkffoeioidlaaDoor
namespace Go.Proofs.YtibkffoeioidlaaDoor
set_option linter.all false
set_option maxRecDepth 4000
open Go.RowKit

theorem callAwake11 : Callable Tryd.prog 26 := ⟨_, Tryd.func26, by kernel_rfl, rfl⟩
theorem RdR.ok_inv {m : Ms} {u : Value} {h' : Heap} (h : RdR (.ok m) u h') : ∃ pv kv nv av mv cv, u = .tuple #[.agg (msR m pv kv nv av mv cv).toArray, .int .i64 0] /\ MsV h' m pv kv nv av mv cv := by
  obtain ⟨m', pv, kv, nv, av, mv, cv, e, rfl, hV, ⟨rfl, h⟩ | ⟨_, h, _⟩⟩ := h
  . injection h with h
    subst h
    exact ⟨_, _, _, _, _, _, rfl, hV⟩
  . cases h
def awM : Ms := { zM with id := 7, op := 2 }
def awN : Ms := { zM with id := 1, op := 0, ver := 3 }
theorem aw1 : writeM awM = ([48, 5, 2, 1, 7, 66, 0], 0) := by kernel_rfl
theorem aw2 : writeM awN = ([48, 12, 2, 1, 1, 96, 7, 2, 1, 3, 4, 0, 128, 0], 0) := by kernel_rfl
theorem aw3 : readM [48, 5, 2, 1, 7, 66, 0] = .ok awM := by
  have h := write_read (m := awM) (by rw [aw1])
  rw [aw1] at h
  exact h
theorem awN_I : MsI awN := by
  constructor <;> first | (simp only [inR, awN, zM]; omega) | (intro x hx; cases hx)
set_option maxRecDepth 8000 in
set_option maxHeartbeats 2000000 in
theorem law11_awake (h : Heap) (hT : TabW h) : Spec Tryd.prog 26 [] h [] (fun u _ H' => u = .bool true /\ H' = []) := by
  have hR := fun h hT => wire_ReadP [48, 5, 2, 1, 7, 66, 0] (by decide) (fun op o rest h1 h2 => by
    have e := write_op (m := awM) (by rw [aw1]) (by rw [aw1]; exact h1) h2
    subst e
    exact wire_op2) h hT
  rw [aw3] at hR
  have hW := fun h hT => wire_Write awN awN_I (by decide) nilV nilV nilV nilV nilV nilV h hT (zV rfl rfl rfl rfl rfl)
  rw [aw2] at hW
  refine Spec.enter Tryd.func26 rfl rfl ?_; intro w0
  repeat' (first | (show G _ (.ops .seq _ (⟨some _, .call { callee := .value (.func 28), args := _, argTypes := _ }, _, _, _, none⟩ :: _) :: _) _ _ _; refine G.call callReadW rfl rfl (hR _ (hT.mono (by solve | repeat first | assumption | exact Zr _ | refine Zq ?_ Zp))) Ze ?_; rintro _ h2 H2 ⟨hr, rfl⟩ hle2; obtain ⟨pv, kv, nv, av, mv, cv, rfl, hV⟩ := hr.ok_inv; obtain ⟨⟨pA, pn, pc, rfl⟩, ⟨kA, kn, kc, rfl⟩, ⟨nA, nn, nc, rfl⟩, ⟨aA, an, ac, rfl⟩, ⟨mA, mn, mc, rfl⟩, ⟨cA, cn, cc, rfl⟩⟩ := hV.forms) | (show G _ (.ops .seq _ (⟨some _, .call { callee := .value (.func 24), args := _, argTypes := _ }, _, _, _, none⟩ :: _) :: _) _ _ _; refine G.call callWriteW rfl rfl (hW _ (hT.mono (by solve | repeat first | assumption | exact Zr _ | refine Zq ?_ Zp))) Ze ?_; rintro _ h3 H3 ⟨rfl, rfl⟩ hle3) | (refine G.atCode ?_; first | refine G.seq ?_ | refine G.region ?_ | refine G.ret ?_) | refine G.endOps ?_ | (refine G.atGd ?_; first | refine G.guardYes rfl rfl ?_) | (refine G.atBin ?_; first | (refine G.atEql ?_; first | refine G.op rfl rfl ?_ | refine G.eqStr rfl rfl rfl ?_)) | refine G.op rfl rfl ?_ | (refine G.atLoad ?_; first | refine G.loadOwn1 rfl (tyy rfl) rfl rfl Za rfl rfl ?_) | (refine G.atFld ?_; first | refine G.fieldAddr rfl (tyy rfl) rfl rfl ?_) | (refine G.atSto ?_; refine G.storeOwn rfl rfl (tyy rfl) Za rfl rfl rfl rfl ?_) | (refine G.atAlc ?_; refine G.alloc (tyy rfl) rfl rfl ?_; intro _) | (refine G.atBld ?_; refine G.build (tyy rfl) rfl rfl rfl ?_))
  all_goals first | (exfalso; omega) | (exfalso; simp_all; done) | exact G.done1 rfl rfl [] (SubH.nil _) ⟨by simp, rfl⟩ | skip
end Go.Proofs.YtibkffoeioidlaaDoor
