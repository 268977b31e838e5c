/- slices.Sort of texts, strings.Join with a text between, as contracts of the light walk; rows that are only read, cut short. -/
import Derived.Test.YtibkffoeioidlaaDoorLtY
import Derived.Test.YtibkffoeioidlaaDoorLtP
import Derived.Test.YtibkffoeioidlaaDoorTy
import Derived.Test.YtibkffoeioidlaaDoorLtA
import Derived.Test.YtibkffoeioidlaaDoorProg
import Derived.Ground.NamesProg
import Derived.Shelf.Sort.Plain
import Derived.Shelf.Strings.OnBuilder
import Derived.Shelf.Slices.In.SortNone
import Derived.Test.YtibkffoeioidlaaDoorWrX
import Derived.Test.YtibkffoeioidlaaDoorFlQ
import Derived.Test.YtibkffoeioidlaaDoorWrW
import Derived.Test.YtibkffoeioidlaaDoorWrO
import Derived.Test.YtibkffoeioidlaaDoorFeedBk
import Derived.Test.YtibkffoeioidlaaDoorWrJ
namespace Go.Proofs.YtibkffoeioidlaaDoor
set_option linter.all false
set_option maxRecDepth 4000
open Go.RowKit

theorem St.grow {c : Ctx} {h : Heap} {H : List Chunk} {w w' : World} (s : St c h H w) {os : Array Obj} (hh : w'.heap = w.heap ++ os) (ho : w'.os = w.os) (ht : w'.tape = w.tape) (hp : w'.output = w.output) : St c h H w' := by
  have hk : ∀ b, b < w.heap.size → w'.heap[b]? = w.heap[b]? := fun b hb => by rw [hh, Array.getElem?_append_left hb]
  refine ⟨ho.trans s.os, ht.trans s.tape, hp.trans s.output, by rw [hh, Array.size_append]; have := s.size; omega, fun b hb hK => ?_, s.mono, fun b o hb => ?_, fun x hx => ?_, s.nodup, s.sep, s.ksub, s.isub⟩
  · rw [hk b (Nat.lt_of_lt_of_le hb s.size)]; exact s.fr b hb hK
  · rw [hk b (lt_of_get (s.imm b o hb))]; exact s.imm b o hb
  · exact Chunk.holds_congr (fun g hg => hk g (Chunk.holds_lt (s.own x hx) g hg)) (s.own x hx)
theorem St.below {h : Heap} {H : List Chunk} {w w' : World} (s : StI h H w) (b : Below w.heap.size w w') : St ⟨w, keys H, h⟩ h H w' := by
  have hk : ∀ x ∈ H, ∀ g, x.key = some g → w'.heap[g]? = w.heap[g]? := fun x hx g hg => b.block g (Chunk.holds_lt (s.own x hx) g hg)
  exact ⟨b.os, b.tape, b.output, b.size, fun q hq _ => b.block q hq, Heap.le_refl h, fun q o ho => by
      have h1 := s.imm q o ho
      rw [b.block q (lt_of_get h1)]; exact h1, fun x hx => Chunk.holds_congr (hk x hx) (s.own x hx), s.nodup, s.sep, fun g hg => .inl hg, fun q o ho => .inl ⟨o, ho⟩⟩
end Go.Proofs.YtibkffoeioidlaaDoor
namespace Go.Proofs.YtibkffoeioidlaaDoor
set_option linter.all false
set_option maxRecDepth 4000
open Go.RowKit

def MsU (h : Heap) (m : Ms) (u : Value) : Prop := ∃ pv kv nv av mv cv, u = .agg (msR m pv kv nv av mv cv).toArray ∧ MsV h m pv kv nv av mv cv
theorem MsU.mk_ {h : Heap} {m : Ms} {pv kv nv av mv cv : Value} (hV : MsV h m pv kv nv av mv cv) : MsU h m (.agg (msR m pv kv nv av mv cv).toArray) := ⟨pv, kv, nv, av, mv, cv, rfl, hV⟩
theorem bare_take {l : List Ctl} {i : Nat} {c : Ctl} (h : l[i]? = some c) : ctlsR ((l.take (i + 1)).map bareC) = ctlsR ((l.take i).map bareC) ++ [ctlR (bareC c)] := by
  rw [take_get h]; simp [ctlsR]
end Go.Proofs.YtibkffoeioidlaaDoor
namespace Go.Proofs.YtibkffoeioidlaaDoor
set_option linter.all false
set_option maxRecDepth 4000
open Go.RowKit

theorem callAwake11 : Callable Tryd.prog 26 := ⟨_, Tryd.func26, by kernel_rfl, rfl⟩
theorem RdR.ok_inv {m : Ms} {u : Value} {h' : Heap} (h : RdR (.ok m) u h') : ∃ pv kv nv av mv cv, u = .tuple #[.agg (msR m pv kv nv av mv cv).toArray, .int .i64 0] ∧ MsV h' m pv kv nv av mv cv := by
  obtain ⟨m', pv, kv, nv, av, mv, cv, e, rfl, hV, ⟨rfl, h⟩ | ⟨_, h, _⟩⟩ := h
  · injection h with h
    subst h
    exact ⟨_, _, _, _, _, _, rfl, hV⟩
  · cases h
theorem RdR.err_inv {x : Int} {u : Value} {h' : Heap} (h : RdR (.error x) u h') : x ≠ 0 ∧ ∃ pv kv nv av mv cv, u = .tuple #[.agg (msR zM pv kv nv av mv cv).toArray, .int .i64 x] ∧ MsV h' zM pv kv nv av mv cv := by
  obtain ⟨m', pv, kv, nv, av, mv, cv, e, rfl, hV, ⟨rfl, h⟩ | ⟨he, h, rfl⟩⟩ := h
  · cases h
  · injection h with h
    subst h
    exact ⟨he, _, _, _, _, _, _, rfl, hV⟩
def awM : Ms := { zM with id := 7, op := 2 }
def awN : Ms := { zM with id := 1, op := 0, ver := 3 }
theorem aw1 : writeM awM = ([48, 5, 2, 1, 7, 66, 0], 0) := by kernel_rfl
theorem aw2 : writeM awN = ([48, 12, 2, 1, 1, 96, 7, 2, 1, 3, 4, 0, 128, 0], 0) := by kernel_rfl
theorem aw3 : readM [48, 5, 2, 1, 7, 66, 0] = .ok awM := by
  have h := write_read (m := awM) (by rw [aw1])
  rw [aw1] at h
  exact h
theorem awN_I : MsI awN := by
  constructor <;> first | (simp only [inR, awN, zM]; omega) | (intro x hx; cases hx)
set_option maxRecDepth 8000 in
set_option maxHeartbeats 2000000 in
theorem law11_awake (h : Heap) (hT : TabW h) : Spec Tryd.prog 26 [] h [] (fun u _ H' => u = .bool true ∧ H' = []) := by
  have hR := fun h hT => wire_Read [48, 5, 2, 1, 7, 66, 0] (by decide) h hT
  rw [aw3] at hR
  have hW := fun h hT => wire_Write awN awN_I (by decide) nilV nilV nilV nilV nilV nilV h hT (zV rfl rfl rfl rfl rfl)
  rw [aw2] at hW
  refine Spec.enter Tryd.func26 rfl rfl ?_; intro w0
  repeat' (first | (show G _ (.ops .seq _ (⟨some _, .call { callee := .value (.func 28), args := _, argTypes := _ }, _, _, _, none⟩ :: _) :: _) _ _ _; refine G.call callReadW rfl rfl (hR _ (hT.mono (by solve | (repeat (first | assumption | exact Heap.le_refl _ | (refine Heap.le_trans ?_ (by assumption))))))) (by solve | (repeat (first | apply Takes.nil | apply Take.hd | apply Take.tl | apply Takes.cons))) ?_; rintro _ h2 H2 ⟨hr, rfl⟩ hle2; obtain ⟨pv, kv, nv, av, mv, cv, rfl, hV⟩ := hr.ok_inv; obtain ⟨⟨pA, pn, pc, rfl⟩, ⟨kA, kn, kc, rfl⟩, ⟨nA, nn, nc, rfl⟩, ⟨aA, an, ac, rfl⟩, ⟨mA, mn, mc, rfl⟩, ⟨cA, cn, cc, rfl⟩⟩ := hV.forms) | (show G _ (.ops .seq _ (⟨some _, .call { callee := .value (.func 24), args := _, argTypes := _ }, _, _, _, none⟩ :: _) :: _) _ _ _; refine G.call callWriteW rfl rfl (hW _ (hT.mono (by solve | (repeat (first | assumption | exact Heap.le_refl _ | (refine Heap.le_trans ?_ (by assumption))))))) (by solve | (repeat (first | apply Takes.nil | apply Take.hd | apply Take.tl | apply Takes.cons))) ?_; rintro _ h3 H3 ⟨rfl, rfl⟩ hle3) | (refine G.atCode ?_; first | refine G.seq ?_ | refine G.region ?_ | refine G.ret ?_) | refine G.endOps ?_ | (refine G.atGd ?_; first | refine G.guardYes rfl rfl ?_) | (refine G.atBin ?_; first | (refine G.atEql ?_; first | refine G.op rfl rfl ?_ | refine G.eqStr rfl rfl rfl ?_)) | refine G.op rfl rfl ?_ | (refine G.atLoad ?_; first | refine G.loadOwn1 rfl (tyy rfl) rfl rfl (by solve | (repeat (first | apply Take.hd | apply Take.tl))) rfl rfl ?_) | (refine G.atFld ?_; first | refine G.fieldAddr rfl (tyy rfl) rfl rfl ?_) | (refine G.atSto ?_; refine G.storeOwn rfl rfl (tyy rfl) (by solve | (repeat (first | apply Take.hd | apply Take.tl))) rfl rfl rfl rfl ?_) | (refine G.atAlc ?_; refine G.alloc (tyy rfl) rfl rfl ?_; intro _) | (refine G.atBld ?_; refine G.build (tyy rfl) rfl rfl rfl ?_))
  all_goals first | (exfalso; omega) | (exfalso; simp_all; done) | exact G.done1 rfl rfl [] (SubH.nil _) ⟨by simp, rfl⟩ | skip
-- A MESSAGE'S BEGINNING
end Go.Proofs.YtibkffoeioidlaaDoor
namespace Go.Proofs.YtibkffoeioidlaaDoor
set_option linter.all false
set_option maxRecDepth 4000
open Go.RowKit

theorem write_len {m : Ms} (h : (writeM m).2 = 0) : 2 ≤ (writeM m).1.length ∧ (writeM m).1.length ≤ 1048581 ∧ Msg (writeM m).1 := by
  obtain ⟨_, _, _, h4, h5⟩ := write_ok h
  rw [h5]
  have hp := putM_pos h4
  unfold nodeM sqN at h4 hp ⊢
  refine ⟨hp, ?_, msg_put h4⟩
  obtain ⟨_, _, _, _, _, _, _, h8, h9⟩ := putM_ok h4
  rw [h9, List.length_append]
  have := headB_len 48 (([] : Bs) ++ (putsM (1 + 1) (numN 2 m.id :: elemM m :: (if m.ctls.length = 0 then [] else [.mk 160 [] (m.ctls.map ctlN)]))).1).length
  omega
end Go.Proofs.YtibkffoeioidlaaDoor
namespace Go.Proofs.YtibkffoeioidlaaDoor
set_option linter.all false
set_option maxRecDepth 4000
open Go.RowKit

theorem callBareW : Callable Tryd.prog 34 := ⟨_, Tryd.func34, by kernel_rfl, rfl⟩
theorem callBareR : Callable Tryd.prog 67 := ⟨_, Tryd.func67, by kernel_rfl, rfl⟩
theorem callBareV : Callable Tryd.prog 68 := ⟨_, Tryd.func68, by kernel_rfl, rfl⟩
set_option maxRecDepth 8000 in
set_option maxHeartbeats 4000000 in
theorem bare_result (g1 g3 : Nat) (m o : Ms) (a1 a2 a3 a4 a5 a6 b1 b2 b3 b4 b5 b6 : Value) (h : Heap) :
    Spec Tryd.prog 67 [.pointer (some ⟨g1, 0, none⟩), .pointer (some ⟨g3, 0, none⟩)] h [.blk g1 (msR m a1 a2 a3 a4 a5 a6) 51, .blk g3 (msR o b1 b2 b3 b4 b5 b6) 51]
      (fun u _ H' => u = .tuple #[] ∧ H' = [.blk g1 (msR m a1 a2 a3 a4 a5 a6) 51, .blk g3 (msR { o with code := m.code, matched := m.matched, text := m.text } b1 b2 b3 b4 b5 b6) 51]) := by
  refine Spec.enter Tryd.func67 rfl rfl ?_; intro w0
  repeat' (first | (refine G.atAny ?_; first | refine G.anyHold 12 slB rfl (H1 := [.blk g1 (msR m a1 a2 a3 a4 a5 a6) 51]) rfl (by decide +kernel) (by first | apply Heap.none_le | apply Heap.le_refl | assumption | (refine Heap.le_trans ?_ (by assumption); assumption)) (by solve | (apply Takes.sub; (repeat (first | apply Takes.nil | apply Take.hd | apply Take.tl | apply Takes.cons)))) ?_ | refine G.anyOne rfl (by decide +kernel) (by first | apply Heap.none_le | apply Heap.le_refl | assumption | (refine Heap.le_trans ?_ (by assumption); assumption)) (by solve | (apply Takes.sub; (repeat (first | apply Takes.nil | apply Take.hd | apply Take.tl | apply Takes.cons)))) ?_ | refine G.anyEndX (by decide +kernel) ?_) | (refine G.atCode ?_; first | refine G.anyIn mixedOk ?_) | refine G.endOps ?_ | refine G.endHeld ?_ | refine G.back ?_ | (refine G.atLoad ?_; first | refine G.loadOwn1 rfl (tyy rfl) rfl rfl (by solve | (repeat (first | apply Take.hd | apply Take.tl))) rfl rfl ?_) | (refine G.atFld ?_; first | refine G.fieldAddr rfl (tyy rfl) rfl rfl ?_) | (refine G.atSto ?_; refine G.storeOwn rfl rfl (tyy rfl) (by solve | (repeat (first | apply Take.hd | apply Take.tl))) rfl rfl rfl rfl ?_))
  all_goals exact G.done (rs := []) rfl .nil rfl _ (by solve | (apply Takes.sub; (repeat (first | apply Takes.nil | apply Take.hd | apply Take.tl | apply Takes.cons)))) ⟨rfl, rfl⟩
theorem bare_value (g1 g3 : Nat) (m o : Ms) (a1 a2 a3 a4 a5 a6 b1 b2 b3 b4 b5 b6 : Value) (h : Heap) :
    Spec Tryd.prog 68 [.pointer (some ⟨g1, 0, none⟩), .pointer (some ⟨g3, 0, none⟩)] h [.blk g1 (msR m a1 a2 a3 a4 a5 a6) 51, .blk g3 (msR o b1 b2 b3 b4 b5 b6) 51]
      (fun u _ H' => u = .tuple #[] ∧ H' = [.blk g1 (msR m a1 a2 a3 a4 a5 a6) 51, .blk g3 (msR { o with has := m.has, value := if m.has = true then m.value else o.value } b1 b2 b3 b4 b5 b6) 51]) := by
  obtain ⟨id, op, dn, ver, sasl, mech, text, scope, deref, size, time, types, fl, names, attrs, mods, rdn, delOld, hasSup, sup, attr, target, oid, has, value, code, matched, ctls⟩ := m
  cases has
  · refine Spec.enter Tryd.func68 rfl rfl ?_; intro w0
    repeat' (first | (refine G.atCode ?_; first | refine G.seq ?_ | refine G.region ?_ | refine G.skip ?_ | (refine G.cond rfl ?_ ?_ <;> intro hc <;> (try simp only [tests, reduceCtorEq] at hc) <;> (try (exfalso; first | omega | exact absurd hc (by with_reducible assumption) | exact absurd (by with_reducible assumption) hc | exact Bool.noConfusion hc | exact hc | exact hc trivial | fail)))) | refine G.endOps ?_ | (refine G.atLoad ?_; first | refine G.loadOwn1 rfl (tyy rfl) rfl rfl (by solve | (repeat (first | apply Take.hd | apply Take.tl))) rfl rfl ?_) | (refine G.atFld ?_; first | refine G.fieldAddr rfl (tyy rfl) rfl rfl ?_) | (refine G.atSto ?_; refine G.storeOwn rfl rfl (tyy rfl) (by solve | (repeat (first | apply Take.hd | apply Take.tl))) rfl rfl rfl rfl ?_))
    all_goals first | (exfalso; simp_all; done) | exact G.done (rs := []) rfl .nil rfl [_, _] (by solve | (apply Takes.sub; (repeat (first | apply Takes.nil | apply Take.hd | apply Take.tl | apply Takes.cons)))) ⟨rfl, rfl⟩
  · refine Spec.enter Tryd.func68 rfl rfl ?_; intro w0
    repeat' (first | (refine G.atCode ?_; first | refine G.seq ?_ | refine G.region ?_ | (refine G.cond rfl ?_ ?_ <;> intro hc <;> (try simp only [tests, reduceCtorEq] at hc) <;> (try (exfalso; first | omega | exact absurd hc (by with_reducible assumption) | exact absurd (by with_reducible assumption) hc | exact Bool.noConfusion hc | exact hc | exact hc trivial | fail)))) | refine G.endOps ?_ | (refine G.atLoad ?_; first | refine G.loadOwn1 rfl (tyy rfl) rfl rfl (by solve | (repeat (first | apply Take.hd | apply Take.tl))) rfl rfl ?_) | (refine G.atFld ?_; first | refine G.fieldAddr rfl (tyy rfl) rfl rfl ?_) | (refine G.atSto ?_; refine G.storeOwn rfl rfl (tyy rfl) (by solve | (repeat (first | apply Take.hd | apply Take.tl))) rfl rfl rfl rfl ?_))
    all_goals first | (exfalso; simp_all; done) | exact G.done (rs := []) rfl .nil rfl [_, _] (by solve | (apply Takes.sub; (repeat (first | apply Takes.nil | apply Take.hd | apply Take.tl | apply Takes.cons)))) ⟨rfl, rfl⟩
end Go.Proofs.YtibkffoeioidlaaDoor
