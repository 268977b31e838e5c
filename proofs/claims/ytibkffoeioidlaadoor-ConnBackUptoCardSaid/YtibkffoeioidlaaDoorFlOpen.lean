/- Rules of the light walk: more for drawn regions. -/
import Derived.Test.YtibkffoeioidlaaDoorLtQ
import Derived.Test.YtibkffoeioidlaaDoorOcA
import Derived.Test.YtibkffoeioidlaaDoorWrC
import Derived.Test.YtibkffoeioidlaaDoorLtL
import Derived.Test.YtibkffoeioidlaaDoorNd
import Derived.ProofKit
import Derived.OpenShut
import Derived.SliceStrings
import Derived.ShutString
import Derived.Test.YtibkffoeioidlaaDoorRows
import Derived.LaidMore
import Derived.Stop.Joined
import Derived.ChangeArms
import Derived.Deep.Strs
import Derived.Test.YtibkffoeioidlaaDoorFlO
namespace Go.Proofs.YtibkffoeioidlaaDoor
set_option linter.all false
set_option maxRecDepth 4000
open Go.RowKit

theorem G.anyKeep {E : Env} {k : List It} {f : Fr} {h : Heap} {H : List Chunk} (sl : Nat -> Bool) {l0 : List Oper} {h0 : Heap} {H0 : List Chunk} {done done' idx : List Nat} {o : Oper} {l : List Oper} (hx : autoGo sl l0 0 done = some (o :: l, idx, done'))
    (hs : (Region.noSelect l0.toArray && takeOkC l0.toArray (l0.length - done.length) done idx) = true) (hh : Heap.le h0 h) (hs1 : SubH H0 H)
    (g : G E (.ops (.held h H0) l0.toArray (o :: l) :: .back h H :: .any h H0 l0.toArray done' :: k) f h H0) : G E (.any h0 H0 l0.toArray done :: k) f h H := by
  obtain ⟨p1, p2⟩ := autoGo_spec (l0 := l0) l0 0 done _ _ _ hx (fun j => by simp)
  exact G.anyTake p1 p2 hs hh (SubH.rfl_ _) hs1 g

def noMem : Op -> Bool
  | .load _ _ | .indexAddr _ _ _ | .index _ _ _ => false
  | _ => true
def autoGo2 (sl : Nat -> Bool) : List Oper -> Nat -> List Nat -> Option (List Oper × List Nat × List Nat)
  | [], _, done => some ([], [], done)
  | o :: r, i, done => bif pureOp sl o.op && noMem o.op && !inL i done && edgesIn done o.after.toList then (match autoGo2 sl r (i + 1) (i :: done) with
      | some (l, idx, d) => some (o :: l, i :: idx, d)
      | none => none) else autoGo2 sl r (i + 1) done
theorem autoGo2_spec {sl : Nat -> Bool} {l0 : List Oper} : ∀ (r : List Oper) (i : Nat) (done : List Nat) (l : List Oper) (idx d : List Nat), autoGo2 sl r i done = some (l, idx, d) -> (∀ j, r[j]? = l0[i + j]?) →
    idx.mapM (fun i => l0[i]?) = some l /\ d = idx.reverse ++ done
  | [], i, done, l, idx, d, h, _ => by
    simp only [autoGo2, Option.some.injEq, Prod.mk.injEq] at h
    obtain ⟨rfl, rfl, rfl⟩ := h
    simp
  | o :: r, i, done, l, idx, d, h, hr => by
    have hr' : ∀ j, r[j]? = l0[i + 1 + j]? := fun j => by rw [show i + 1 + j = i + (j + 1) by omega, ← hr (j + 1)]; simp
    have h0 : l0[i]? = some o := by rw [<- Nat.add_zero i, ← hr 0]; rfl
    simp only [autoGo2] at h
    cases hc : (pureOp sl o.op && noMem o.op && !inL i done && edgesIn done o.after.toList) with
    | true =>
      rw [hc] at h
      simp only [cond_true] at h
      split at h
      . rename_i l1 idx1 d1 h1
        simp only [Option.some.injEq, Prod.mk.injEq] at h
        obtain ⟨rfl, rfl, rfl⟩ := h
        obtain ⟨q1, q2⟩ := autoGo2_spec r (i + 1) (i :: done) _ _ _ h1 hr'
        refine ⟨?_, ?_⟩
        . simp [List.mapM_cons, h0, q1]
        . rw [q2]; simp
      . cases h
    | false =>
      rw [hc] at h
      simp only [cond_false] at h
      exact autoGo2_spec r (i + 1) done _ _ _ h hr'
theorem G.anyPure {E : Env} {k : List It} {f : Fr} {h : Heap} {H : List Chunk} (sl : Nat -> Bool) {l0 : List Oper} {h0 : Heap} {done done' idx : List Nat} {o : Oper} {l : List Oper} (hx : autoGo2 sl l0 0 done = some (o :: l, idx, done'))
    (hs : (Region.noSelect l0.toArray && takeOkC l0.toArray (l0.length - done.length) done idx) = true) (hh : Heap.le h0 h)
    (g : G E (.ops (.held h []) l0.toArray (o :: l) :: .back h H :: .any h [] l0.toArray done' :: k) f h []) : G E (.any h0 [] l0.toArray done :: k) f h H := by
  obtain ⟨p1, p2⟩ := autoGo2_spec (l0 := l0) l0 0 done _ _ _ hx (fun j => by simp)
  exact G.anyTake p1 p2 hs hh (SubH.nil _) (SubH.nil _) g
theorem G.callT {E : Env} {k : List It} {f : Fr} {h : Heap} {H : List Chunk} {all : Array Oper} {rest : List Oper} {d : Nat} {ty : TypeId} {pos : String} {aft : Array Edge} {g : FuncId} {xs : List Operand} {ts : Array TypeId} {vs : List Value} {H1 H2 : List Chunk} {R : Value -> Heap -> List Chunk -> Prop}
    (hc : Callable E.P g) (hx : evs f xs = some vs) (hd : Nat.blt d E.n = true) (hH : Takes H1 H H2) (sp : Spec E.P g vs h H1 R)
    (next : ∀ v h' H', R v h' H' -> Heap.le h h' -> G E (.ops .seq all rest :: k) ((d, v) :: f) h' (H' ++ H2)) :
    G E (.ops .seq all (⟨some d, .call { callee := .value (.func g), args := xs.toArray, argTypes := ts }, ty, pos, aft, none⟩ :: rest) :: k) f h H := G.call hc hx hd sp hH next
end Go.Proofs.YtibkffoeioidlaaDoor
namespace Go.Proofs.YtibkffoeioidlaaDoor
set_option linter.all false
set_option maxRecDepth 4000
open Go.RowKit
section
variable {E : Env} {k : List It} {f : Fr} {h : Heap} {H : List Chunk} {st : Md} [hmd : OkMd st h H] {all : Array Oper} {rest : List Oper} {d : Nat} {ty : TypeId} {pos : String} {aft : Array Edge}
theorem part_agg {P : Program} {t : TypeId} {td : TD} {sz by_ : Nat} {z : Value} (ht : Ty P t td sz by_ z) (ha : td.isAgg = true) (hk : td.known = true) {cs r : List Value} {i : Nat} (hr : partL cs i sz = some r) (w : World) : (part t cs.toArray i).run P w = .ok (.agg r.toArray) w := by
  obtain ⟨h1, h2⟩ := partL_eq _ _ _ _ hr
  have e : (cs.drop i).take sz = r := by
    apply List.ext_getElem?
    intro j
    by_cases hj : j < sz
    . rw [List.getElem?_take_of_lt hj, List.getElem?_drop, h2 j hj]
    . rw [List.getElem?_eq_none (by rw [List.length_take]; omega), List.getElem?_eq_none (by rw [h1]; omega)]
  simp [part, run_isAgg' ht hk, ha, run_sizeOf' ht, e]
theorem G.idxArrA {t e : TypeId} {x y : Operand} {td : TD} {kd : IntKind} {i : Int} {m n sz by_ sz1 by1 : Nat} {z z1 : Value} {cs r : List Value} (hx : ev f x = some (.agg cs.toArray)) (hy : ev f y = some (.int kd i)) (ht : Ty E.P t (.array n e) sz1 by1 z1)
    (he : Ty E.P e td sz by_ z) (ha : td.isAgg = true) (hk : td.known = true) (hm : i.toNat = m) (hc : partL cs (m * sz) sz = some r) (hd : Nat.blt d E.n = true) (hb : 0 <= i /\ i < n)
    (g : G E (.ops st all rest :: k) ((d, .agg r.toArray) :: f) h H) :
    G E (.ops st all (⟨some d, .index t x y, ty, pos, aft, none⟩ :: rest) :: k) f h H := by
  subst hm
  refine G.opVal hd (fun _ a w hfa _ => ?_) g
  have := ht.fits
  simp only [TD.fits] at this
  simp only [execOp, Instr.index, asIntOf, ev_eq hfa hx, ev_eq hfa hy, Sem.run_bind, Sem.run_pure, Result.andThen_ok, underlying, run_program, this, if_pos hb, run_sizeOf' he, part_agg he ha hk hc]
theorem G.fieldV {s : TypeId} {x : Operand} {fs : List (Nat × Nat × Nat)} {sz by_ i ft off fby : Nat} {z fz v : Value} {td : TD} {cs : List Value} (hx : ev f x = some (.agg cs.toArray)) (ht : Ty E.P s (.struct fs) sz by_ z)
    (hi : nthF fs i = some (ft, off, 1)) (hf : Ty E.P ft td 1 fby fz) (ha : td.isAgg = false) (hk : td.known = true) (hv : nthV cs off = some v) (hd : Nat.blt d E.n = true) (n : G E (.ops st all rest :: k) ((d, v) :: f) h H) :
    G E (.ops st all (⟨some d, .field s x i, ty, pos, aft, none⟩ :: rest) :: k) f h H := by
  refine G.opVal hd (fun _ a w hfa hw => ?_) n
  have := ht.fits
  simp only [TD.fits] at this
  obtain ⟨fields, h1, h2⟩ := structOf_some this
  rw [nthF_eq] at hi
  rw [nthV_eq] at hv
  have h3 := congrArg (fun l => l[i]?) h2
  simp only [List.getElem?_map, Array.getElem?_toList, hi, Option.map_some] at h3
  cases hfl : fields[i]? with
  | none => rw [hfl] at h3; cases h3
  | some fl =>
    rw [hfl] at h3
    simp only [Option.map_some, Option.some.injEq, Prod.mk.injEq] at h3
    obtain ⟨e1, e2, e3⟩ := h3
    subst e1
    subst e2
    have hp := part_flat hf ha hk hv w
    simp [execOp, Instr.field, asAgg, ev_eq hfa hx, underlying, h1, hfl, hp]
end
theorem G.stopB {E : Env} {k : List It} {f : Fr} {h : Heap} {H : List Chunk} (id : Nat) {b : Code} (g : G E (.stop (.block id b) :: k) f h H) : G E (.code (.block id b) :: k) f h H := ⟨fun a w ha hw => g.run a w ha hw⟩
structure Hold (p : Prop) : Prop where
  out : p
end Go.Proofs.YtibkffoeioidlaaDoor
namespace Go.Proofs.YtibkffoeioidlaaDoor
set_option linter.all false
set_option maxRecDepth 4000
open Go.RowKit
theorem G.blkRow {E : Env} {ks : List It} {f : Fr} {h : Heap} {H Hr : List Chunk} {g n : Nat} {cs : List Value} {e : TypeId} (sz : Nat) (rows : List (List Value)) (t : Take (.blk g cs e) H Hr) (hr : rows.flatten = cs) (hw : Rowed sz rows) (hn : n = rows.length) (hm : n <= maxLen)
    (next : G E ks f h (.row (.slice (some ⟨g, 0, none⟩) n n) e sz rows :: Hr)) : G E ks f h H :=
  ⟨fun ac w hac hw' => next.run ac w hac (hw'.swapRow t hr hw hn hm)⟩
end Go.Proofs.YtibkffoeioidlaaDoor
namespace Go.Proofs.YtibkffoeioidlaaDoor
set_option linter.all false
set_option maxRecDepth 4000
open Go.RowKit
def formsC : List Value := formsL.flatMap fun p => [.int .i64 p.1, .int .i64 p.2]
def TabW (h : Heap) : Prop := HCells h ⟨0, 0, none⟩ formsC
theorem TabW.mono {h h' : Heap} (t : TabW h) (hl : Heap.le h h') : TabW h' := HCells.mono t hl
theorem formsC_len : formsC.length = 38 := rfl
theorem forms_at : ∀ i : Nat, i < 19 -> ∃ a b : Int, formsL[i]? = some (a, b) /\ partL formsC (i * 2) 2 = some [.int .i64 a, .int .i64 b]
  | 0, _ | 1, _ | 2, _ | 3, _ | 4, _ | 5, _ | 6, _ | 7, _ | 8, _ | 9, _ | 10, _ | 11, _ | 12, _ | 13, _ | 14, _ | 15, _ | 16, _ | 17, _ | 18, _ => ⟨_, _, rfl, rfl⟩
  | n + 19, h => by omega
theorem callTagW : Callable Tryd.prog 43 := ⟨_, Tryd.func43, by kernel_rfl, rfl⟩
theorem callTagR : Callable Tryd.prog 50 := ⟨_, Tryd.func50, by kernel_rfl, rfl⟩
theorem callInW : Callable Tryd.prog 42 := ⟨_, Tryd.func42, by kernel_rfl, rfl⟩
theorem forms_tag : ∀ p ∈ formsL, tagM p.1 = p.2 := by decide
theorem forms_all {op : Int} (h : tagM op ≠ 0) : ∃ i, i < 19 /\ ∃ b, formsL[i]? = some (op, b) := by
  unfold tagM at h
  have h1 : op = 0 \/ op = 1 \/ op = 2 \/ op = 3 \/ op = 4 \/ op = 5 \/ op = 6 \/ op = 7 \/ op = 8 \/ op = 9 \/ op = 10 \/ op = 11 \/ op = 12 \/ op = 13 \/ op = 14 \/ op = 15 \/ op = 16 \/ op = 23 \/ op = 24 := by
    split at h
    . omega
    split at h
    . omega
    split at h
    . omega
    split at h
    . omega
    . exact absurd rfl h
  rcases h1 with rfl | rfl | rfl | rfl | rfl | rfl | rfl | rfl | rfl | rfl | rfl | rfl | rfl | rfl | rfl | rfl | rfl | rfl | rfl
  . exact ⟨0, by omega, _, rfl⟩
  . exact ⟨1, by omega, _, rfl⟩
  . exact ⟨2, by omega, _, rfl⟩
  . exact ⟨3, by omega, _, rfl⟩
  . exact ⟨4, by omega, _, rfl⟩
  . exact ⟨5, by omega, _, rfl⟩
  . exact ⟨6, by omega, _, rfl⟩
  . exact ⟨7, by omega, _, rfl⟩
  . exact ⟨8, by omega, _, rfl⟩
  . exact ⟨9, by omega, _, rfl⟩
  . exact ⟨10, by omega, _, rfl⟩
  . exact ⟨11, by omega, _, rfl⟩
  . exact ⟨12, by omega, _, rfl⟩
  . exact ⟨13, by omega, _, rfl⟩
  . exact ⟨14, by omega, _, rfl⟩
  . exact ⟨15, by omega, _, rfl⟩
  . exact ⟨16, by omega, _, rfl⟩
  . exact ⟨17, by omega, _, rfl⟩
  . exact ⟨18, by omega, _, rfl⟩
theorem wire_in (n lo hi : Int) (h : Heap) : Spec Tryd.prog 42 [.int .i64 n, .int .i64 lo, .int .i64 hi] h [] (fun u _ H' => u = .bool (inM n lo hi) /\ H' = []) := by
  unfold inM
  refine Spec.enter Tryd.func42 rfl rfl ?_; intro w0
  repeat' (first | (refine G.atCode ?_; first | refine G.seq ?_ | refine G.region ?_ | refine G.ret ?_) | refine G.endOps ?_ | (refine G.atGd ?_; first | refine G.guardYes rfl rfl ?_ | refine G.guardNoS rfl rfl rfl ?_ | (refine G.guardS rfl rfl rfl ?_ ?_ <;> intro hc <;> (try simp only [tests, reduceCtorEq] at hc) <;> (try exact Zf))) | (refine G.atBin ?_; first | refine G.op rfl rfl ?_) | refine G.op rfl rfl ?_)
  all_goals exact G.done1 rfl rfl [] (SubH.nil _) ⟨(by first | exact congrArg Value.bool (decide_eq_decide.2 (by omega)) | exact congrArg Value.bool (decide_eq_true (by omega)).symm | exact congrArg Value.bool (decide_eq_false (by omega)).symm), rfl⟩
set_option maxHeartbeats 1000000 in
theorem wire_tag (op : Int) (h : Heap) (hT : TabW h) : Spec Tryd.prog 43 [.int .i64 op] h [] (fun u _ H' => u = .int .i64 (tagM op) /\ H' = []) := by
  refine Spec.enter Tryd.func43 rfl rfl ?_; intro w0
  repeat' (first | (refine G.atLoad ?_; refine G.loadImmA rfl (tyy rfl) rfl rfl hT formsC_len rfl ?_) | (refine G.atCode ?_; refine G.stopLoop ?_) | (refine G.atCode ?_; first | refine G.seq ?_ | refine G.region ?_ | refine G.block ?_) | refine G.endOps ?_ | refine G.op rfl rfl ?_)
  refine G.go ?_
  refine G.loop (σ := Nat) (fun i => [(6, .int .i64 i), (5, .agg formsC.toArray), (0, .int .i64 op)]) (fun _ => [])
    (fun i _ => i <= 19 /\ ∀ j, j < i -> ∀ a b, formsL[j]? = some (a, b) -> a ≠ op) (fun i => 19 - i) 0 ⟨rfl, rfl, rfl, trivial⟩ (SubH.nil _) ⟨by omega, fun j hj => absurd hj (by omega)⟩ ?_
  rintro i h1 hle1 ⟨hi, hno⟩
  by_cases hlt : i < 19
  . obtain ⟨a, b, hf, hp⟩ := forms_at i hlt
    have htg := forms_tag (a, b) (List.mem_of_getElem? hf)
    simp only at htg
    by_cases hop : a = op
    . subst hop
      rw [htg]
      repeat' (first | (refine G.idxArrA rfl rfl (tyy rfl) (tyy rfl) rfl rfl Zj hp rfl Zo ?_) | (refine G.atCode ?_; first | refine G.seq ?_ | refine G.region ?_ | refine G.block ?_ | refine G.skip ?_ | refine G.ret ?_ | (refine G.cond rfl ?_ ?_ <;> intro hc <;> (try simp only [tests, reduceCtorEq] at hc) <;> (try exact Zf))) | refine G.endOps ?_ | (refine G.atBin ?_; first | (refine G.atEql ?_; first | refine G.op rfl rfl ?_) | refine G.op rfl rfl ?_) | refine G.op rfl rfl ?_ | (refine G.atLoad ?_; first | refine G.loadOwn1 rfl (tyy rfl) rfl rfl Za rfl rfl ?_) | (refine G.atFld ?_; first | refine G.fieldAddr rfl (tyy rfl) rfl rfl ?_) | (refine G.atSto ?_; refine G.storeOwn rfl rfl (tyy rfl) Za rfl rfl rfl rfl ?_) | (refine G.atAlc ?_; refine G.alloc (tyy rfl) rfl rfl ?_; intro _))
      all_goals first | (exfalso; omega) | exact G.done1 rfl rfl [] (SubH.nil _) ⟨rfl, rfl⟩
    . repeat' (first | (refine G.idxArrA rfl rfl (tyy rfl) (tyy rfl) rfl rfl Zj hp rfl Zo ?_) | (refine G.atCode ?_; first | refine G.seq ?_ | refine G.region ?_ | refine G.block ?_ | refine G.skip ?_ | (refine G.cond rfl ?_ ?_ <;> intro hc <;> (try simp only [tests, reduceCtorEq] at hc) <;> (try exact Zf))) | refine G.endOps ?_ | refine G.endBlk ?_ | (refine G.atBin ?_; first | (refine G.atAdd ?_; first | refine G.arith rfl rfl rfl rfl rfl Zi ?_) | (refine G.atEql ?_; first | refine G.op rfl rfl ?_) | refine G.op rfl rfl ?_) | refine G.op rfl rfl ?_ | (refine G.atLoad ?_; first | refine G.loadOwn1 rfl (tyy rfl) rfl rfl Za rfl rfl ?_) | (refine G.atFld ?_; first | refine G.fieldAddr rfl (tyy rfl) rfl rfl ?_) | (refine G.atSto ?_; refine G.storeOwn rfl rfl (tyy rfl) Za rfl rfl rfl rfl ?_) | (refine G.atAlc ?_; refine G.alloc (tyy rfl) rfl rfl ?_; intro _))
      all_goals first | (exfalso; omega) | skip
      exact G.again (i + 1) ⟨sint (by omega), rfl, rfl, trivial⟩ (SubH.nil _) ⟨by omega, fun j hj a' b' hj' => if hji : j < i then hno j hji a' b' hj' else by
        obtain rfl : j = i := (by omega)
        rw [hf] at hj'
        injection hj' with e
        injection e with e1 _
        exact e1 ▸ hop⟩ (by solve | repeat first | assumption | exact Zr _ | refine Zq ?_ Zp) (by omega)
  . obtain rfl : i = 19 := by omega
    have h0 : tagM op = 0 := Classical.byContradiction fun h9 => by
      obtain ⟨j, hj, b, hb⟩ := forms_all h9
      exact hno j hj op b hb rfl
    rw [h0]
    repeat' (first | (refine G.atCode ?_; first | refine G.seq ?_ | refine G.region ?_ | refine G.exit rfl ?_ | refine G.ret ?_ | (refine G.cond rfl ?_ ?_ <;> intro hc <;> (try simp only [tests, reduceCtorEq] at hc) <;> (try exact Zf))) | refine G.endOps ?_ | (refine G.atBin ?_; first | refine G.op rfl rfl ?_) | refine G.op rfl rfl ?_)
    all_goals first | (exfalso; omega) | exact G.done1 rfl rfl [] (SubH.nil _) ⟨rfl, rfl⟩
set_option maxHeartbeats 1000000 in
theorem ref11_Tag (op : Int) (h : Heap) : Spec Tryd.prog 50 [.int .i64 op] h [] (fun u _ H' => u = .int .i64 (tagM op) /\ H' = []) := by
  generalize hR : tagM op = R
  unfold tagM at hR
  refine Spec.enter Tryd.func50 rfl rfl ?_; intro w0
  repeat' (first | (refine G.atCode ?_; first | refine G.seq ?_ | refine G.region ?_ | refine G.skip ?_ | refine G.ret ?_ | (refine G.cond rfl ?_ ?_ <;> intro hc <;> (try simp only [tests, reduceCtorEq] at hc) <;> (try exact Zf))) | refine G.endOps ?_ | (refine G.atGd ?_; first | refine G.guardYes rfl rfl ?_ | refine G.guardNoS rfl rfl rfl ?_ | (refine G.guardS rfl rfl rfl ?_ ?_ <;> intro hc <;> (try simp only [tests, reduceCtorEq] at hc) <;> (try exact Zf))) | (refine G.atBin ?_; first | (refine G.atAdd ?_; first | refine G.arith rfl rfl rfl rfl rfl Zi ?_) | (refine G.atEql ?_; first | refine G.op rfl rfl ?_) | refine G.op rfl rfl ?_) | refine G.op rfl rfl ?_)
  all_goals first
    | (exfalso; omega)
    | (refine G.done1 rfl rfl [] (SubH.nil _) ⟨?_, rfl⟩; rw [<- hR]; exact congrArg (Value.int .i64) (by (repeat (first | rw [if_pos (by omega)] | rw [if_neg (by omega)] | rw [if_pos Zp] | rw [if_neg Zp] | rw [if_neg (by simp only [*]; decide)] | rw [if_neg (show ¬ (true = false) from fun e => by cases e)])) <;> rfl))
    | (refine G.done1 rfl rfl [] (SubH.nil _) ⟨?_, rfl⟩; rw [<- hR]; exact congrArg (Value.int .i64) (by (repeat (first | rw [if_pos (by omega)] | rw [if_neg (by omega)] | rw [if_pos Zp] | rw [if_neg Zp] | rw [if_neg (by simp only [*]; decide)] | rw [if_neg (show ¬ (true = false) from fun e => by cases e)]))))
end Go.Proofs.YtibkffoeioidlaaDoor
namespace Go.Proofs.YtibkffoeioidlaaDoor
set_option linter.all false
set_option maxRecDepth 4000
open Go.RowKit

def heapOf (w : World) : Heap := fun b => w.heap[b]?
theorem Spec.law {P : Program} {g : FuncId} {args : List Value} {w : World} {v : Value} (s : Spec P g args (heapOf w) [] (fun u _ _ => u = v)) :
    Calls P g args.toArray w fun e w' => e = .returned v /\ Below w.heap.size w w' := by
  refine (s.run w ⟨fun b o hb => hb, fun x hx => absurd hx (by simp), by simp [keys], fun g hg => by simp [keys] at hg⟩).mono ?_
  rintro e w' ⟨u, h', H', rfl, rfl, st⟩
  exact ⟨rfl, st.os, st.tape, st.output, st.size, fun b hb => st.fr b hb (by simp [keys])⟩
end Go.Proofs.YtibkffoeioidlaaDoor
namespace Go.Proofs.YtibkffoeioidlaaDoor
set_option linter.all false
set_option maxRecDepth 4000
open Go.RowKit

theorem string_eq (s : ByteArray) : Value.string s = str s.data.toList := by cases s; simp [str]
theorem inR_of_wf {k : IntKind} {n : Int} (h : (Lit.int k n).wf = true) : inR k n := by
  simp only [Lit.wf, Bool.and_eq_true, decide_eq_true_eq] at h
  cases k <;> exact h
end Go.Proofs.YtibkffoeioidlaaDoor
namespace Go.Proofs.YtibkffoeioidlaaDoor
set_option linter.all false
set_option maxRecDepth 4000
open Go.ChangeShapes Go.WideShapes Go.ChangeAt Go.RowKit

abbrev laidL : List (String × DataW Unit) := [("castellan/wire.forms", Rows.laid_castellan_wire_forms)]
theorem gForms : Tryd.prog.globalNamed "castellan/wire.forms" = some 0 := by kernel_rfl
theorem tForms : (Tryd.prog.globals[0]?).map (·.type) = some 119 := by kernel_rfl
theorem cForm : Tryd.prog.cellsOf 118 = 2 := by kernel_rfl
theorem cIntW : Tryd.prog.cellsOf 3 = 1 := by kernel_rfl
theorem formsData : (Rows.laid_castellan_wire_forms : DataW Unit) = .agg (formsL.map fun p => .agg [.lit (.int .i64 p.1), .lit (.int .i64 p.2)]) := by kernel_rfl
theorem form_cells {W : World} {fuel : Nat} {cs : List Value} {a b : Int} {p : List MemPlace} (hd : DataW.trod (fun _ => ()) Tryd.prog W 0 (fun _ => true) false fuel 118 cs = some (.agg [.lit (.int .i64 a), .lit (.int .i64 b)], p)) : cs = [.int .i64 a, .int .i64 b] := by
  obtain ⟨xs, n, hn, hx, hl, hlen, hfl⟩ := DataW.trod_struct Tryd.underlying118 hd
  rw [cForm] at hl
  match cs, hl, xs, hlen with
  | [c0, c1], _, [y0, y1], _ =>
    have e0 : DataW.trod (fun _ => ()) Tryd.prog W 0 (fun _ => true) false n 3 ((List.drop 0 [c0, c1]).take (Tryd.prog.cellsOf 3)) = some y0 := hfl 0 _ rfl
    have e1 : DataW.trod (fun _ => ()) Tryd.prog W 0 (fun _ => true) false n 3 ((List.drop 1 [c0, c1]).take (Tryd.prog.cellsOf 3)) = some y1 := hfl 1 _ rfl
    rw [cIntW] at e0 e1
    simp only [List.drop_zero, List.take_succ_cons, List.take_zero, List.drop_succ_cons] at e0 e1
    obtain ⟨z0, h0, g0, _⟩ := DataW.trod_int Tryd.underlying3 e0
    obtain ⟨z1, h1, g1, _⟩ := DataW.trod_int Tryd.underlying3 e1
    injection h0 with h0
    injection h1 with h1
    subst h0; subst h1
    have ex : [y0.1, y1.1] = [DataW.lit (.int .i64 a), .lit (.int .i64 b)] := (DataW.agg.inj (Prod.mk.inj hx).1).symm
    rw [g0, g1] at ex
    injection ex with ex1 ex
    injection ex with ex2 _
    injection ex1 with ex1
    injection ex2 with ex2
    injection ex1 with _ ex1
    injection ex2 with _ ex2
    rw [ex1, ex2]
theorem tabs_of {W : World} (h : laidMetH Tryd.prog laidL W) : TabW (heapOf W) := by
  rw [MakeChecks.laidMetH_plain _ _ _ (by kernel_rfl)] at h
  obtain ⟨ps, ⟨g1, t1, cs1, f1, p1, q1, hg1, ht1, hv1, hd1, _, _⟩, _⟩ := h
  obtain rfl := Option.some.inj (gForms.symm.trans hg1)
  obtain rfl := Option.some.inj (tForms.symm.trans ht1)
  rw [formsData] at hd1
  obtain ⟨xs, m, _, ex, _, hl, hel⟩ := DataW.trod_array Tryd.underlying119 hd1
  have exs : (xs.map (·.1)) = formsL.map fun p => .agg [.lit (.int .i64 p.1), .lit (.int .i64 p.2)] := (DataW.agg.inj (Prod.mk.inj ex).1).symm
  have key : ∀ (i : Nat) (a b : Int), i < 19 -> formsL[i]? = some (a, b) -> (cs1.toList.drop (i * 2)).take 2 = [.int .i64 a, .int .i64 b] := by
    intro i a b hi hf
    have hE := hel i hi
    rw [cForm, List.getElem?_eq_getElem (by omega)] at hE
    have e4 : (xs.map (·.1))[i]? = some (.agg [.lit (.int .i64 a), .lit (.int .i64 b)]) := by rw [exs, List.getElem?_map, hf]; rfl
    rw [List.getElem?_map, List.getElem?_eq_getElem (by omega : i < xs.length), Option.map_some] at e4
    have e5 : xs[i].1 = .agg [.lit (.int .i64 a), .lit (.int .i64 b)] := Option.some.inj e4
    have e6 : xs[i] = (DataW.agg [.lit (.int .i64 a), .lit (.int .i64 b)], xs[i].2) := Prod.ext e5 rfl
    rw [e6] at hE
    exact form_cells hE
  have w1 := World.var?_cell hg1 hv1
  intro j u hj
  have hj38 : j < 38 := (List.getElem?_eq_some_iff.1 hj).1
  rw [Addr.add_lit, Nat.zero_add]
  show W.cell? _ = _
  rw [w1 j]
  obtain ⟨a, b, hf, hp⟩ := forms_at (j / 2) (by omega)
  obtain ⟨_, h2⟩ := partL_eq _ _ _ _ hp
  have hk := key (j / 2) a b (by omega) hf
  have hm := h2 (j % 2) (by omega)
  rw [show j / 2 * 2 + j % 2 = j by omega, hj] at hm
  have hc : ((cs1.toList.drop (j / 2 * 2)).take 2)[j % 2]? = some u := by rw [hk]; exact hm.symm
  rw [List.getElem?_take_of_lt (by omega), List.getElem?_drop, show j / 2 * 2 + j % 2 = j by omega] at hc
  simpa using hc
end Go.Proofs.YtibkffoeioidlaaDoor
namespace Go.Proofs.YtibkffoeioidlaaDoor
set_option linter.all false
set_option maxRecDepth 4000
open Go.ChangeShapes Go.WideShapes Go.RowKit

theorem bulkAll_snoc {H : Type} (d : DataW H) : ∀ l : List (DataW H), Rows.uptoBulkAll (l ++ [d]) = Rows.uptoBulkAll l + Rows.uptoBulk d
  | [] => by simp [Rows.uptoBulkAll]
  | x :: l => by simp only [List.cons_append, Rows.uptoBulkAll, bulkAll_snoc d l]; omega
section
variable {H : Type} {enc : TypeId × Value -> H} {W : World} {P : Program}
theorem sl_go {α : Type} {R : α -> List Value -> Prop} {m : α -> Nat} {c e sz n' : Nat} (ih : ∀ cs (x : DataW H × List MemPlace), DataW.trod enc P W 0 (fun _ => true) true n' e cs = some x -> ∃ a : α, R a cs /\ m a <= c * Rows.uptoBulk x.1)
    {a : Addr} {len : Nat} {elems : List (DataW H × List MemPlace)} (hlen : elems.length = len)
    (hel : ∀ i, i < len -> (W.cells? 0 (a.add (i * sz)) sz).bind (DataW.trod enc P W 0 (fun _ => true) true n' e) = elems[i]?) :
    ∀ k, k <= len -> ∃ (l : List α) (rows : List (List Value)), rows.length = k /\ l.length = k /\ Rowed sz rows /\ (∀ (i : Nat) (b : α), l[i]? = some b -> ∃ r, rows[i]? = some r /\ R b r) /\ (∀ j u, rows.flatten[j]? = some u -> Heap.cell? (heapOf W) (a.add j) = some u) ∧
      (l.map m).sum <= c * Rows.uptoBulkAll ((elems.take k).map (·.1))
  | 0, _ => ⟨[], [], rfl, rfl, fun r hr => absurd hr (by simp), fun i b hb => by simp at hb, fun j u hj => by simp at hj, by simp⟩
  | k + 1, hk => by
    obtain ⟨l, rows, h1, h0, h2, h3, h4, h5⟩ := sl_go ih hlen hel k (by omega)
    have hkl : k < elems.length := by omega
    have he := hel k (by omega)
    rw [List.getElem?_eq_getElem hkl] at he
    obtain ⟨cs, hc, ht⟩ := Option.bind_eq_some_iff.1 he
    obtain ⟨b, g1, g2⟩ := ih cs _ ht
    obtain ⟨_, hcl, hat⟩ := World.cells?_some hc
    have htk : elems.take (k + 1) = elems.take k ++ [elems[k]] := List.take_succ_eq_append_getElem hkl
    refine ⟨l ++ [b], rows ++ [cs], by simp [h1], by simp [h0], h2.append (fun r hr => by simp at hr; subst hr; exact hcl), fun i b' hb => ?_, fun j u hj => ?_, ?_⟩
    . by_cases hi : i < k
      . rw [List.getElem?_append_left (by omega)] at hb
        obtain ⟨r, hr1, hr2⟩ := h3 i b' hb
        exact ⟨r, by rw [List.getElem?_append_left (by omega)]; exact hr1, hr2⟩
      . have hi2 := (List.getElem?_eq_some_iff.1 hb).1
        rw [List.length_append, h0] at hi2
        simp only [List.length_cons, List.length_nil] at hi2
        obtain rfl : i = k := by omega
        rw [List.getElem?_append_right (by omega), h0, Nat.sub_self] at hb
        simp only [List.getElem?_cons_zero, Option.some.injEq] at hb
        subst hb
        exact ⟨cs, by rw [List.getElem?_append_right (by omega), h1, Nat.sub_self]; rfl, g1⟩
    . simp only [List.flatten_append, List.flatten_cons, List.flatten_nil, List.append_nil] at hj
      have hfl : rows.flatten.length = k * sz := by rw [flatten_length h2, h1]
      by_cases hjl : j < rows.flatten.length
      . rw [List.getElem?_append_left hjl] at hj; exact h4 j u hj
      . rw [List.getElem?_append_right (by omega)] at hj
        have hlt : j - rows.flatten.length < sz := by rw [<- hcl]; exact (List.getElem?_eq_some_iff.1 hj).1
        have := hat _ hlt
        rw [hj, add_add_, show k * sz + (j - rows.flatten.length) = j by omega] at this
        exact this
    . simp only [htk, List.map_append, List.map_cons, List.map_nil, bulkAll_snoc, List.sum_append, List.sum_cons, List.sum_nil, Nat.mul_add, Nat.add_zero]
      omega
theorem sl_open {α : Type} {R : α -> List Value -> Prop} {m : α -> Nat} {c t e sz fuel : Nat} {v : Value} {x : DataW H × List MemPlace} (hs : P.underlying t = some (.slice e)) (hce : P.cellsOf e = sz) (hc1 : 1 <= c)
    (ih : ∀ n', n' < fuel -> ∀ cs (x : DataW H × List MemPlace), DataW.trod enc P W 0 (fun _ => true) true n' e cs = some x -> ∃ a : α, R a cs /\ m a <= c * Rows.uptoBulk x.1)
    (h : DataW.trod enc P W 0 (fun _ => true) true fuel t [v] = some x) :
    ∃ (l : List α) (rows : List (List Value)), HSl (heapOf W) v sz rows /\ l.length = rows.length /\ (∀ (i : Nat) (b : α), l[i]? = some b -> ∃ r, rows[i]? = some r /\ R b r) /\ (l.map m).sum + 1 <= c * Rows.uptoBulk x.1 := by
  rcases DataW.trod_slice hs h with ⟨hc, hy⟩ | ⟨a, len, cap, elems, rest, n', hn', hc, hy, _, hl1, hm1, hlen1, hel, _, _⟩
  . simp only [List.cons.injEq, and_true] at hc
    subst hc
    refine ⟨[], [], HSl.nil _ sz, rfl, fun i b hb => by simp at hb, ?_⟩
    rw [hy]; simp only [Rows.uptoBulk, List.map_nil, List.sum_nil]; omega
  . simp only [List.cons.injEq, and_true] at hc
    subst hc
    rw [hce] at hel
    obtain ⟨l, rows, h1, h0, h2, h3, h4, h5⟩ := sl_go (fun cs x hh => ih n' (by omega) cs x hh) hlen1 hel len (Nat.le_refl _)
    rw [List.take_of_length_le (by omega)] at h5
    refine ⟨l, rows, ⟨h2, some a, cap, by rw [h1], by rw [h1]; exact hl1, hm1, fun _ => ⟨a, rfl, h4⟩⟩, by omega, h3, ?_⟩
    rw [hy]; simp only [Rows.uptoBulk, Nat.mul_add]; omega
theorem str_open {n t : Nat} {cs : List Value} {x : DataW H × List MemPlace} (hu : P.underlying t = some .string) (h : DataW.trod enc P W 0 (fun _ => true) true n t cs = some x) : ∃ s : List UInt8, cs = [str s] /\ s.length + 1 <= Rows.uptoBulk x.1 := by
  obtain ⟨s, hs, hx, _⟩ := DataW.trod_string hu h
  subst hs
  rw [string_eq]
  exact ⟨_, rfl, by rw [hx]; simp only [Rows.uptoBulk]; omega⟩
end
end Go.Proofs.YtibkffoeioidlaaDoor
namespace Go.Proofs.YtibkffoeioidlaaDoor
set_option linter.all false
set_option maxRecDepth 4000
open Go.ChangeShapes Go.WideShapes Go.RowKit

theorem cellsPc : Tryd.prog.cellsOf 148 = 2 := by kernel_rfl
theorem cellsFl : Tryd.prog.cellsOf 45 = 5 := by kernel_rfl
theorem cellsI : Tryd.prog.cellsOf 3 = 1 := by kernel_rfl
theorem cellsS : Tryd.prog.cellsOf 9 = 1 := by kernel_rfl
theorem cellsPs : Tryd.prog.cellsOf 42 = 1 := by kernel_rfl
theorem cellsFs : Tryd.prog.cellsOf 43 = 1 := by kernel_rfl
theorem rows_pcsR : ∀ (l : Pcs) (rows : List (List Value)), l.length = rows.length -> (∀ (i : Nat) b, l[i]? = some b -> ∃ r, rows[i]? = some r /\ r = [.int .i64 b.1, str b.2]) -> rows = pcsR l
  | [], [], _, _ => rfl
  | [], _ :: _, h, _ => by simp at h
  | _ :: _, [], h, _ => by simp at h
  | b :: l, r :: rows, h, hr => by
    obtain ⟨r0, h0, h1⟩ := hr 0 b rfl
    simp only [List.getElem?_cons_zero, Option.some.injEq] at h0
    have ih := rows_pcsR l rows (by simpa using h) (fun i b' hb => by simpa using hr (i + 1) b' (by simpa using hb))
    rw [h0, h1, ih]; rfl
theorem rows_fls {h : Heap} : ∀ (l : List Fl) (rows : List (List Value)), l.length = rows.length -> (∀ (i : Nat) b, l[i]? = some b -> ∃ r, rows[i]? = some r /\ FlC h b r) -> FlsC h l rows
  | [], [], _, _ => FlsC.nil h
  | [], _ :: _, h, _ => by simp at h
  | _ :: _, [], h, _ => by simp at h
  | b :: l, r :: rows, h, hr => by
    obtain ⟨r0, h0, h1⟩ := hr 0 b rfl
    simp only [List.getElem?_cons_zero, Option.some.injEq] at h0
    have ih := rows_fls l rows (by simpa using h) (fun i b' hb => by simpa using hr (i + 1) b' (by simpa using hb))
    simp only [FlsC]
    exact ⟨r, rows, rfl, h0 ▸ h1, ih⟩
theorem pcW_sum : ∀ ps : Pcs, (ps.map fun p => 1 + p.2.length).sum = pcW ps
  | [] => rfl
  | (k, t) :: ps => by simp only [List.map_cons, List.sum_cons, pcW_sum ps, pcW]
theorem flwt_sum : ∀ ks : List Fl, (ks.map Fl.wt).sum = flwt ks
  | [] => by simp [flwt]
  | k :: ks => by simp only [List.map_cons, List.sum_cons, flwt_sum ks, flwt]
section
variable {H : Type} {enc : TypeId × Value -> H} {W : World}
theorem int_open {n t : Nat} {cs : List Value} {x : DataW H × List MemPlace} (hu : Tryd.prog.underlying t = some (.int .i64)) (h : DataW.trod enc Tryd.prog W 0 (fun _ => true) true n t cs = some x) : ∃ s : Int, cs = [.int .i64 s] /\ 1 <= Rows.uptoBulk x.1 := by
  obtain ⟨s, hs, hx, _⟩ := DataW.trod_int hu h
  subst hs
  exact ⟨_, rfl, by rw [hx]; simp only [Rows.uptoBulk]; omega⟩
set_option maxRecDepth 20000 in
theorem pc_open {fuel : Nat} {cs : List Value} {x : DataW H × List MemPlace} (h : DataW.trod enc Tryd.prog W 0 (fun _ => true) true fuel 148 cs = some x) : ∃ a : Int × List UInt8, cs = [.int .i64 a.1, str a.2] /\ 1 + a.2.length <= 1 * Rows.uptoBulk x.1 := by
  obtain ⟨xs, n, hn, hx, hl, hlen, hfl⟩ := DataW.trod_struct Tryd.underlying148 h
  rw [cellsPc] at hl
  match cs, hl, xs, hlen with
  | [c0, c1], _, [y0, y1], _ =>
    have e0 : DataW.trod enc Tryd.prog W 0 (fun _ => true) true n 3 ((List.drop 0 [c0, c1]).take (Tryd.prog.cellsOf 3)) = some y0 := hfl 0 _ rfl
    have e1 : DataW.trod enc Tryd.prog W 0 (fun _ => true) true n 9 ((List.drop 1 [c0, c1]).take (Tryd.prog.cellsOf 9)) = some y1 := hfl 1 _ rfl
    rw [cellsI] at e0
    rw [cellsS] at e1
    obtain ⟨s0, hs0, hb0⟩ := int_open Tryd.underlying3 e0
    obtain ⟨s1, hs1, hb1⟩ := str_open Tryd.underlying9 e1
    simp only [List.drop_zero, List.take_succ_cons, List.take_zero, List.drop_succ_cons, List.cons.injEq, and_true] at hs0 hs1
    subst hs0 hs1
    refine ⟨(s0, s1), rfl, ?_⟩
    rw [hx]; simp only [List.map_cons, List.map_nil, Rows.uptoBulk, Rows.uptoBulkAll]; omega
set_option maxRecDepth 20000 in
theorem pcs_open {fuel : Nat} {v : Value} {x : DataW H × List MemPlace} (h : DataW.trod enc Tryd.prog W 0 (fun _ => true) true fuel 42 [v] = some x) : ∃ ps : Pcs, HSl (heapOf W) v 2 (pcsR ps) /\ pcW ps + 1 <= Rows.uptoBulk x.1 := by
  obtain ⟨l, rows, h1, h2, h3, h4⟩ := sl_open (R := fun (a : Int × List UInt8) r => r = [.int .i64 a.1, str a.2]) (m := fun p => 1 + p.2.length) (c := 1) Tryd.underlying42 cellsPc (by decide) (fun n' _ cs x hh => pc_open hh) h
  rw [rows_pcsR l rows h2 h3] at h1
  rw [pcW_sum] at h4
  exact ⟨l, h1, by omega⟩
set_option maxRecDepth 20000 in
theorem flt_open : ∀ (m fuel : Nat), fuel <= m -> ∀ (cs : List Value) (x : DataW H × List MemPlace), DataW.trod enc Tryd.prog W 0 (fun _ => true) true fuel 45 cs = some x →
    ∃ a : Fl, FlC (heapOf W) a cs /\ a.wt <= Rows.uptoBulk x.1
  | m, 0, _, cs, x, h => by simp [DataW.trod] at h
  | 0, f + 1, hf, _, _, _ => by omega
  | m + 1, fuel + 1, hf, cs, x, h => by
    obtain ⟨xs, n, hn, hx, hl, hlen, hfl⟩ := DataW.trod_struct Tryd.underlying45 h
    rw [cellsFl] at hl
    match cs, hl, xs, hlen with
    | [c0, c1, c2, c3, c4], _, [y0, y1, y2, y3, y4], _ =>
      have e0 : DataW.trod enc Tryd.prog W 0 (fun _ => true) true n 3 ((List.drop 0 [c0, c1, c2, c3, c4]).take (Tryd.prog.cellsOf 3)) = some y0 := hfl 0 _ rfl
      have e1 : DataW.trod enc Tryd.prog W 0 (fun _ => true) true n 9 ((List.drop 1 [c0, c1, c2, c3, c4]).take (Tryd.prog.cellsOf 9)) = some y1 := hfl 1 _ rfl
      have e2 : DataW.trod enc Tryd.prog W 0 (fun _ => true) true n 9 ((List.drop 2 [c0, c1, c2, c3, c4]).take (Tryd.prog.cellsOf 9)) = some y2 := hfl 2 _ rfl
      have e3 : DataW.trod enc Tryd.prog W 0 (fun _ => true) true n 42 ((List.drop 3 [c0, c1, c2, c3, c4]).take (Tryd.prog.cellsOf 42)) = some y3 := hfl 3 _ rfl
      have e4 : DataW.trod enc Tryd.prog W 0 (fun _ => true) true n 43 ((List.drop 4 [c0, c1, c2, c3, c4]).take (Tryd.prog.cellsOf 43)) = some y4 := hfl 4 _ rfl
      rw [cellsI] at e0
      rw [cellsS] at e1 e2
      rw [cellsPs] at e3
      rw [cellsFs] at e4
      obtain ⟨k, hk0, hb0⟩ := int_open Tryd.underlying3 e0
      obtain ⟨s1, hs1, hb1⟩ := str_open Tryd.underlying9 e1
      obtain ⟨s2, hs2, hb2⟩ := str_open Tryd.underlying9 e2
      simp only [List.drop_zero, List.take_succ_cons, List.take_zero, List.drop_succ_cons, List.cons.injEq, and_true] at hk0 hs1 hs2 e3 e4
      subst hk0 hs1 hs2
      obtain ⟨ps, hp1, hp2⟩ := pcs_open e3
      obtain ⟨l, rows, h1, h2, h3, h4⟩ := sl_open (R := fun (a : Fl) r => FlC (heapOf W) a r) (m := Fl.wt) (c := 1) Tryd.underlying43 cellsFl (by decide) (fun n' hn' cs x hh => by
        obtain ⟨a, g1, g2⟩ := flt_open m n' (by omega) cs x hh
        exact ⟨a, g1, by omega⟩) e4
      rw [flwt_sum] at h4
      refine ⟨.mk k s1 s2 ps l, FlC.mk_ hp1 h1 (rows_fls l rows h2 h3), ?_⟩
      rw [hx]; simp only [List.map_cons, List.map_nil, Rows.uptoBulk, Rows.uptoBulkAll, Fl.wt]; omega
end
end Go.Proofs.YtibkffoeioidlaaDoor
