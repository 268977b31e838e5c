/- Rules of the light walk: more for drawn regions. -/
import Derived.Test.YtibkffoeioidlaaDoorLtQ
import Derived.Test.YtibkffoeioidlaaDoorOcA
import Derived.Test.YtibkffoeioidlaaDoorWrC
namespace Go.Proofs.YtibkffoeioidlaaDoor
set_option linter.all false
set_option maxRecDepth 4000
open Go.RowKit

theorem G.anyKeep {E : Env} {k : List It} {f : Fr} {h : Heap} {H : List Chunk} (sl : Nat -> Bool) {l0 : List Oper} {h0 : Heap} {H0 : List Chunk} {done done' idx : List Nat} {o : Oper} {l : List Oper} (hx : autoGo sl l0 0 done = some (o :: l, idx, done'))
    (hs : (Region.noSelect l0.toArray && takeOkC l0.toArray (l0.length - done.length) done idx) = true) (hh : Heap.le h0 h) (hs1 : SubH H0 H)
    (g : G E (.ops (.held h H0) l0.toArray (o :: l) :: .back h H :: .any h H0 l0.toArray done' :: k) f h H0) : G E (.any h0 H0 l0.toArray done :: k) f h H := by
  obtain ⟨p1, p2⟩ := autoGo_spec (l0 := l0) l0 0 done _ _ _ hx (fun j => by simp)
  exact G.anyTake p1 p2 hs hh (SubH.rfl_ _) hs1 g

def noMem : Op -> Bool
  | .load _ _ | .indexAddr _ _ _ | .index _ _ _ => false
  | _ => true
def autoGo2 (sl : Nat -> Bool) : List Oper -> Nat -> List Nat -> Option (List Oper × List Nat × List Nat)
  | [], _, done => some ([], [], done)
  | o :: r, i, done => bif pureOp sl o.op && noMem o.op && !inL i done && edgesIn done o.after.toList then (match autoGo2 sl r (i + 1) (i :: done) with
      | some (l, idx, d) => some (o :: l, i :: idx, d)
      | none => none) else autoGo2 sl r (i + 1) done
theorem autoGo2_spec {sl : Nat -> Bool} {l0 : List Oper} : ∀ (r : List Oper) (i : Nat) (done : List Nat) (l : List Oper) (idx d : List Nat), autoGo2 sl r i done = some (l, idx, d) -> (∀ j, r[j]? = l0[i + j]?) →
    idx.mapM (fun i => l0[i]?) = some l /\ d = idx.reverse ++ done
  | [], i, done, l, idx, d, h, _ => by
    simp only [autoGo2, Option.some.injEq, Prod.mk.injEq] at h
    obtain ⟨rfl, rfl, rfl⟩ := h
    simp
  | o :: r, i, done, l, idx, d, h, hr => by
    have hr' : ∀ j, r[j]? = l0[i + 1 + j]? := fun j => by rw [show i + 1 + j = i + (j + 1) by omega, ← hr (j + 1)]; simp
    have h0 : l0[i]? = some o := by rw [<- Nat.add_zero i, ← hr 0]; rfl
    simp only [autoGo2] at h
    cases hc : (pureOp sl o.op && noMem o.op && !inL i done && edgesIn done o.after.toList) with
    | true =>
      rw [hc] at h
      simp only [cond_true] at h
      split at h
      . rename_i l1 idx1 d1 h1
        simp only [Option.some.injEq, Prod.mk.injEq] at h
        obtain ⟨rfl, rfl, rfl⟩ := h
        obtain ⟨q1, q2⟩ := autoGo2_spec r (i + 1) (i :: done) _ _ _ h1 hr'
        refine ⟨?_, ?_⟩
        . simp [List.mapM_cons, h0, q1]
        . rw [q2]; simp
      . cases h
    | false =>
      rw [hc] at h
      simp only [cond_false] at h
      exact autoGo2_spec r (i + 1) done _ _ _ h hr'
theorem G.anyPure {E : Env} {k : List It} {f : Fr} {h : Heap} {H : List Chunk} (sl : Nat -> Bool) {l0 : List Oper} {h0 : Heap} {done done' idx : List Nat} {o : Oper} {l : List Oper} (hx : autoGo2 sl l0 0 done = some (o :: l, idx, done'))
    (hs : (Region.noSelect l0.toArray && takeOkC l0.toArray (l0.length - done.length) done idx) = true) (hh : Heap.le h0 h)
    (g : G E (.ops (.held h []) l0.toArray (o :: l) :: .back h H :: .any h [] l0.toArray done' :: k) f h []) : G E (.any h0 [] l0.toArray done :: k) f h H := by
  obtain ⟨p1, p2⟩ := autoGo2_spec (l0 := l0) l0 0 done _ _ _ hx (fun j => by simp)
  exact G.anyTake p1 p2 hs hh (SubH.nil _) (SubH.nil _) g
theorem G.callT {E : Env} {k : List It} {f : Fr} {h : Heap} {H : List Chunk} {all : Array Oper} {rest : List Oper} {d : Nat} {ty : TypeId} {pos : String} {aft : Array Edge} {g : FuncId} {xs : List Operand} {ts : Array TypeId} {vs : List Value} {H1 H2 : List Chunk} {R : Value -> Heap -> List Chunk -> Prop}
    (hc : Callable E.P g) (hx : evs f xs = some vs) (hd : Nat.blt d E.n = true) (hH : Takes H1 H H2) (sp : Spec E.P g vs h H1 R)
    (next : ∀ v h' H', R v h' H' -> Heap.le h h' -> G E (.ops .seq all rest :: k) ((d, v) :: f) h' (H' ++ H2)) :
    G E (.ops .seq all (⟨some d, .call { callee := .value (.func g), args := xs.toArray, argTypes := ts }, ty, pos, aft, none⟩ :: rest) :: k) f h H := G.call hc hx hd sp hH next
end Go.Proofs.YtibkffoeioidlaaDoor
namespace Go.Proofs.YtibkffoeioidlaaDoor
set_option linter.all false
set_option maxRecDepth 4000
open Go.RowKit
section
variable {E : Env} {k : List It} {f : Fr} {h : Heap} {H : List Chunk} {st : Md} [hmd : OkMd st h H] {all : Array Oper} {rest : List Oper} {d : Nat} {ty : TypeId} {pos : String} {aft : Array Edge}
theorem part_agg {P : Program} {t : TypeId} {td : TD} {sz by_ : Nat} {z : Value} (ht : Ty P t td sz by_ z) (ha : td.isAgg = true) (hk : td.known = true) {cs r : List Value} {i : Nat} (hr : partL cs i sz = some r) (w : World) : (part t cs.toArray i).run P w = .ok (.agg r.toArray) w := by
  obtain ⟨h1, h2⟩ := partL_eq _ _ _ _ hr
  have e : (cs.drop i).take sz = r := by
    apply List.ext_getElem?
    intro j
    by_cases hj : j < sz
    . rw [List.getElem?_take_of_lt hj, List.getElem?_drop, h2 j hj]
    . rw [List.getElem?_eq_none (by rw [List.length_take]; omega), List.getElem?_eq_none (by rw [h1]; omega)]
  simp [part, run_isAgg' ht hk, ha, run_sizeOf' ht, e]
theorem G.idxArrA {t e : TypeId} {x y : Operand} {td : TD} {kd : IntKind} {i : Int} {m n sz by_ sz1 by1 : Nat} {z z1 : Value} {cs r : List Value} (hx : ev f x = some (.agg cs.toArray)) (hy : ev f y = some (.int kd i)) (ht : Ty E.P t (.array n e) sz1 by1 z1)
    (he : Ty E.P e td sz by_ z) (ha : td.isAgg = true) (hk : td.known = true) (hm : i.toNat = m) (hc : partL cs (m * sz) sz = some r) (hd : Nat.blt d E.n = true) (hb : 0 <= i /\ i < n)
    (g : G E (.ops st all rest :: k) ((d, .agg r.toArray) :: f) h H) :
    G E (.ops st all (⟨some d, .index t x y, ty, pos, aft, none⟩ :: rest) :: k) f h H := by
  subst hm
  refine G.opVal hd (fun _ a w hfa _ => ?_) g
  have := ht.fits
  simp only [TD.fits] at this
  simp only [execOp, Instr.index, asIntOf, ev_eq hfa hx, ev_eq hfa hy, Sem.run_bind, Sem.run_pure, Result.andThen_ok, underlying, run_program, this, if_pos hb, run_sizeOf' he, part_agg he ha hk hc]
theorem G.fieldV {s : TypeId} {x : Operand} {fs : List (Nat × Nat × Nat)} {sz by_ i ft off fby : Nat} {z fz v : Value} {td : TD} {cs : List Value} (hx : ev f x = some (.agg cs.toArray)) (ht : Ty E.P s (.struct fs) sz by_ z)
    (hi : nthF fs i = some (ft, off, 1)) (hf : Ty E.P ft td 1 fby fz) (ha : td.isAgg = false) (hk : td.known = true) (hv : nthV cs off = some v) (hd : Nat.blt d E.n = true) (n : G E (.ops st all rest :: k) ((d, v) :: f) h H) :
    G E (.ops st all (⟨some d, .field s x i, ty, pos, aft, none⟩ :: rest) :: k) f h H := by
  refine G.opVal hd (fun _ a w hfa hw => ?_) n
  have := ht.fits
  simp only [TD.fits] at this
  obtain ⟨fields, h1, h2⟩ := structOf_some this
  rw [nthF_eq] at hi
  rw [nthV_eq] at hv
  have h3 := congrArg (fun l => l[i]?) h2
  simp only [List.getElem?_map, Array.getElem?_toList, hi, Option.map_some] at h3
  cases hfl : fields[i]? with
  | none => rw [hfl] at h3; cases h3
  | some fl =>
    rw [hfl] at h3
    simp only [Option.map_some, Option.some.injEq, Prod.mk.injEq] at h3
    obtain ⟨e1, e2, e3⟩ := h3
    subst e1
    subst e2
    have hp := part_flat hf ha hk hv w
    simp [execOp, Instr.field, asAgg, ev_eq hfa hx, underlying, h1, hfl, hp]
end
theorem G.stopB {E : Env} {k : List It} {f : Fr} {h : Heap} {H : List Chunk} (id : Nat) {b : Code} (g : G E (.stop (.block id b) :: k) f h H) : G E (.code (.block id b) :: k) f h H := ⟨fun a w ha hw => g.run a w ha hw⟩
structure Hold (p : Prop) : Prop where
  out : p
end Go.Proofs.YtibkffoeioidlaaDoor
namespace Go.Proofs.YtibkffoeioidlaaDoor
set_option linter.all false
set_option maxRecDepth 4000
open Go.RowKit
theorem G.blkRow {E : Env} {ks : List It} {f : Fr} {h : Heap} {H Hr : List Chunk} {g n : Nat} {cs : List Value} {e : TypeId} (sz : Nat) (rows : List (List Value)) (t : Take (.blk g cs e) H Hr) (hr : rows.flatten = cs) (hw : Rowed sz rows) (hn : n = rows.length) (hm : n <= maxLen)
    (next : G E ks f h (.row (.slice (some ⟨g, 0, none⟩) n n) e sz rows :: Hr)) : G E ks f h H :=
  ⟨fun ac w hac hw' => next.run ac w hac (hw'.swapRow t hr hw hn hm)⟩
end Go.Proofs.YtibkffoeioidlaaDoor
namespace Go.Proofs.YtibkffoeioidlaaDoor
set_option linter.all false
set_option maxRecDepth 4000
open Go.RowKit
def formsC : List Value := formsL.flatMap fun p => [.int .i64 p.1, .int .i64 p.2]
def TabW (h : Heap) : Prop := HCells h ⟨0, 0, none⟩ formsC
theorem TabW.mono {h h' : Heap} (t : TabW h) (hl : Heap.le h h') : TabW h' := HCells.mono t hl
theorem formsC_len : formsC.length = 38 := rfl
theorem forms_at : ∀ i : Nat, i < 19 -> ∃ a b : Int, formsL[i]? = some (a, b) /\ partL formsC (i * 2) 2 = some [.int .i64 a, .int .i64 b]
  | 0, _ | 1, _ | 2, _ | 3, _ | 4, _ | 5, _ | 6, _ | 7, _ | 8, _ | 9, _ | 10, _ | 11, _ | 12, _ | 13, _ | 14, _ | 15, _ | 16, _ | 17, _ | 18, _ => ⟨_, _, rfl, rfl⟩
  | n + 19, h => by omega
theorem callTagW : Callable Tryd.prog 43 := ⟨_, Tryd.func43, by kernel_rfl, rfl⟩
theorem callTagR : Callable Tryd.prog 50 := ⟨_, Tryd.func50, by kernel_rfl, rfl⟩
theorem callInW : Callable Tryd.prog 42 := ⟨_, Tryd.func42, by kernel_rfl, rfl⟩
theorem forms_tag : ∀ p ∈ formsL, tagM p.1 = p.2 := by decide
theorem forms_all {op : Int} (h : tagM op ≠ 0) : ∃ i, i < 19 /\ ∃ b, formsL[i]? = some (op, b) := by
  unfold tagM at h
  have h1 : op = 0 \/ op = 1 \/ op = 2 \/ op = 3 \/ op = 4 \/ op = 5 \/ op = 6 \/ op = 7 \/ op = 8 \/ op = 9 \/ op = 10 \/ op = 11 \/ op = 12 \/ op = 13 \/ op = 14 \/ op = 15 \/ op = 16 \/ op = 23 \/ op = 24 := by
    split at h
    . omega
    split at h
    . omega
    split at h
    . omega
    split at h
    . omega
    . exact absurd rfl h
  rcases h1 with rfl | rfl | rfl | rfl | rfl | rfl | rfl | rfl | rfl | rfl | rfl | rfl | rfl | rfl | rfl | rfl | rfl | rfl | rfl
  . exact ⟨0, by omega, _, rfl⟩
  . exact ⟨1, by omega, _, rfl⟩
  . exact ⟨2, by omega, _, rfl⟩
  . exact ⟨3, by omega, _, rfl⟩
  . exact ⟨4, by omega, _, rfl⟩
  . exact ⟨5, by omega, _, rfl⟩
  . exact ⟨6, by omega, _, rfl⟩
  . exact ⟨7, by omega, _, rfl⟩
  . exact ⟨8, by omega, _, rfl⟩
  . exact ⟨9, by omega, _, rfl⟩
  . exact ⟨10, by omega, _, rfl⟩
  . exact ⟨11, by omega, _, rfl⟩
  . exact ⟨12, by omega, _, rfl⟩
  . exact ⟨13, by omega, _, rfl⟩
  . exact ⟨14, by omega, _, rfl⟩
  . exact ⟨15, by omega, _, rfl⟩
  . exact ⟨16, by omega, _, rfl⟩
  . exact ⟨17, by omega, _, rfl⟩
  . exact ⟨18, by omega, _, rfl⟩
theorem wire_in (n lo hi : Int) (h : Heap) : Spec Tryd.prog 42 [.int .i64 n, .int .i64 lo, .int .i64 hi] h [] (fun u _ H' => u = .bool (inM n lo hi) /\ H' = []) := by
  unfold inM
  refine Spec.enter Tryd.func42 rfl rfl ?_; intro w0
  repeat' (first | (refine G.atCode ?_; first | refine G.seq ?_ | refine G.region ?_ | refine G.ret ?_) | refine G.endOps ?_ | (refine G.atGd ?_; first | refine G.guardYes rfl rfl ?_ | refine G.guardNoS rfl rfl rfl ?_ | (refine G.guardS rfl rfl rfl ?_ ?_ <;> intro hc <;> (try simp only [tests, reduceCtorEq] at hc) <;> (try exact Zf))) | (refine G.atBin ?_; first | refine G.op rfl rfl ?_) | refine G.op rfl rfl ?_)
  all_goals exact G.done1 rfl rfl [] (SubH.nil _) ⟨(by first | exact congrArg Value.bool (decide_eq_decide.2 (by omega)) | exact congrArg Value.bool (decide_eq_true (by omega)).symm | exact congrArg Value.bool (decide_eq_false (by omega)).symm), rfl⟩
set_option maxHeartbeats 1000000 in
theorem wire_tag (op : Int) (h : Heap) (hT : TabW h) : Spec Tryd.prog 43 [.int .i64 op] h [] (fun u _ H' => u = .int .i64 (tagM op) /\ H' = []) := by
  refine Spec.enter Tryd.func43 rfl rfl ?_; intro w0
  repeat' (first | (refine G.atLoad ?_; refine G.loadImmA rfl (tyy rfl) rfl rfl hT formsC_len rfl ?_) | (refine G.atCode ?_; refine G.stopLoop ?_) | (refine G.atCode ?_; first | refine G.seq ?_ | refine G.region ?_ | refine G.block ?_) | refine G.endOps ?_ | refine G.op rfl rfl ?_)
  refine G.go ?_
  refine G.loop (σ := Nat) (fun i => [(6, .int .i64 i), (5, .agg formsC.toArray), (0, .int .i64 op)]) (fun _ => [])
    (fun i _ => i <= 19 /\ ∀ j, j < i -> ∀ a b, formsL[j]? = some (a, b) -> a ≠ op) (fun i => 19 - i) 0 ⟨rfl, rfl, rfl, trivial⟩ (SubH.nil _) ⟨by omega, fun j hj => absurd hj (by omega)⟩ ?_
  rintro i h1 hle1 ⟨hi, hno⟩
  by_cases hlt : i < 19
  . obtain ⟨a, b, hf, hp⟩ := forms_at i hlt
    have htg := forms_tag (a, b) (List.mem_of_getElem? hf)
    simp only at htg
    by_cases hop : a = op
    . subst hop
      rw [htg]
      repeat' (first | (refine G.idxArrA rfl rfl (tyy rfl) (tyy rfl) rfl rfl Zj hp rfl Zo ?_) | (refine G.atCode ?_; first | refine G.seq ?_ | refine G.region ?_ | refine G.block ?_ | refine G.skip ?_ | refine G.ret ?_ | (refine G.cond rfl ?_ ?_ <;> intro hc <;> (try simp only [tests, reduceCtorEq] at hc) <;> (try exact Zf))) | refine G.endOps ?_ | (refine G.atBin ?_; first | (refine G.atEql ?_; first | refine G.op rfl rfl ?_) | refine G.op rfl rfl ?_) | refine G.op rfl rfl ?_ | (refine G.atLoad ?_; first | refine G.loadOwn1 rfl (tyy rfl) rfl rfl Za rfl rfl ?_) | (refine G.atFld ?_; first | refine G.fieldAddr rfl (tyy rfl) rfl rfl ?_) | (refine G.atSto ?_; refine G.storeOwn rfl rfl (tyy rfl) Za rfl rfl rfl rfl ?_) | (refine G.atAlc ?_; refine G.alloc (tyy rfl) rfl rfl ?_; intro _))
      all_goals first | (exfalso; omega) | exact G.done1 rfl rfl [] (SubH.nil _) ⟨rfl, rfl⟩
    . repeat' (first | (refine G.idxArrA rfl rfl (tyy rfl) (tyy rfl) rfl rfl Zj hp rfl Zo ?_) | (refine G.atCode ?_; first | refine G.seq ?_ | refine G.region ?_ | refine G.block ?_ | refine G.skip ?_ | (refine G.cond rfl ?_ ?_ <;> intro hc <;> (try simp only [tests, reduceCtorEq] at hc) <;> (try exact Zf))) | refine G.endOps ?_ | refine G.endBlk ?_ | (refine G.atBin ?_; first | (refine G.atAdd ?_; first | refine G.arith rfl rfl rfl rfl rfl Zi ?_) | (refine G.atEql ?_; first | refine G.op rfl rfl ?_) | refine G.op rfl rfl ?_) | refine G.op rfl rfl ?_ | (refine G.atLoad ?_; first | refine G.loadOwn1 rfl (tyy rfl) rfl rfl Za rfl rfl ?_) | (refine G.atFld ?_; first | refine G.fieldAddr rfl (tyy rfl) rfl rfl ?_) | (refine G.atSto ?_; refine G.storeOwn rfl rfl (tyy rfl) Za rfl rfl rfl rfl ?_) | (refine G.atAlc ?_; refine G.alloc (tyy rfl) rfl rfl ?_; intro _))
      all_goals first | (exfalso; omega) | skip
      exact G.again (i + 1) ⟨sint (by omega), rfl, rfl, trivial⟩ (SubH.nil _) ⟨by omega, fun j hj a' b' hj' => if hji : j < i then hno j hji a' b' hj' else by
        obtain rfl : j = i := (by omega)
        rw [hf] at hj'
        injection hj' with e
        injection e with e1 _
        exact e1 ▸ hop⟩ (by solve | repeat first | assumption | exact Zr _ | refine Zq ?_ Zp) (by omega)
  . obtain rfl : i = 19 := by omega
    have h0 : tagM op = 0 := Classical.byContradiction fun h9 => by
      obtain ⟨j, hj, b, hb⟩ := forms_all h9
      exact hno j hj op b hb rfl
    rw [h0]
    repeat' (first | (refine G.atCode ?_; first | refine G.seq ?_ | refine G.region ?_ | refine G.exit rfl ?_ | refine G.ret ?_ | (refine G.cond rfl ?_ ?_ <;> intro hc <;> (try simp only [tests, reduceCtorEq] at hc) <;> (try exact Zf))) | refine G.endOps ?_ | (refine G.atBin ?_; first | refine G.op rfl rfl ?_) | refine G.op rfl rfl ?_)
    all_goals first | (exfalso; omega) | exact G.done1 rfl rfl [] (SubH.nil _) ⟨rfl, rfl⟩
set_option maxHeartbeats 1000000 in
theorem ref11_Tag (op : Int) (h : Heap) : Spec Tryd.prog 50 [.int .i64 op] h [] (fun u _ H' => u = .int .i64 (tagM op) /\ H' = []) := by
  generalize hR : tagM op = R
  unfold tagM at hR
  refine Spec.enter Tryd.func50 rfl rfl ?_; intro w0
  repeat' (first | (refine G.atCode ?_; first | refine G.seq ?_ | refine G.region ?_ | refine G.skip ?_ | refine G.ret ?_ | (refine G.cond rfl ?_ ?_ <;> intro hc <;> (try simp only [tests, reduceCtorEq] at hc) <;> (try exact Zf))) | refine G.endOps ?_ | (refine G.atGd ?_; first | refine G.guardYes rfl rfl ?_ | refine G.guardNoS rfl rfl rfl ?_ | (refine G.guardS rfl rfl rfl ?_ ?_ <;> intro hc <;> (try simp only [tests, reduceCtorEq] at hc) <;> (try exact Zf))) | (refine G.atBin ?_; first | (refine G.atAdd ?_; first | refine G.arith rfl rfl rfl rfl rfl Zi ?_) | (refine G.atEql ?_; first | refine G.op rfl rfl ?_) | refine G.op rfl rfl ?_) | refine G.op rfl rfl ?_)
  all_goals first
    | (exfalso; omega)
    | (refine G.done1 rfl rfl [] (SubH.nil _) ⟨?_, rfl⟩; rw [<- hR]; exact congrArg (Value.int .i64) (by (repeat (first | rw [if_pos (by omega)] | rw [if_neg (by omega)] | rw [if_pos Zp] | rw [if_neg Zp] | rw [if_neg (by simp only [*]; decide)] | rw [if_neg (show ¬ (true = false) from fun e => by cases e)])) <;> rfl))
    | (refine G.done1 rfl rfl [] (SubH.nil _) ⟨?_, rfl⟩; rw [<- hR]; exact congrArg (Value.int .i64) (by (repeat (first | rw [if_pos (by omega)] | rw [if_neg (by omega)] | rw [if_pos Zp] | rw [if_neg Zp] | rw [if_neg (by simp only [*]; decide)] | rw [if_neg (show ¬ (true = false) from fun e => by cases e)]))))
end Go.Proofs.YtibkffoeioidlaaDoor
