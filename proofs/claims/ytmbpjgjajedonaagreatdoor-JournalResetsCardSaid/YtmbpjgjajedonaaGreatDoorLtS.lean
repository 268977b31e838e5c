/- Rules of the light walk: a range over a map, delete. -/
import Derived.Test.YtmbpjgjajedonaaGreatDoorLtAb
import Derived.Maps.RangeRun
import Derived.Lib.OthersKept
import Derived.Lib.DecodeN
namespace Go.Proofs.YtmbpjgjajedonaaGreatDoor
set_option linter.all false
set_option maxRecDepth 4000
open Go.RowKit

theorem mem_ents {es : List (Int × Value × Nat)} {e : MapEntry} (h : e ∈ ents es) : ∃ q v b, (q, v, b) ∈ es /\ e = ⟨.int .i64 q, v, b⟩ := by
  simp only [ents, List.mem_map] at h
  obtain ⟨x, hx, rfl⟩ := h
  exact ⟨x.1, x.2.1, x.2.2, hx, rfl⟩
theorem ents_born (es : List (Int × Value × Nat)) : (ents es).map (·.born) = es.map (·.2.2) := by simp [ents]
theorem map_erase {α β : Type} (f : α -> β) : ∀ (l : List α) (i : Nat), (l.map f).eraseIdx i = (l.eraseIdx i).map f
  | [], _ => by simp
  | _ :: _, 0 => by simp
  | x :: l, i + 1 => by simp [map_erase f l i]
def mDel (q : Int) : List (Int × Value × Nat) -> List (Int × Value × Nat)
  | [] => []
  | (j, v, b) :: es => if q = j then es else (j, v, b) :: mDel q es
theorem mDel_find (q : Int) : ∀ (es : List (Int × Value × Nat)) (i j : Nat) (v : Value), mFind q es i = some (j, v) -> i <= j /\ es.eraseIdx (j - i) = mDel q es
  | (q', v', b') :: es, i, j, v, h => by
    simp only [mFind] at h
    split at h
    . rename_i hq
      simp only [Option.some.injEq, Prod.mk.injEq] at h
      obtain ⟨rfl, rfl⟩ := h
      exact ⟨Nat.le_refl _, by simp [mDel, hq]⟩
    . rename_i hq
      obtain ⟨h1, h2⟩ := mDel_find q es (i + 1) j v h
      refine ⟨by omega, ?_⟩
      rw [show j - i = (j - (i + 1)) + 1 by omega, List.eraseIdx_cons_succ, h2]
      simp [mDel, hq]
theorem mDel_none (q : Int) : ∀ (es : List (Int × Value × Nat)) (i : Nat), mFind q es i = none -> mDel q es = es
  | [], _, _ => rfl
  | (q', v', b') :: es, i, h => by
    simp only [mFind] at h
    split at h
    . cases h
    . rename_i hq
      simp [mDel, hq, mDel_none q es (i + 1) h]

section
variable {E : Env} {k : List It} {f : Fr} {h : Heap} {H Hr Hr2 : List Chunk} {all : Array Oper} {rest : List Oper} {d : Nat} {ty : TypeId} {pos : String} {aft : Array Edge}
theorem G.rangeMap {t kt et : TypeId} {x : Operand} {m sz1 by1 : Nat} {z1 : Value} {es : List (Int × Value × Nat)} {c : Nat} (hx : ev f x = some (.map (some m))) (ht : Ty E.P t (.map kt et) sz1 by1 z1) (hH : Take (.obj m (mapO es c)) H Hr) (hd : Nat.blt d E.n = true)
    (n : ∀ r, G E (.ops .seq all rest :: k) ((d, .pointer (some ⟨r, 0, none⟩)) :: f) h (.obj r (.mapIter (some m) c #[] c) :: H)) :
    G E (.ops .seq all (⟨some d, .range t x, ty, pos, aft, none⟩ :: rest) :: k) f h H := by
  refine G.opGen fun a w ha hw => ?_
  have hu := ht.fits
  simp only [TD.fits] at hu
  have ho : w.heap[m]? = some (.map (ents es).toArray c) := hw.own _ hH.mem
  have hn : ∀ o, (newObj o).run E.P w = .ok w.heap.size (w.alloc o) := fun o => rfl
  refine ⟨.value (.pointer (some ⟨w.heap.size, 0, none⟩)), w.alloc (.mapIter (some m) c #[] c), _, h, _, ?_, .inl ⟨_, rfl, ha.put d _ hd⟩, hw.alloc _ (.obj w.heap.size (.mapIter (some m) c #[] c)) ?_ rfl, n _⟩
  . simp [execOp, Instr.range, ev_eq ha hx, run_underlying hu, MapKept.run_getObj_map ho, hn, Result.andThen]
  . exact heap_alloc_new w _
theorem St.setObj {c : Ctx} {w : World} {r : Nat} {o o' : Obj} (s : St c h H w) (t : Take (.obj r o) H Hr) : St c h (.obj r o' :: Hr) { w with heap := w.heap.setIfInBounds r o' } := by
  have ho : w.heap[r]? = some o := s.own _ t.mem
  have hlt : r < w.heap.size := lt_of_get ho
  refine s.set (g := r) t rfl rfl ?_ rfl rfl rfl (by simp) (fun b hb => ?_)
  . show (w.heap.setIfInBounds r o')[r]? = some o'
    simp [hlt]
  . simp [Array.getElem?_setIfInBounds, Ne.symm hb]
theorem G.nextMap {x : Operand} {r m since c0 c : Nat} {seen : Array Nat} {es : List (Int × Value × Nat)} (hx : ev f x = some (.pointer (some ⟨r, 0, none⟩))) (hI : Take (.obj r (.mapIter (some m) since seen c0)) H Hr) (hM : Take (.obj m (mapO es c)) H Hr2) (hd : Nat.blt d E.n = true)
    (hold : ∀ x ∈ es, x.2.2 < since) (hsc : since <= c0)
    (over : (∀ x ∈ es, seen.contains x.2.2 = true) -> G E (.ops .seq all rest :: k) ((d, .tuple #[.bool false]) :: f) h H)
    (step : ∀ q v b, (q, v, b) ∈ es -> seen.contains b = false -> G E (.ops .seq all rest :: k) ((d, .tuple #[.bool true, .int .i64 q, v]) :: f) h (.obj r (.mapIter (some m) since (seen.push b) c) :: Hr)) :
    G E (.ops .seq all (⟨some d, .next x false, ty, pos, aft, none⟩ :: rest) :: k) f h H := by
  refine G.opGen fun a w ha hw => ?_
  have hr : w.heap[r]? = some (.mapIter (some m) since seen c0) := hw.own _ hI.mem
  have hb : w.heap[m]? = some (.map (ents es).toArray c) := hw.own _ hM.mem
  have hho : ∀ e ∈ (ents es).toArray.toList, e.born < since := fun e he => by
    obtain ⟨q, v, b, h1, rfl⟩ := mem_ents (by simpa using he)
    exact hold _ h1
  rcases run_next_at (P := E.P) w ty r m since c0 seen (ents es).toArray c hr hb hho hsc with ⟨h0, hrun⟩ | ⟨e, he, w1, hw1, hrun⟩
  . refine ⟨.value (.tuple #[.bool false]), w, _, h, H, ?_, .inl ⟨_, rfl, ha.put d _ hd⟩, hw, over fun x hx => ?_⟩
    . simp [execOp, ev_eq ha hx, hrun]
    . cases hc : seen.contains x.2.2 with
      | true => rfl
      | false =>
        exfalso
        have hm : (⟨.int .i64 x.1, x.2.1, x.2.2⟩ : MapEntry) ∈ leftOf (ents es).toArray seen := by
          unfold leftOf
          simp only [Array.mem_filter, List.mem_toArray]
          refine ⟨?_, by simpa using hc⟩
          simp only [ents, List.mem_map]
          exact ⟨x, hx, rfl⟩
        have : leftOf (ents es).toArray seen = #[] := Array.eq_empty_of_size_eq_zero h0
        rw [this] at hm
        simp at hm
  . have hmem : e ∈ ents es /\ seen.contains e.born = false := by
      have he' : e ∈ leftOf (ents es).toArray seen := by simpa using he
      unfold leftOf at he'
      simp only [Array.mem_filter, List.mem_toArray] at he'
      exact ⟨he'.1, by simpa using he'.2⟩
    obtain ⟨q, v, b, h1, rfl⟩ := mem_ents hmem.1
    have hw1' : St E.c h H w1 := by
      rcases hw1 with rfl | rfl
      . exact hw
      . exact hw.drewN rfl rfl rfl rfl
    refine ⟨.value (.tuple #[.bool true, .int .i64 q, v]), _, _, h, _, ?_, .inl ⟨_, rfl, ha.put d _ hd⟩, hw1'.setObj (o' := .mapIter (some m) since (seen.push b) c) hI, step q v b h1 hmem.2⟩
    simp [execOp, ev_eq ha hx, hrun]
    rfl
theorem G.entryMap {x : Operand} {r m since c b : Nat} {q : Int} {v : Value} {seen : Array Nat} {es : List (Int × Value × Nat)} (hx : ev f x = some (.pointer (some ⟨r, 0, none⟩))) (hI : Take (.obj r (.mapIter (some m) since (seen.push b) c)) H Hr) (hM : Take (.obj m (mapO es c)) H Hr2) (hd : Nat.blt d E.n = true)
    (he : (q, v, b) ∈ es) (hn : (es.map (·.2.2)).Nodup) (n : G E (.ops .seq all rest :: k) ((d, .tuple #[.int .i64 q, v]) :: f) h H) :
    G E (.ops .seq all (⟨some d, .entry x, ty, pos, aft, none⟩ :: rest) :: k) f h H := by
  refine G.opGen fun a w ha hw => ?_
  have hr : w.heap[r]? = some (.mapIter (some m) since (seen.push b) c) := hw.own _ hI.mem
  have hb : w.heap[m]? = some (.map (ents es).toArray c) := hw.own _ hM.mem
  have hrun := run_entry_at (P := E.P) w r m since seen (ents es).toArray c ⟨.int .i64 q, v, b⟩ hr hb (by simp only [ents, List.mem_map]; exact ⟨(q, v, b), he, rfl⟩) (by
    show ((ents es).map (·.born)).Nodup
    rw [ents_born]; exact hn)
  refine ⟨.value (.tuple #[.int .i64 q, v]), w, _, h, H, ?_, .inl ⟨_, rfl, ha.put d _ hd⟩, hw, n⟩
  simp [execOp, ev_eq ha hx, hrun]
theorem G.deleteMap {t t2 kt et : TypeId} {x y : Operand} {dd : Option Nat} (hdd : dd = none) {m sz1 by1 sz2 by2 : Nat} {z1 z2 : Value} {q : Int} {es : List (Int × Value × Nat)} {c : Nat} (hx : ev f x = some (.map (some m))) (hy : ev f y = some (.int .i64 q)) (ht : Ty E.P t (.map kt et) sz1 by1 z1)
    (hk : Ty E.P kt (.int .i64) sz2 by2 z2) (hH : Take (.obj m (mapO es c)) H Hr) (n : G E (.ops .seq all rest :: k) f h (.obj m (mapO (mDel q es) c) :: Hr)) :
    G E (.ops .seq all (⟨dd, .call { callee := .builtin .delete, args := #[x, y], argTypes := #[t, t2] }, ty, pos, aft, none⟩ :: rest) :: k) f h H := by
  subst hdd
  refine G.opGen fun a w ha hw => ?_
  have hu := ht.fits
  have hk' := hk.fits
  simp only [TD.fits] at hu hk'
  have ho : w.heap[m]? = some (.map (ents es).toArray c) := hw.own _ hH.mem
  have hck := fun b => run_checkKey_int (w := w) hk' q b
  cases hf : mFind q es 0 with
  | none =>
    have e1 : mapO (mDel q es) c = .map (ents es).toArray c := by rw [mDel_none q es 0 hf]; rfl
    rw [e1] at n
    refine ⟨.value (.tuple #[]), _, f, h, _, ?_, .inl ⟨_, rfl, ha⟩, hw.setObj hH, n⟩
    simp [execOp, resolve, invoke, builtin, ev_eq ha hx, ev_eq ha hy, Builtin.delete_, run_underlying hu, MapKept.run_getObj_map ho, hck, run_findKey_int hk', hf, MapKept.run_setObj_map _ ho, Result.andThen]
  | some p =>
    obtain ⟨j, u⟩ := p
    obtain ⟨_, h2⟩ := mDel_find q es 0 j u hf
    rw [Nat.sub_zero] at h2
    have e1 : mapO (mDel q es) c = .map ((ents es).toArray.eraseIdxIfInBounds j) c := by
      rw [<- h2]
      simp [mapO, ents, map_erase]
    rw [e1] at n
    refine ⟨.value (.tuple #[]), _, f, h, _, ?_, .inl ⟨_, rfl, ha⟩, hw.setObj hH, n⟩
    simp [execOp, resolve, invoke, builtin, ev_eq ha hx, ev_eq ha hy, Builtin.delete_, run_underlying hu, MapKept.run_getObj_map ho, hck, run_findKey_int hk', hf, MapKept.run_setObj_map _ ho, Result.andThen]
end
end Go.Proofs.YtmbpjgjajedonaaGreatDoor
namespace Go.Proofs.YtmbpjgjajedonaaGreatDoor
set_option linter.all false
set_option maxRecDepth 4000
open Go.RowKit

abbrev bA (s : List UInt8) : ByteArray := ⟨s.toArray⟩
section
variable {E : Env} {k : List It} {f : Fr} {h : Heap} {H Hr : List Chunk} {all : Array Oper} {rest : List Oper} {d : Nat} {ty : TypeId} {pos : String} {aft : Array Edge}
end
end Go.Proofs.YtmbpjgjajedonaaGreatDoor
