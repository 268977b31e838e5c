/- slices.Sort of texts, strings.Join with a text between, as contracts of the light walk; rows that are only read, cut short. -/
import Derived.Test.YtahpemfnhepgoaaLtT
import Derived.Test.YtahpemfnhepgoaaLtO
import Derived.Test.YtahpemfnhepgoaaTy
import Derived.Test.YtahpemfnhepgoaaShS
import Derived.Test.YtahpemfnhepgoaaShf
import Derived.Shelf.Slices.In.SortNone
namespace Go.Proofs.Ytahpemfnhepgoaa
set_option linter.all false
set_option maxRecDepth 4000
open Go.RowKit

theorem St.grow {c : Ctx} {h : Heap} {H : List Chunk} {w w' : World} (s : St c h H w) {os : Array Obj} (hh : w'.heap = w.heap ++ os) (ho : w'.os = w.os) (ht : w'.tape = w.tape) (hp : w'.output = w.output) : St c h H w' := by
  have hk : ∀ b, b < w.heap.size -> w'.heap[b]? = w.heap[b]? := fun b hb => by rw [hh, Array.getElem?_append_left hb]
  refine ⟨ho.trans s.os, ht.trans s.tape, hp.trans s.output, by rw [hh, Array.size_append]; have := s.size; omega, fun b hb hK => ?_, s.mono, fun b o hb => ?_, fun x hx => ?_, s.nodup, s.sep, s.ksub, s.isub⟩
  . rw [hk b (Nat.lt_of_lt_of_le hb s.size)]; exact s.fr b hb hK
  . rw [hk b (lt_of_get (s.imm b o hb))]; exact s.imm b o hb
  . exact Chunk.holds_congr (fun g hg => hk g (Chunk.holds_lt (s.own x hx) g hg)) (s.own x hx)
def sortM (L : List (List UInt8)) : List (List UInt8) := L.mergeSort fun x y => decide (x <= y)
theorem sortM_len (L : List (List UInt8)) : (sortM L).length = L.length := (List.mergeSort_perm L _).length_eq
theorem sflat (L : List (List UInt8)) : (strsR L).flatten = L.map str := by
  induction L with
  | nil => rfl
  | cons x r ih => simp only [strsR, List.map_cons, List.flatten_cons] at ih ⊢; rw [ih]; rfl
theorem callSort : Callable Try.prog 47 := ⟨_, Try.func47, by kernel_rfl, rfl⟩
theorem strs_Sort (v : Value) (e : TypeId) (L : List (List UInt8)) (hL : L.length <= 100000000) (h : Heap) :
    Spec Try.prog 47 [v] h [.row v e 1 (strsR L)] (fun u _ H' => u = .tuple #[] /\ H' = [.row v e 1 (strsR (sortM L))]) := by
  refine ⟨fun w hw => ?_⟩
  have ho := hw.own _ (List.mem_singleton.2 rfl)
  rcases ho.2 with ⟨rfl, h0⟩ | ⟨g, cap, cur, fz, rfl, hb, hu, hnc, hcm, hcs, htk⟩
  . have hl0 : L = [] := by simpa [strsR] using h0
    subst hl0
    refine (Any.slices_Sort_string_none laysSort none 0 w).mono ?_
    rintro e' w' ⟨rfl, rfl⟩
    have hs0 : sortM [] = [] := by simp [sortM]
    rw [hs0]
    exact ⟨_, h, _, rfl, ⟨rfl, rfl⟩, hw.start⟩
  . rw [strsR_length] at *
    rw [sflat] at htk
    simp only [Nat.mul_one] at hcs htk
    have hcell : ∀ j, j < L.toArray.size -> w.cell? ⟨g, 0 + j, none⟩ = some (encStr L.toArray[j]!) /\ w.frozen? ⟨g, 0 + j, none⟩ = false := by
      intro j hj
      have hj : j < L.length := by simpa using hj
      rw [Nat.zero_add]
      refine ⟨(row_cells ho).2 j _ ?_, blk_unfrozen (cs := cur.toList) (t := e) ⟨fz, hb, by simpa using hu⟩ (by simp; omega)⟩
      rw [sflat, List.getElem?_map]
      simp [hj, str]
    refine (Any.slices_Sort_string laysSort g 0 cap L w hcell (lt_of_get hb) (by omega)).mono ?_
    rintro e' w' ⟨rfl, n, os, rfl⟩
    have hgl := lt_of_get hb
    have hlen := sortM_len L
    have hmod : (Sort.putRow encStr (Sort.ahead w n) g 0 (sortM L).toArray).heap[g]? = some (.cells (Sort.putCells encStr 0 (sortM L).toArray cur) e fz) := by
      simp [Sort.putRow, Sort.mapBlock, Sort.ahead, Array.getElem?_modify, hb, Sort.onCells]
    refine ⟨_, h, [.row (.slice (some ⟨g, 0, none⟩) L.length cap) e 1 (strsR (sortM L))], rfl, ⟨rfl, rfl⟩, ?_⟩
    refine St.grow (w := Sort.putRow encStr (Sort.ahead w n) g 0 (sortM L).toArray) (os := os) ?_ rfl rfl rfl rfl
    refine hw.start.set (g := g) (Take.hd) rfl rfl ⟨?_, .inr ⟨g, cap, Sort.putCells encStr 0 (sortM L).toArray cur, fz, ?_, hmod, ?_, ?_, hcm, ?_, ?_⟩⟩ rfl rfl rfl ?_ ?_
    . exact rowed_strs _
    . rw [strsR_length, hlen]
    . simpa [Sort.putCells] using hu
    . rw [strsR_length, hlen]; exact hnc
    . simp [Sort.putCells, hcs]
    . rw [strsR_length, sflat, hlen, Nat.mul_one]
      apply list_ext_get (by simp [Sort.putCells, hlen, hcs]; omega)
      intro j hj
      have hjl : j < L.length := by simp [Sort.putCells] at hj; omega
      rw [List.getElem?_take_of_lt hjl]
      have hjc : j < cur.size := by omega
      simp [Sort.putCells, hjc, hlen, hjl, str]
    . simp [Sort.putRow, Sort.mapBlock, Sort.ahead]
    . intro b hb'
      simp [Sort.putRow, Sort.mapBlock, Sort.ahead, Array.getElem?_modify, Ne.symm hb']
theorem extraJ : Builder.Extra Try.prog laysJoin_ren where
  sizeBuilder := by kernel_rfl
  liesBuilder := by kernel_rfl
  t5 := Try.underlying5
  a5 := Try.isAgg5
  z5 := Try.sizeOf5
  v5 := Try.zeroValue5
  infoByte := by kernel_rfl
  cellsByte := by kernel_rfl
  sizeByte := by kernel_rfl
  neB5 := by decide
theorem St.below {h : Heap} {H : List Chunk} {w w' : World} (s : StI h H w) (b : Below w.heap.size w w') : St ⟨w, keys H, h⟩ h H w' := by
  have hk : ∀ x ∈ H, ∀ g, x.key = some g -> w'.heap[g]? = w.heap[g]? := fun x hx g hg => b.block g (Chunk.holds_lt (s.own x hx) g hg)
  exact ⟨b.os, b.tape, b.output, b.size, fun q hq _ => b.block q hq, Heap.le_refl h, fun q o ho => by
      have h1 := s.imm q o ho
      rw [b.block q (lt_of_get h1)]; exact h1, fun x hx => Chunk.holds_congr (hk x hx) (s.own x hx), s.nodup, s.sep, fun g hg => .inl hg, fun q o ho => .inl ⟨o, ho⟩⟩
theorem callJoinS : Callable Try.prog 48 := ⟨_, Try.func48, by kernel_rfl, rfl⟩
theorem strs_JoinS (v : Value) (e : TypeId) (sep : List UInt8) (L : List (List UInt8)) (hL : L.length <= 100000000) (hf : (Lib.join L sep).length <= 100000000) (h : Heap) :
    Spec Try.prog 48 [v, str sep] h [.row v e 1 (strsR L)] (fun u _ H' => u = str (Lib.join L sep) /\ H' = [.row v e 1 (strsR L)]) := by
  refine ⟨fun w hw => ?_⟩
  have ho := hw.own _ (List.mem_singleton.2 rfl)
  have hmap : (L.map fun l => (⟨l.toArray⟩ : ByteArray)).map (·.data.toList) = L := by
    rw [List.map_map, show ((fun x : ByteArray => x.data.toList) ∘ fun l : List UInt8 => (⟨l.toArray⟩ : ByteArray)) = id from by funext l; simp, List.map_id]
  have fin : ∀ e' w', e' = Ending.returned (.string ⟨(Lib.join ((L.map fun l => (⟨l.toArray⟩ : ByteArray)).map (·.data.toList)) (⟨sep.toArray⟩ : ByteArray).data.toList).toArray⟩) /\ Below w.heap.size w w' →
      ∃ u h' H', e' = .returned u /\ (u = str (Lib.join L sep) /\ H' = [.row v e 1 (strsR L)]) /\ St ⟨w, keys [.row v e 1 (strsR L)], h⟩ h' H' w' := by
    rintro e' w' ⟨rfl, hb⟩
    rw [hmap, show (⟨sep.toArray⟩ : ByteArray).data.toList = sep from by simp]
    exact ⟨_, h, _, rfl, ⟨rfl, rfl⟩, St.below hw hb⟩
  rcases ho.2 with ⟨rfl, h0⟩ | ⟨g, cap, cur, fz, hv, hb, _, hnc, _, _, _⟩
  . have hl0 : L = [] := by simpa [strsR] using h0
    subst hl0
    refine (Any.strings_Join_none laysJoin extraJ none 0 ⟨sep.toArray⟩ w).mono fun e' w' ⟨he, hw'⟩ => fin e' w' ⟨?_, hw' ▸ Below.refl _ _⟩
    rw [he]; rfl
  . subst hv
    rw [strsR_length] at *
    have hc := (row_cells ho).2
    have hlen : (L.map fun l => (⟨l.toArray⟩ : ByteArray)).length = L.length := by simp
    have hj : (Lib.join ((L.map fun l => (⟨l.toArray⟩ : ByteArray)).map (·.data.toList)) (⟨sep.toArray⟩ : ByteArray).data.toList).length <= 140737488355328 := by
      rw [hmap, show (⟨sep.toArray⟩ : ByteArray).data.toList = sep from by simp]; omega
    have := Any.strings_Join laysJoin extraJ g 0 cap (L.map fun l => (⟨l.toArray⟩ : ByteArray)) ⟨sep.toArray⟩ w (fun j x hx => by
      rw [Nat.zero_add]
      refine hc j _ ?_
      rw [sflat, List.getElem?_map]
      rw [List.getElem?_map] at hx
      cases hl : L[j]? with
      | none => rw [hl] at hx; cases hx
      | some l =>
        rw [hl] at hx
        simp only [Option.map_some, Option.some.injEq] at hx
        subst hx; rfl) (lt_of_get hb) (by rw [hlen]; omega) (by rw [hlen]; exact hnc) hj
    rw [hlen] at this
    exact this.mono fin
end Go.Proofs.Ytahpemfnhepgoaa
