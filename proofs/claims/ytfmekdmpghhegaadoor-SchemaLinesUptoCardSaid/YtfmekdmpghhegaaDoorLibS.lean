/- strings.Join, as the kit's shelf has it, for this program. -/
import Derived.Test.YtfmekdmpghhegaaDoorLtA
import Derived.Test.YtfmekdmpghhegaaDoorProg
import Derived.Ground.NamesProg
import Derived.Shelf.Strings.OnBuilder
import Derived.Test.YtfmekdmpghhegaaDoorWrR
import Derived.Test.YtfmekdmpghhegaaDoorLtP
import Derived.Test.YtfmekdmpghhegaaDoorTy
import Derived.Test.YtfmekdmpghhegaaDoorShS
import Derived.Shelf.Slices.In.SortNone
namespace Go.Proofs.YtfmekdmpghhegaaDoor
set_option linter.all false
set_option maxRecDepth 4000
open Go.Shelf
def laysJoin_ren : Go.Shelf.Ren := ⟨fun | 156 => 27 | 165 => 39 | 166 => 40 | 169 => 41 | 240 => 49 | 241 => 50 | 276 => 66 | 277 => 67 | n => n, fun | 31 => 26 | 9 => 9 | 3 => 3 | 4 => 4 | 0 => 0 | 20 => 20 | 72 => 74 | 76 => 78 | 70 => 72 | 37 => 60 | 75 => 77 | 127 => 92 | 164 => 108 | 5 => 5 | 80 => 80 | n => n, fun | n => n⟩
theorem laysJoin : Go.Proofs.Lays.n156 Tryd.prog laysJoin_ren := {
  mixed := by kernel_rfl
  f156 := Tryd.func27.trans (congrArg some (by kernel_rfl))
  f165 := Tryd.func39.trans (congrArg some (by kernel_rfl))
  f166 := Tryd.func40.trans (congrArg some (by kernel_rfl))
  f169 := Tryd.func41.trans (congrArg some (by kernel_rfl))
  f240 := Tryd.func49.trans (congrArg some (by kernel_rfl))
  f241 := Tryd.func50.trans (congrArg some (by kernel_rfl))
  f276 := Tryd.func66.trans (congrArg some (by kernel_rfl))
  f277 := Tryd.func67.trans (congrArg some (by kernel_rfl))
  t0 := Tryd.underlying0
  a0 := Tryd.isAgg0
  z0 := Tryd.sizeOf0
  v0 := Tryd.zeroValue0
  t3 := Tryd.underlying3
  a3 := Tryd.isAgg3
  z3 := Tryd.sizeOf3
  v3 := Tryd.zeroValue3
  t4 := Tryd.underlying4
  a4 := Tryd.isAgg4
  z4 := Tryd.sizeOf4
  v4 := Tryd.zeroValue4
  t9 := Tryd.underlying9
  a9 := Tryd.isAgg9
  z9 := Tryd.sizeOf9
  v9 := Tryd.zeroValue9
  t20 := Tryd.underlying20
  a20 := Tryd.isAgg20
  z20 := Tryd.sizeOf20
  v20 := Tryd.zeroValue20
  t31 := Tryd.underlying26
  a31 := Tryd.isAgg26
  z31 := Tryd.sizeOf26
  v31 := Tryd.zeroValue26
  t37 := Tryd.underlying60
  a37 := Tryd.isAgg60
  z37 := Tryd.sizeOf60
  v37 := Tryd.zeroValue60
  t70 := Tryd.underlying72
  a70 := Tryd.isAgg72
  z70 := Tryd.sizeOf72
  v70 := Tryd.zeroValue72
  t72 := Tryd.underlying74
  a72 := Tryd.isAgg74
  z72 := Tryd.sizeOf74
  v72 := Tryd.zeroValue74
  t75 := Tryd.underlying77
  a75 := Tryd.isAgg77
  z75 := Tryd.sizeOf77
  v75 := Tryd.zeroValue77
  t76 := Tryd.underlying78
  a76 := Tryd.isAgg78
  z76 := Tryd.sizeOf78
  v76 := Tryd.zeroValue78
  t127 := Tryd.underlying92
  a127 := Tryd.isAgg92
  z127 := Tryd.sizeOf92
  v127 := Tryd.zeroValue92
  t164 := Tryd.underlying108
  a164 := Tryd.isAgg108
  z164 := Tryd.sizeOf108
  v164 := Tryd.zeroValue108 }
end Go.Proofs.YtfmekdmpghhegaaDoor
namespace Go.Proofs.YtfmekdmpghhegaaDoor
set_option linter.all false
set_option maxRecDepth 4000
open Go.RowKit

theorem St.grow {c : Ctx} {h : Heap} {H : List Chunk} {w w' : World} (s : St c h H w) {os : Array Obj} (hh : w'.heap = w.heap ++ os) (ho : w'.os = w.os) (ht : w'.tape = w.tape) (hp : w'.output = w.output) : St c h H w' := by
  have hk : ∀ b, b < w.heap.size -> w'.heap[b]? = w.heap[b]? := fun b hb => by rw [hh, Array.getElem?_append_left hb]
  refine ⟨ho.trans s.os, ht.trans s.tape, hp.trans s.output, by rw [hh, Array.size_append]; have := s.size; omega, fun b hb hK => ?_, s.mono, fun b o hb => ?_, fun x hx => ?_, s.nodup, s.sep, s.ksub, s.isub⟩
  . rw [hk b (Nat.lt_of_lt_of_le hb s.size)]; exact s.fr b hb hK
  . rw [hk b (lt_of_get (s.imm b o hb))]; exact s.imm b o hb
  . exact Chunk.holds_congr (fun g hg => hk g (Chunk.holds_lt (s.own x hx) g hg)) (s.own x hx)
def sortM (L : List (List UInt8)) : List (List UInt8) := L.mergeSort fun x y => decide (x <= y)
theorem sortM_len (L : List (List UInt8)) : (sortM L).length = L.length := (List.mergeSort_perm L _).length_eq
theorem sflat (L : List (List UInt8)) : (strsR L).flatten = L.map str := by
  induction L with
  | nil => rfl
  | cons x r ih => simp only [strsR, List.map_cons, List.flatten_cons] at ih ⊢; rw [ih]; rfl
theorem callSort : Callable Tryd.prog 33 := ⟨_, Tryd.func33, by kernel_rfl, rfl⟩
theorem strs_Sort (v : Value) (e : TypeId) (L : List (List UInt8)) (hL : L.length <= 100000000) (h : Heap) :
    Spec Tryd.prog 33 [v] h [.row v e 1 (strsR L)] (fun u _ H' => u = .tuple #[] /\ H' = [.row v e 1 (strsR (sortM L))]) := by
  refine ⟨fun w hw => ?_⟩
  have ho := hw.own _ (List.mem_singleton.2 rfl)
  rcases ho.2 with ⟨rfl, h0⟩ | ⟨g, cap, cur, fz, rfl, hb, hu, hnc, hcm, hcs, htk⟩
  . have hl0 : L = [] := by simpa [strsR] using h0
    subst hl0
    refine (Any.slices_Sort_string_none laysSort none 0 w).mono ?_
    rintro e' w' ⟨rfl, rfl⟩
    have hs0 : sortM [] = [] := by simp [sortM]
    rw [hs0]
    exact ⟨_, h, _, rfl, ⟨rfl, rfl⟩, hw.start⟩
  . rw [strsR_length] at *
    rw [sflat] at htk
    simp only [Nat.mul_one] at hcs htk
    have hcell : ∀ j, j < L.toArray.size -> w.cell? ⟨g, 0 + j, none⟩ = some (encStr L.toArray[j]!) /\ w.frozen? ⟨g, 0 + j, none⟩ = false := by
      intro j hj
      have hj : j < L.length := by simpa using hj
      rw [Nat.zero_add]
      refine ⟨(row_cells ho).2 j _ ?_, blk_unfrozen (cs := cur.toList) (t := e) ⟨fz, hb, by simpa using hu⟩ (by simp; omega)⟩
      rw [sflat, List.getElem?_map]
      simp [hj, str]
    refine (Any.slices_Sort_string laysSort g 0 cap L w hcell (lt_of_get hb) (by omega)).mono ?_
    rintro e' w' ⟨rfl, n, os, rfl⟩
    have hgl := lt_of_get hb
    have hlen := sortM_len L
    have hmod : (Sort.putRow encStr (Sort.ahead w n) g 0 (sortM L).toArray).heap[g]? = some (.cells (Sort.putCells encStr 0 (sortM L).toArray cur) e fz) := by
      simp [Sort.putRow, Sort.mapBlock, Sort.ahead, Array.getElem?_modify, hb, Sort.onCells]
    refine ⟨_, h, [.row (.slice (some ⟨g, 0, none⟩) L.length cap) e 1 (strsR (sortM L))], rfl, ⟨rfl, rfl⟩, ?_⟩
    refine St.grow (w := Sort.putRow encStr (Sort.ahead w n) g 0 (sortM L).toArray) (os := os) ?_ rfl rfl rfl rfl
    refine hw.start.set (g := g) (Take.hd) rfl rfl ⟨?_, .inr ⟨g, cap, Sort.putCells encStr 0 (sortM L).toArray cur, fz, ?_, hmod, ?_, ?_, hcm, ?_, ?_⟩⟩ rfl rfl rfl ?_ ?_
    . exact rowed_strs _
    . rw [strsR_length, hlen]
    . simpa [Sort.putCells] using hu
    . rw [strsR_length, hlen]; exact hnc
    . simp [Sort.putCells, hcs]
    . rw [strsR_length, sflat, hlen, Nat.mul_one]
      apply list_ext_get (by simp [Sort.putCells, hlen, hcs]; omega)
      intro j hj
      have hjl : j < L.length := by simp [Sort.putCells] at hj; omega
      rw [List.getElem?_take_of_lt hjl]
      have hjc : j < cur.size := by omega
      simp [Sort.putCells, hjc, hlen, hjl, str]
    . simp [Sort.putRow, Sort.mapBlock, Sort.ahead]
    . intro b hb'
      simp [Sort.putRow, Sort.mapBlock, Sort.ahead, Array.getElem?_modify, Ne.symm hb']
theorem extraJ : Builder.Extra Tryd.prog laysJoin_ren where
  sizeBuilder := by kernel_rfl
  liesBuilder := by kernel_rfl
  t5 := Tryd.underlying5
  a5 := Tryd.isAgg5
  z5 := Tryd.sizeOf5
  v5 := Tryd.zeroValue5
  infoByte := by kernel_rfl
  cellsByte := by kernel_rfl
  sizeByte := by kernel_rfl
  neB5 := by decide
theorem St.below {h : Heap} {H : List Chunk} {w w' : World} (s : StI h H w) (b : Below w.heap.size w w') : St ⟨w, keys H, h⟩ h H w' := by
  have hk : ∀ x ∈ H, ∀ g, x.key = some g -> w'.heap[g]? = w.heap[g]? := fun x hx g hg => b.block g (Chunk.holds_lt (s.own x hx) g hg)
  exact ⟨b.os, b.tape, b.output, b.size, fun q hq _ => b.block q hq, Heap.le_refl h, fun q o ho => by
      have h1 := s.imm q o ho
      rw [b.block q (lt_of_get h1)]; exact h1, fun x hx => Chunk.holds_congr (hk x hx) (s.own x hx), s.nodup, s.sep, fun g hg => .inl hg, fun q o ho => .inl ⟨o, ho⟩⟩
theorem callJoinS : Callable Tryd.prog 27 := ⟨_, Tryd.func27, by kernel_rfl, rfl⟩
end Go.Proofs.YtfmekdmpghhegaaDoor
