/- A part of the library, as the kit's shelf has it, for this program. -/
import Derived.Test.YtieibicgankemaaShG
import Derived.Test.YtieibicgankemaaProg
import Derived.Ground.NamesProg
import Derived.Shelf.Sort.Plain
import Derived.Shelf.Strings.OnBuilder
import Derived.Test.YtieibicgankemaaAcJ
import Derived.Test.YtieibicgankemaaLtO
import Derived.Test.YtieibicgankemaaTy
import Derived.Shelf.Slices.In.SortNone
namespace Go.Proofs.Ytieibicgankemaa
set_option linter.all false
set_option maxRecDepth 4000
open Go.Shelf
def laysSort_ren : Go.Shelf.Ren := ⟨fun | 190 => 51 | 125 => 68 | 258 => 67 | 128 => 87 | 129 => 88 | 302 => 78 | 303 => 79 | 304 => 80 | 305 => 81 | 306 => 82 | 307 => 83 | 308 => 84 | 309 => 85 | 310 => 86 | 333 => 95 | 329 => 96 | 330 => 97 | 334 => 98 | 335 => 99 | 336 => 100 | 344 => 104 | n => n, fun | 31 => 49 | 9 => 9 | 3 => 3 | 46 => 41 | 0 => 0 | 51 => 140 | 53 => 142 | 4 => 4 | 183 => 133 | 182 => 132 | 131 => 137 | 5 => 5 | 218 => 145 | 222 => 149 | 228 => 156 | 229 => 157 | n => n, fun | n => n⟩
theorem laysSort : Go.Proofs.Lays.n190 Try.prog laysSort_ren := {
  mixed := by kernel_rfl
  f125 := Try.func68.trans (congrArg some (by kernel_rfl))
  f128 := Try.func87.trans (congrArg some (by kernel_rfl))
  f129 := Try.func88.trans (congrArg some (by kernel_rfl))
  f190 := Try.func51.trans (congrArg some (by kernel_rfl))
  f258 := Try.func67.trans (congrArg some (by kernel_rfl))
  f302 := Try.func78.trans (congrArg some (by kernel_rfl))
  f303 := Try.func79.trans (congrArg some (by kernel_rfl))
  f304 := Try.func80.trans (congrArg some (by kernel_rfl))
  f305 := Try.func81.trans (congrArg some (by kernel_rfl))
  f306 := Try.func82.trans (congrArg some (by kernel_rfl))
  f307 := Try.func83.trans (congrArg some (by kernel_rfl))
  f308 := Try.func84.trans (congrArg some (by kernel_rfl))
  f309 := Try.func85.trans (congrArg some (by kernel_rfl))
  f310 := Try.func86.trans (congrArg some (by kernel_rfl))
  f329 := Try.func96.trans (congrArg some (by kernel_rfl))
  f330 := Try.func97.trans (congrArg some (by kernel_rfl))
  f333 := Try.func95.trans (congrArg some (by kernel_rfl))
  f334 := Try.func98.trans (congrArg some (by kernel_rfl))
  f335 := Try.func99.trans (congrArg some (by kernel_rfl))
  f336 := Try.func100.trans (congrArg some (by kernel_rfl))
  f344 := Try.func104.trans (congrArg some (by kernel_rfl))
  t0 := Try.underlying0
  a0 := Try.isAgg0
  z0 := Try.sizeOf0
  v0 := Try.zeroValue0
  t3 := Try.underlying3
  a3 := Try.isAgg3
  z3 := Try.sizeOf3
  v3 := Try.zeroValue3
  t4 := Try.underlying4
  a4 := Try.isAgg4
  z4 := Try.sizeOf4
  v4 := Try.zeroValue4
  t5 := Try.underlying5
  a5 := Try.isAgg5
  z5 := Try.sizeOf5
  v5 := Try.zeroValue5
  t9 := Try.underlying9
  a9 := Try.isAgg9
  z9 := Try.sizeOf9
  v9 := Try.zeroValue9
  t31 := Try.underlying49
  a31 := Try.isAgg49
  z31 := Try.sizeOf49
  v31 := Try.zeroValue49
  t46 := Try.underlying41
  a46 := Try.isAgg41
  z46 := Try.sizeOf41
  v46 := Try.zeroValue41
  t51 := Try.underlying140
  a51 := Try.isAgg140
  z51 := Try.sizeOf140
  v51 := Try.zeroValue140
  t53 := Try.underlying142
  a53 := Try.isAgg142
  z53 := Try.sizeOf142
  v53 := Try.zeroValue142
  t131 := Try.underlying137
  a131 := Try.isAgg137
  z131 := Try.sizeOf137
  v131 := Try.zeroValue137
  t182 := Try.underlying132
  a182 := Try.isAgg132
  z182 := Try.sizeOf132
  v182 := Try.zeroValue132
  t183 := Try.underlying133
  a183 := Try.isAgg133
  z183 := Try.sizeOf133
  v183 := Try.zeroValue133
  t218 := Try.underlying145
  a218 := Try.isAgg145
  z218 := Try.sizeOf145
  v218 := Try.zeroValue145
  t222 := Try.underlying149
  a222 := Try.isAgg149
  z222 := Try.sizeOf149
  v222 := Try.zeroValue149
  t228 := Try.underlying156
  a228 := Try.isAgg156
  z228 := Try.sizeOf156
  v228 := Try.zeroValue156
  t229 := Try.underlying157
  a229 := Try.isAgg157
  z229 := Try.sizeOf157
  v229 := Try.zeroValue157 }
end Go.Proofs.Ytieibicgankemaa
namespace Go.Proofs.Ytieibicgankemaa
set_option linter.all false
set_option maxRecDepth 4000
open Go.Shelf
def laysJoin_ren : Go.Shelf.Ren := ⟨fun | 156 => 52 | 165 => 69 | 166 => 70 | 169 => 71 | 240 => 89 | 241 => 90 | 276 => 101 | 277 => 102 | n => n, fun | 31 => 49 | 9 => 9 | 3 => 3 | 4 => 4 | 0 => 0 | 20 => 20 | 72 => 119 | 76 => 123 | 70 => 117 | 37 => 100 | 75 => 122 | 127 => 143 | 164 => 151 | 5 => 5 | 80 => 125 | n => n, fun | n => n⟩
theorem laysJoin : Go.Proofs.Lays.n156 Try.prog laysJoin_ren := {
  mixed := by kernel_rfl
  f156 := Try.func52.trans (congrArg some (by kernel_rfl))
  f165 := Try.func69.trans (congrArg some (by kernel_rfl))
  f166 := Try.func70.trans (congrArg some (by kernel_rfl))
  f169 := Try.func71.trans (congrArg some (by kernel_rfl))
  f240 := Try.func89.trans (congrArg some (by kernel_rfl))
  f241 := Try.func90.trans (congrArg some (by kernel_rfl))
  f276 := Try.func101.trans (congrArg some (by kernel_rfl))
  f277 := Try.func102.trans (congrArg some (by kernel_rfl))
  t0 := Try.underlying0
  a0 := Try.isAgg0
  z0 := Try.sizeOf0
  v0 := Try.zeroValue0
  t3 := Try.underlying3
  a3 := Try.isAgg3
  z3 := Try.sizeOf3
  v3 := Try.zeroValue3
  t4 := Try.underlying4
  a4 := Try.isAgg4
  z4 := Try.sizeOf4
  v4 := Try.zeroValue4
  t9 := Try.underlying9
  a9 := Try.isAgg9
  z9 := Try.sizeOf9
  v9 := Try.zeroValue9
  t20 := Try.underlying20
  a20 := Try.isAgg20
  z20 := Try.sizeOf20
  v20 := Try.zeroValue20
  t31 := Try.underlying49
  a31 := Try.isAgg49
  z31 := Try.sizeOf49
  v31 := Try.zeroValue49
  t37 := Try.underlying100
  a37 := Try.isAgg100
  z37 := Try.sizeOf100
  v37 := Try.zeroValue100
  t70 := Try.underlying117
  a70 := Try.isAgg117
  z70 := Try.sizeOf117
  v70 := Try.zeroValue117
  t72 := Try.underlying119
  a72 := Try.isAgg119
  z72 := Try.sizeOf119
  v72 := Try.zeroValue119
  t75 := Try.underlying122
  a75 := Try.isAgg122
  z75 := Try.sizeOf122
  v75 := Try.zeroValue122
  t76 := Try.underlying123
  a76 := Try.isAgg123
  z76 := Try.sizeOf123
  v76 := Try.zeroValue123
  t127 := Try.underlying143
  a127 := Try.isAgg143
  z127 := Try.sizeOf143
  v127 := Try.zeroValue143
  t164 := Try.underlying151
  a164 := Try.isAgg151
  z164 := Try.sizeOf151
  v164 := Try.zeroValue151 }
end Go.Proofs.Ytieibicgankemaa
namespace Go.Proofs.Ytieibicgankemaa
set_option linter.all false
set_option maxRecDepth 4000
open Go.RowKit

theorem St.grow {c : Ctx} {h : Heap} {H : List Chunk} {w w' : World} (s : St c h H w) {os : Array Obj} (hh : w'.heap = w.heap ++ os) (ho : w'.os = w.os) (ht : w'.tape = w.tape) (hp : w'.output = w.output) : St c h H w' := by
  have hk : ∀ b, b < w.heap.size -> w'.heap[b]? = w.heap[b]? := fun b hb => by rw [hh, Array.getElem?_append_left hb]
  refine ⟨ho.trans s.os, ht.trans s.tape, hp.trans s.output, by rw [hh, Array.size_append]; have := s.size; omega, fun b hb hK => ?_, s.mono, fun b o hb => ?_, fun x hx => ?_, s.nodup, s.sep, s.ksub, s.isub⟩
  . rw [hk b (Nat.lt_of_lt_of_le hb s.size)]; exact s.fr b hb hK
  . rw [hk b (lt_of_get (s.imm b o hb))]; exact s.imm b o hb
  . exact Chunk.holds_congr (fun g hg => hk g (Chunk.holds_lt (s.own x hx) g hg)) (s.own x hx)
def sortM (L : List (List UInt8)) : List (List UInt8) := L.mergeSort fun x y => decide (x <= y)
theorem sortM_len (L : List (List UInt8)) : (sortM L).length = L.length := (List.mergeSort_perm L _).length_eq
theorem sflat (L : List (List UInt8)) : (strsR L).flatten = L.map str := by
  induction L with
  | nil => rfl
  | cons x r ih => simp only [strsR, List.map_cons, List.flatten_cons] at ih ⊢; rw [ih]; rfl
theorem callSort : Callable Try.prog 51 := ⟨_, Try.func51, by kernel_rfl, rfl⟩
theorem strs_Sort (v : Value) (e : TypeId) (L : List (List UInt8)) (hL : L.length <= 100000000) (h : Heap) :
    Spec Try.prog 51 [v] h [.row v e 1 (strsR L)] (fun u _ H' => u = .tuple #[] /\ H' = [.row v e 1 (strsR (sortM L))]) := by
  refine ⟨fun w hw => ?_⟩
  have ho := hw.own _ (List.mem_singleton.2 rfl)
  rcases ho.2 with ⟨rfl, h0⟩ | ⟨g, cap, cur, fz, rfl, hb, hu, hnc, hcm, hcs, htk⟩
  . have hl0 : L = [] := by simpa [strsR] using h0
    subst hl0
    refine (Any.slices_Sort_string_none laysSort none 0 w).mono ?_
    rintro e' w' ⟨rfl, rfl⟩
    have hs0 : sortM [] = [] := by simp [sortM]
    rw [hs0]
    exact ⟨_, h, _, rfl, ⟨rfl, rfl⟩, hw.start⟩
  . rw [strsR_length] at *
    rw [sflat] at htk
    simp only [Nat.mul_one] at hcs htk
    have hcell : ∀ j, j < L.toArray.size -> w.cell? ⟨g, 0 + j, none⟩ = some (encStr L.toArray[j]!) /\ w.frozen? ⟨g, 0 + j, none⟩ = false := by
      intro j hj
      have hj : j < L.length := by simpa using hj
      rw [Nat.zero_add]
      refine ⟨(row_cells ho).2 j _ ?_, blk_unfrozen (cs := cur.toList) (t := e) ⟨fz, hb, by simpa using hu⟩ (by simp; omega)⟩
      rw [sflat, List.getElem?_map]
      simp [hj, str]
    refine (Any.slices_Sort_string laysSort g 0 cap L w hcell (lt_of_get hb) (by omega)).mono ?_
    rintro e' w' ⟨rfl, n, os, rfl⟩
    have hgl := lt_of_get hb
    have hlen := sortM_len L
    have hmod : (Sort.putRow encStr (Sort.ahead w n) g 0 (sortM L).toArray).heap[g]? = some (.cells (Sort.putCells encStr 0 (sortM L).toArray cur) e fz) := by
      simp [Sort.putRow, Sort.mapBlock, Sort.ahead, Array.getElem?_modify, hb, Sort.onCells]
    refine ⟨_, h, [.row (.slice (some ⟨g, 0, none⟩) L.length cap) e 1 (strsR (sortM L))], rfl, ⟨rfl, rfl⟩, ?_⟩
    refine St.grow (w := Sort.putRow encStr (Sort.ahead w n) g 0 (sortM L).toArray) (os := os) ?_ rfl rfl rfl rfl
    refine hw.start.set (g := g) (Take.hd) rfl rfl ⟨?_, .inr ⟨g, cap, Sort.putCells encStr 0 (sortM L).toArray cur, fz, ?_, hmod, ?_, ?_, hcm, ?_, ?_⟩⟩ rfl rfl rfl ?_ ?_
    . exact rowed_strs _
    . rw [strsR_length, hlen]
    . simpa [Sort.putCells] using hu
    . rw [strsR_length, hlen]; exact hnc
    . simp [Sort.putCells, hcs]
    . rw [strsR_length, sflat, hlen, Nat.mul_one]
      apply list_ext_get (by simp [Sort.putCells, hlen, hcs]; omega)
      intro j hj
      have hjl : j < L.length := by simp [Sort.putCells] at hj; omega
      rw [List.getElem?_take_of_lt hjl]
      have hjc : j < cur.size := by omega
      simp [Sort.putCells, hjc, hlen, hjl, str]
    . simp [Sort.putRow, Sort.mapBlock, Sort.ahead]
    . intro b hb'
      simp [Sort.putRow, Sort.mapBlock, Sort.ahead, Array.getElem?_modify, Ne.symm hb']
theorem extraJ : Builder.Extra Try.prog laysJoin_ren where
  sizeBuilder := by kernel_rfl
  liesBuilder := by kernel_rfl
  t5 := Try.underlying5
  a5 := Try.isAgg5
  z5 := Try.sizeOf5
  v5 := Try.zeroValue5
  infoByte := by kernel_rfl
  cellsByte := by kernel_rfl
  sizeByte := by kernel_rfl
  neB5 := by decide
theorem St.below {h : Heap} {H : List Chunk} {w w' : World} (s : StI h H w) (b : Below w.heap.size w w') : St ⟨w, keys H, h⟩ h H w' := by
  have hk : ∀ x ∈ H, ∀ g, x.key = some g -> w'.heap[g]? = w.heap[g]? := fun x hx g hg => b.block g (Chunk.holds_lt (s.own x hx) g hg)
  exact ⟨b.os, b.tape, b.output, b.size, fun q hq _ => b.block q hq, Heap.le_refl h, fun q o ho => by
      have h1 := s.imm q o ho
      rw [b.block q (lt_of_get h1)]; exact h1, fun x hx => Chunk.holds_congr (hk x hx) (s.own x hx), s.nodup, s.sep, fun g hg => .inl hg, fun q o ho => .inl ⟨o, ho⟩⟩
theorem callJoinS : Callable Try.prog 52 := ⟨_, Try.func52, by kernel_rfl, rfl⟩
theorem strs_JoinS (v : Value) (e : TypeId) (sep : List UInt8) (L : List (List UInt8)) (hL : L.length <= 100000000) (hf : (Lib.join L sep).length <= 100000000) (h : Heap) :
    Spec Try.prog 52 [v, str sep] h [.row v e 1 (strsR L)] (fun u _ H' => u = str (Lib.join L sep) /\ H' = [.row v e 1 (strsR L)]) := by
  refine ⟨fun w hw => ?_⟩
  have ho := hw.own _ (List.mem_singleton.2 rfl)
  have hmap : (L.map fun l => (⟨l.toArray⟩ : ByteArray)).map (·.data.toList) = L := by
    rw [List.map_map, show ((fun x : ByteArray => x.data.toList) ∘ fun l : List UInt8 => (⟨l.toArray⟩ : ByteArray)) = id from by funext l; simp, List.map_id]
  have fin : ∀ e' w', e' = Ending.returned (.string ⟨(Lib.join ((L.map fun l => (⟨l.toArray⟩ : ByteArray)).map (·.data.toList)) (⟨sep.toArray⟩ : ByteArray).data.toList).toArray⟩) /\ Below w.heap.size w w' →
      ∃ u h' H', e' = .returned u /\ (u = str (Lib.join L sep) /\ H' = [.row v e 1 (strsR L)]) /\ St ⟨w, keys [.row v e 1 (strsR L)], h⟩ h' H' w' := by
    rintro e' w' ⟨rfl, hb⟩
    rw [hmap, show (⟨sep.toArray⟩ : ByteArray).data.toList = sep from by simp]
    exact ⟨_, h, _, rfl, ⟨rfl, rfl⟩, St.below hw hb⟩
  rcases ho.2 with ⟨rfl, h0⟩ | ⟨g, cap, cur, fz, hv, hb, _, hnc, _, _, _⟩
  . have hl0 : L = [] := by simpa [strsR] using h0
    subst hl0
    refine (Any.strings_Join_none laysJoin extraJ none 0 ⟨sep.toArray⟩ w).mono fun e' w' ⟨he, hw'⟩ => fin e' w' ⟨?_, hw' ▸ Below.refl _ _⟩
    rw [he]; rfl
  . subst hv
    rw [strsR_length] at *
    have hc := (row_cells ho).2
    have hlen : (L.map fun l => (⟨l.toArray⟩ : ByteArray)).length = L.length := by simp
    have hj : (Lib.join ((L.map fun l => (⟨l.toArray⟩ : ByteArray)).map (·.data.toList)) (⟨sep.toArray⟩ : ByteArray).data.toList).length <= 140737488355328 := by
      rw [hmap, show (⟨sep.toArray⟩ : ByteArray).data.toList = sep from by simp]; omega
    have := Any.strings_Join laysJoin extraJ g 0 cap (L.map fun l => (⟨l.toArray⟩ : ByteArray)) ⟨sep.toArray⟩ w (fun j x hx => by
      rw [Nat.zero_add]
      refine hc j _ ?_
      rw [sflat, List.getElem?_map]
      rw [List.getElem?_map] at hx
      cases hl : L[j]? with
      | none => rw [hl] at hx; cases hx
      | some l =>
        rw [hl] at hx
        simp only [Option.map_some, Option.some.injEq] at hx
        subst hx; rfl) (lt_of_get hb) (by rw [hlen]; omega) (by rw [hlen]; exact hnc) hj
    rw [hlen] at this
    exact this.mono fin
end Go.Proofs.Ytieibicgankemaa
