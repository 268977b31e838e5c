/- A part of the library, as the kit's shelf has it, for this program. -/
import Derived.Test.YtieibicgankemaaGreatShG
import Derived.Test.YtieibicgankemaaGreatProg
import Derived.Ground.NamesProg
import Derived.Shelf.Sort.Plain
import Derived.Shelf.Strings.OnBuilder
import Derived.Test.YtieibicgankemaaGreatLib
import Derived.Test.YtieibicgankemaaGreatLtO
import Derived.Test.YtieibicgankemaaGreatTy
import Derived.Shelf.Slices.In.SortNone
namespace Go.Proofs.YtieibicgankemaaGreat
set_option linter.all false
set_option maxRecDepth 4000
open Go.Shelf
def laysSort_ren : Go.Shelf.Ren := ⟨fun | 190 => 47 | 125 => 65 | 258 => 64 | 128 => 84 | 129 => 85 | 302 => 75 | 303 => 76 | 304 => 77 | 305 => 78 | 306 => 79 | 307 => 80 | 308 => 81 | 309 => 82 | 310 => 83 | 333 => 93 | 329 => 94 | 330 => 95 | 334 => 96 | 335 => 97 | 336 => 98 | 344 => 102 | n => n, fun | 31 => 43 | 9 => 9 | 3 => 3 | 46 => 116 | 0 => 0 | 51 => 139 | 53 => 141 | 4 => 4 | 183 => 132 | 182 => 131 | 131 => 136 | 5 => 5 | 218 => 145 | 222 => 149 | 228 => 156 | 229 => 157 | n => n, fun | n => n⟩
theorem laysSort : Go.Proofs.Lays.n190 Tryz.prog laysSort_ren := {
  mixed := by kernel_rfl
  f125 := Tryz.func65.trans (congrArg some (by kernel_rfl))
  f128 := Tryz.func84.trans (congrArg some (by kernel_rfl))
  f129 := Tryz.func85.trans (congrArg some (by kernel_rfl))
  f190 := Tryz.func47.trans (congrArg some (by kernel_rfl))
  f258 := Tryz.func64.trans (congrArg some (by kernel_rfl))
  f302 := Tryz.func75.trans (congrArg some (by kernel_rfl))
  f303 := Tryz.func76.trans (congrArg some (by kernel_rfl))
  f304 := Tryz.func77.trans (congrArg some (by kernel_rfl))
  f305 := Tryz.func78.trans (congrArg some (by kernel_rfl))
  f306 := Tryz.func79.trans (congrArg some (by kernel_rfl))
  f307 := Tryz.func80.trans (congrArg some (by kernel_rfl))
  f308 := Tryz.func81.trans (congrArg some (by kernel_rfl))
  f309 := Tryz.func82.trans (congrArg some (by kernel_rfl))
  f310 := Tryz.func83.trans (congrArg some (by kernel_rfl))
  f329 := Tryz.func94.trans (congrArg some (by kernel_rfl))
  f330 := Tryz.func95.trans (congrArg some (by kernel_rfl))
  f333 := Tryz.func93.trans (congrArg some (by kernel_rfl))
  f334 := Tryz.func96.trans (congrArg some (by kernel_rfl))
  f335 := Tryz.func97.trans (congrArg some (by kernel_rfl))
  f336 := Tryz.func98.trans (congrArg some (by kernel_rfl))
  f344 := Tryz.func102.trans (congrArg some (by kernel_rfl))
  t0 := Tryz.underlying0
  a0 := Tryz.isAgg0
  z0 := Tryz.sizeOf0
  v0 := Tryz.zeroValue0
  t3 := Tryz.underlying3
  a3 := Tryz.isAgg3
  z3 := Tryz.sizeOf3
  v3 := Tryz.zeroValue3
  t4 := Tryz.underlying4
  a4 := Tryz.isAgg4
  z4 := Tryz.sizeOf4
  v4 := Tryz.zeroValue4
  t5 := Tryz.underlying5
  a5 := Tryz.isAgg5
  z5 := Tryz.sizeOf5
  v5 := Tryz.zeroValue5
  t9 := Tryz.underlying9
  a9 := Tryz.isAgg9
  z9 := Tryz.sizeOf9
  v9 := Tryz.zeroValue9
  t31 := Tryz.underlying43
  a31 := Tryz.isAgg43
  z31 := Tryz.sizeOf43
  v31 := Tryz.zeroValue43
  t46 := Tryz.underlying116
  a46 := Tryz.isAgg116
  z46 := Tryz.sizeOf116
  v46 := Tryz.zeroValue116
  t51 := Tryz.underlying139
  a51 := Tryz.isAgg139
  z51 := Tryz.sizeOf139
  v51 := Tryz.zeroValue139
  t53 := Tryz.underlying141
  a53 := Tryz.isAgg141
  z53 := Tryz.sizeOf141
  v53 := Tryz.zeroValue141
  t131 := Tryz.underlying136
  a131 := Tryz.isAgg136
  z131 := Tryz.sizeOf136
  v131 := Tryz.zeroValue136
  t182 := Tryz.underlying131
  a182 := Tryz.isAgg131
  z182 := Tryz.sizeOf131
  v182 := Tryz.zeroValue131
  t183 := Tryz.underlying132
  a183 := Tryz.isAgg132
  z183 := Tryz.sizeOf132
  v183 := Tryz.zeroValue132
  t218 := Tryz.underlying145
  a218 := Tryz.isAgg145
  z218 := Tryz.sizeOf145
  v218 := Tryz.zeroValue145
  t222 := Tryz.underlying149
  a222 := Tryz.isAgg149
  z222 := Tryz.sizeOf149
  v222 := Tryz.zeroValue149
  t228 := Tryz.underlying156
  a228 := Tryz.isAgg156
  z228 := Tryz.sizeOf156
  v228 := Tryz.zeroValue156
  t229 := Tryz.underlying157
  a229 := Tryz.isAgg157
  z229 := Tryz.sizeOf157
  v229 := Tryz.zeroValue157 }
end Go.Proofs.YtieibicgankemaaGreat
namespace Go.Proofs.YtieibicgankemaaGreat
set_option linter.all false
set_option maxRecDepth 4000
open Go.Shelf
def laysJoin_ren : Go.Shelf.Ren := ⟨fun | 156 => 48 | 165 => 66 | 166 => 67 | 169 => 68 | 240 => 86 | 241 => 87 | 276 => 99 | 277 => 100 | n => n, fun | 31 => 43 | 9 => 9 | 3 => 3 | 4 => 4 | 0 => 0 | 20 => 20 | 72 => 119 | 76 => 123 | 70 => 117 | 37 => 103 | 75 => 122 | 127 => 142 | 164 => 151 | 5 => 5 | 80 => 125 | n => n, fun | n => n⟩
theorem laysJoin : Go.Proofs.Lays.n156 Tryz.prog laysJoin_ren := {
  mixed := by kernel_rfl
  f156 := Tryz.func48.trans (congrArg some (by kernel_rfl))
  f165 := Tryz.func66.trans (congrArg some (by kernel_rfl))
  f166 := Tryz.func67.trans (congrArg some (by kernel_rfl))
  f169 := Tryz.func68.trans (congrArg some (by kernel_rfl))
  f240 := Tryz.func86.trans (congrArg some (by kernel_rfl))
  f241 := Tryz.func87.trans (congrArg some (by kernel_rfl))
  f276 := Tryz.func99.trans (congrArg some (by kernel_rfl))
  f277 := Tryz.func100.trans (congrArg some (by kernel_rfl))
  t0 := Tryz.underlying0
  a0 := Tryz.isAgg0
  z0 := Tryz.sizeOf0
  v0 := Tryz.zeroValue0
  t3 := Tryz.underlying3
  a3 := Tryz.isAgg3
  z3 := Tryz.sizeOf3
  v3 := Tryz.zeroValue3
  t4 := Tryz.underlying4
  a4 := Tryz.isAgg4
  z4 := Tryz.sizeOf4
  v4 := Tryz.zeroValue4
  t9 := Tryz.underlying9
  a9 := Tryz.isAgg9
  z9 := Tryz.sizeOf9
  v9 := Tryz.zeroValue9
  t20 := Tryz.underlying20
  a20 := Tryz.isAgg20
  z20 := Tryz.sizeOf20
  v20 := Tryz.zeroValue20
  t31 := Tryz.underlying43
  a31 := Tryz.isAgg43
  z31 := Tryz.sizeOf43
  v31 := Tryz.zeroValue43
  t37 := Tryz.underlying103
  a37 := Tryz.isAgg103
  z37 := Tryz.sizeOf103
  v37 := Tryz.zeroValue103
  t70 := Tryz.underlying117
  a70 := Tryz.isAgg117
  z70 := Tryz.sizeOf117
  v70 := Tryz.zeroValue117
  t72 := Tryz.underlying119
  a72 := Tryz.isAgg119
  z72 := Tryz.sizeOf119
  v72 := Tryz.zeroValue119
  t75 := Tryz.underlying122
  a75 := Tryz.isAgg122
  z75 := Tryz.sizeOf122
  v75 := Tryz.zeroValue122
  t76 := Tryz.underlying123
  a76 := Tryz.isAgg123
  z76 := Tryz.sizeOf123
  v76 := Tryz.zeroValue123
  t127 := Tryz.underlying142
  a127 := Tryz.isAgg142
  z127 := Tryz.sizeOf142
  v127 := Tryz.zeroValue142
  t164 := Tryz.underlying151
  a164 := Tryz.isAgg151
  z164 := Tryz.sizeOf151
  v164 := Tryz.zeroValue151 }
end Go.Proofs.YtieibicgankemaaGreat
namespace Go.Proofs.YtieibicgankemaaGreat
set_option linter.all false
set_option maxRecDepth 4000
open Go.RowKit

theorem St.grow {c : Ctx} {h : Heap} {H : List Chunk} {w w' : World} (s : St c h H w) {os : Array Obj} (hh : w'.heap = w.heap ++ os) (ho : w'.os = w.os) (ht : w'.tape = w.tape) (hp : w'.output = w.output) : St c h H w' := by
  have hk : ∀ b, b < w.heap.size -> w'.heap[b]? = w.heap[b]? := fun b hb => by rw [hh, Array.getElem?_append_left hb]
  refine ⟨ho.trans s.os, ht.trans s.tape, hp.trans s.output, by rw [hh, Array.size_append]; have := s.size; omega, fun b hb hK => ?_, s.mono, fun b o hb => ?_, fun x hx => ?_, s.nodup, s.sep, s.ksub, s.isub⟩
  . rw [hk b (Nat.lt_of_lt_of_le hb s.size)]; exact s.fr b hb hK
  . rw [hk b (lt_of_get (s.imm b o hb))]; exact s.imm b o hb
  . exact Chunk.holds_congr (fun g hg => hk g (Chunk.holds_lt (s.own x hx) g hg)) (s.own x hx)
def sortM (L : List (List UInt8)) : List (List UInt8) := L.mergeSort fun x y => decide (x <= y)
theorem sortM_len (L : List (List UInt8)) : (sortM L).length = L.length := (List.mergeSort_perm L _).length_eq
theorem sflat (L : List (List UInt8)) : (strsR L).flatten = L.map str := by
  induction L with
  | nil => rfl
  | cons x r ih => simp only [strsR, List.map_cons, List.flatten_cons] at ih ⊢; rw [ih]; rfl
theorem callSort : Callable Tryz.prog 47 := ⟨_, Tryz.func47, by kernel_rfl, rfl⟩
theorem strs_Sort (v : Value) (e : TypeId) (L : List (List UInt8)) (hL : L.length <= 100000000) (h : Heap) :
    Spec Tryz.prog 47 [v] h [.row v e 1 (strsR L)] (fun u _ H' => u = .tuple #[] /\ H' = [.row v e 1 (strsR (sortM L))]) := by
  refine ⟨fun w hw => ?_⟩
  have ho := hw.own _ (List.mem_singleton.2 rfl)
  rcases ho.2 with ⟨rfl, h0⟩ | ⟨g, cap, cur, fz, rfl, hb, hu, hnc, hcm, hcs, htk⟩
  . have hl0 : L = [] := by simpa [strsR] using h0
    subst hl0
    refine (Any.slices_Sort_string_none laysSort none 0 w).mono ?_
    rintro e' w' ⟨rfl, rfl⟩
    have hs0 : sortM [] = [] := by simp [sortM]
    rw [hs0]
    exact ⟨_, h, _, rfl, ⟨rfl, rfl⟩, hw.start⟩
  . rw [strsR_length] at *
    rw [sflat] at htk
    simp only [Nat.mul_one] at hcs htk
    have hcell : ∀ j, j < L.toArray.size -> w.cell? ⟨g, 0 + j, none⟩ = some (encStr L.toArray[j]!) /\ w.frozen? ⟨g, 0 + j, none⟩ = false := by
      intro j hj
      have hj : j < L.length := by simpa using hj
      rw [Nat.zero_add]
      refine ⟨(row_cells ho).2 j _ ?_, blk_unfrozen (cs := cur.toList) (t := e) ⟨fz, hb, by simpa using hu⟩ (by simp; omega)⟩
      rw [sflat, List.getElem?_map]
      simp [hj, str]
    refine (Any.slices_Sort_string laysSort g 0 cap L w hcell (lt_of_get hb) (by omega)).mono ?_
    rintro e' w' ⟨rfl, n, os, rfl⟩
    have hgl := lt_of_get hb
    have hlen := sortM_len L
    have hmod : (Sort.putRow encStr (Sort.ahead w n) g 0 (sortM L).toArray).heap[g]? = some (.cells (Sort.putCells encStr 0 (sortM L).toArray cur) e fz) := by
      simp [Sort.putRow, Sort.mapBlock, Sort.ahead, Array.getElem?_modify, hb, Sort.onCells]
    refine ⟨_, h, [.row (.slice (some ⟨g, 0, none⟩) L.length cap) e 1 (strsR (sortM L))], rfl, ⟨rfl, rfl⟩, ?_⟩
    refine St.grow (w := Sort.putRow encStr (Sort.ahead w n) g 0 (sortM L).toArray) (os := os) ?_ rfl rfl rfl rfl
    refine hw.start.set (g := g) (Take.hd) rfl rfl ⟨?_, .inr ⟨g, cap, Sort.putCells encStr 0 (sortM L).toArray cur, fz, ?_, hmod, ?_, ?_, hcm, ?_, ?_⟩⟩ rfl rfl rfl ?_ ?_
    . exact rowed_strs _
    . rw [strsR_length, hlen]
    . simpa [Sort.putCells] using hu
    . rw [strsR_length, hlen]; exact hnc
    . simp [Sort.putCells, hcs]
    . rw [strsR_length, sflat, hlen, Nat.mul_one]
      apply list_ext_get (by simp [Sort.putCells, hlen, hcs]; omega)
      intro j hj
      have hjl : j < L.length := by simp [Sort.putCells] at hj; omega
      rw [List.getElem?_take_of_lt hjl]
      have hjc : j < cur.size := by omega
      simp [Sort.putCells, hjc, hlen, hjl, str]
    . simp [Sort.putRow, Sort.mapBlock, Sort.ahead]
    . intro b hb'
      simp [Sort.putRow, Sort.mapBlock, Sort.ahead, Array.getElem?_modify, Ne.symm hb']
theorem extraJ : Builder.Extra Tryz.prog laysJoin_ren where
  sizeBuilder := by kernel_rfl
  liesBuilder := by kernel_rfl
  t5 := Tryz.underlying5
  a5 := Tryz.isAgg5
  z5 := Tryz.sizeOf5
  v5 := Tryz.zeroValue5
  infoByte := by kernel_rfl
  cellsByte := by kernel_rfl
  sizeByte := by kernel_rfl
  neB5 := by decide
theorem St.below {h : Heap} {H : List Chunk} {w w' : World} (s : StI h H w) (b : Below w.heap.size w w') : St ⟨w, keys H, h⟩ h H w' := by
  have hk : ∀ x ∈ H, ∀ g, x.key = some g -> w'.heap[g]? = w.heap[g]? := fun x hx g hg => b.block g (Chunk.holds_lt (s.own x hx) g hg)
  exact ⟨b.os, b.tape, b.output, b.size, fun q hq _ => b.block q hq, Heap.le_refl h, fun q o ho => by
      have h1 := s.imm q o ho
      rw [b.block q (lt_of_get h1)]; exact h1, fun x hx => Chunk.holds_congr (hk x hx) (s.own x hx), s.nodup, s.sep, fun g hg => .inl hg, fun q o ho => .inl ⟨o, ho⟩⟩
theorem callJoinS : Callable Tryz.prog 48 := ⟨_, Tryz.func48, by kernel_rfl, rfl⟩
theorem strs_JoinS (v : Value) (e : TypeId) (sep : List UInt8) (L : List (List UInt8)) (hL : L.length <= 100000000) (hf : (Lib.join L sep).length <= 100000000) (h : Heap) :
    Spec Tryz.prog 48 [v, str sep] h [.row v e 1 (strsR L)] (fun u _ H' => u = str (Lib.join L sep) /\ H' = [.row v e 1 (strsR L)]) := by
  refine ⟨fun w hw => ?_⟩
  have ho := hw.own _ (List.mem_singleton.2 rfl)
  have hmap : (L.map fun l => (⟨l.toArray⟩ : ByteArray)).map (·.data.toList) = L := by
    rw [List.map_map, show ((fun x : ByteArray => x.data.toList) ∘ fun l : List UInt8 => (⟨l.toArray⟩ : ByteArray)) = id from by funext l; simp, List.map_id]
  have fin : ∀ e' w', e' = Ending.returned (.string ⟨(Lib.join ((L.map fun l => (⟨l.toArray⟩ : ByteArray)).map (·.data.toList)) (⟨sep.toArray⟩ : ByteArray).data.toList).toArray⟩) /\ Below w.heap.size w w' →
      ∃ u h' H', e' = .returned u /\ (u = str (Lib.join L sep) /\ H' = [.row v e 1 (strsR L)]) /\ St ⟨w, keys [.row v e 1 (strsR L)], h⟩ h' H' w' := by
    rintro e' w' ⟨rfl, hb⟩
    rw [hmap, show (⟨sep.toArray⟩ : ByteArray).data.toList = sep from by simp]
    exact ⟨_, h, _, rfl, ⟨rfl, rfl⟩, St.below hw hb⟩
  rcases ho.2 with ⟨rfl, h0⟩ | ⟨g, cap, cur, fz, hv, hb, _, hnc, _, _, _⟩
  . have hl0 : L = [] := by simpa [strsR] using h0
    subst hl0
    refine (Any.strings_Join_none laysJoin extraJ none 0 ⟨sep.toArray⟩ w).mono fun e' w' ⟨he, hw'⟩ => fin e' w' ⟨?_, hw' ▸ Below.refl _ _⟩
    rw [he]; rfl
  . subst hv
    rw [strsR_length] at *
    have hc := (row_cells ho).2
    have hlen : (L.map fun l => (⟨l.toArray⟩ : ByteArray)).length = L.length := by simp
    have hj : (Lib.join ((L.map fun l => (⟨l.toArray⟩ : ByteArray)).map (·.data.toList)) (⟨sep.toArray⟩ : ByteArray).data.toList).length <= 140737488355328 := by
      rw [hmap, show (⟨sep.toArray⟩ : ByteArray).data.toList = sep from by simp]; omega
    have := Any.strings_Join laysJoin extraJ g 0 cap (L.map fun l => (⟨l.toArray⟩ : ByteArray)) ⟨sep.toArray⟩ w (fun j x hx => by
      rw [Nat.zero_add]
      refine hc j _ ?_
      rw [sflat, List.getElem?_map]
      rw [List.getElem?_map] at hx
      cases hl : L[j]? with
      | none => rw [hl] at hx; cases hx
      | some l =>
        rw [hl] at hx
        simp only [Option.map_some, Option.some.injEq] at hx
        subst hx; rfl) (lt_of_get hb) (by rw [hlen]; omega) (by rw [hlen]; exact hnc) hj
    rw [hlen] at this
    exact this.mono fin
end Go.Proofs.YtieibicgankemaaGreat
