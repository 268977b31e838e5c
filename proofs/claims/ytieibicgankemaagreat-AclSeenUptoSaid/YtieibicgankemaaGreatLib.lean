/- Rules of the light walk: a range over a map, delete. -/
import Derived.Test.YtieibicgankemaaGreatLtQ
import Derived.Maps.RangeRun
import Derived.Lib.OthersKept
import Derived.Lib.DecodeN
import Derived.Test.YtieibicgankemaaGreatShG
import Derived.Test.YtieibicgankemaaGreatProg
import Derived.Ground.NamesProg
import Derived.Shelf.Strings.Cut
import Derived.Shelf.Small.Strs
import Derived.Test.YtieibicgankemaaGreatTy
import Derived.Shelf.Strings.Search2
namespace Go.Proofs.YtieibicgankemaaGreat
set_option linter.all false
set_option maxRecDepth 4000
open Go.RowKit

section
variable {E : Env} {k : List It} {f : Fr} {h : Heap} {H Hr Hr2 : List Chunk} {all : Array Oper} {rest : List Oper} {d : Nat} {ty : TypeId} {pos : String} {aft : Array Edge}
theorem St.setObj {c : Ctx} {w : World} {r : Nat} {o o' : Obj} (s : St c h H w) (t : Take (.obj r o) H Hr) : St c h (.obj r o' :: Hr) { w with heap := w.heap.setIfInBounds r o' } := by
  have ho : w.heap[r]? = some o := s.own _ t.mem
  have hlt : r < w.heap.size := lt_of_get ho
  refine s.set (g := r) t rfl rfl ?_ rfl rfl rfl (by simp) (fun b hb => ?_)
  . show (w.heap.setIfInBounds r o')[r]? = some o'
    simp [hlt]
  . simp [Array.getElem?_setIfInBounds, Ne.symm hb]
end
end Go.Proofs.YtieibicgankemaaGreat
namespace Go.Proofs.YtieibicgankemaaGreat
set_option linter.all false
set_option maxRecDepth 4000
open Go.RowKit

abbrev bA (s : List UInt8) : ByteArray := ⟨s.toArray⟩
def runeAt (s : List UInt8) (i : Nat) : Nat × Nat := Utf8.decode (bA s) i
theorem bA_size (s : List UInt8) : (bA s).size = s.length := by simp [bA, ByteArray.size]
theorem bA_get {s : List UInt8} {i : Nat} (h : i < s.length) : (bA s).get! i = s[i] := by
  show (bA s).data[i]! = _
  simp [bA, h]
theorem runeAt_low {s : List UInt8} {i : Nat} (h : i < s.length) (hb : (s[i]'h).toNat < 128) : runeAt s i = ((s[i]'h).toNat, 1) := by
  have hz : i < (bA s).size := by rw [bA_size]; exact h
  have e : (bA s)[i]'hz = s[i] := by simp [bA, ByteArray.getElem_eq_getElem_data]
  unfold runeAt
  rw [decode_ascii (bA s) i hz (by rw [e]; exact hb), e]
theorem runeAt_high {s : List UInt8} {i : Nat} (h : i < s.length) (hb : ¬ (s[i]'h).toNat < 128) : 128 <= (runeAt s i).1 /\ (runeAt s i).1 <= 1114111 /\ 1 <= (runeAt s i).2 := by
  have e0 := bA_get h
  have l1 := ((bA s).get! (i + 1)).toNat_lt
  have l2 := ((bA s).get! (i + 2)).toNat_lt
  have l3 := ((bA s).get! (i + 3)).toNat_lt
  have l0 := (s[i]'h).toNat_lt
  unfold runeAt
  rw [Lib.decode_at, e0]
  generalize (s[i]'h).toNat = b0 at *
  generalize ((bA s).get! (i + 1)).toNat = b1 at *
  generalize ((bA s).get! (i + 2)).toNat = b2 at *
  generalize ((bA s).get! (i + 3)).toNat = b3 at *
  unfold Lib.decodeN
  repeat' split
  all_goals first | (exfalso; omega) | (simp only; omega)
section
variable {E : Env} {k : List It} {f : Fr} {h : Heap} {H Hr : List Chunk} {all : Array Oper} {rest : List Oper} {d : Nat} {ty : TypeId} {pos : String} {aft : Array Edge}
theorem G.rangeStr {t : TypeId} {x : Operand} {s : List UInt8} {sz1 by1 : Nat} {z1 : Value} (hx : ev f x = some (str s)) (ht : Ty E.P t .str sz1 by1 z1) (hd : Nat.blt d E.n = true)
    (n : ∀ r, G E (.ops .seq all rest :: k) ((d, .pointer (some ⟨r, 0, none⟩)) :: f) h (.obj r (.stringIter (bA s) 0) :: H)) :
    G E (.ops .seq all (⟨some d, .range t x, ty, pos, aft, none⟩ :: rest) :: k) f h H := by
  refine G.opGen fun a w ha hw => ?_
  have hu := ht.fits
  simp only [TD.fits] at hu
  refine ⟨.value (.pointer (some ⟨w.heap.size, 0, none⟩)), w.iter (bA s) 0, _, h, _, ?_, .inl ⟨_, rfl, ha.put d _ hd⟩, hw.alloc _ (.obj w.heap.size (.stringIter (bA s) 0)) ?_ rfl, n _⟩
  . simp [execOp, ev_eq ha hx, str, run_range_string w t _ hu, bA]
  . exact heap_alloc_new w _
theorem G.nextStr {x : Operand} {r p : Nat} {s : List UInt8} (hx : ev f x = some (.pointer (some ⟨r, 0, none⟩))) (hI : Take (.obj r (.stringIter (bA s) p)) H Hr) (hd : Nat.blt d E.n = true)
    (over : s.length <= p -> G E (.ops .seq all rest :: k) ((d, .tuple #[.bool false]) :: f) h H)
    (step : p < s.length -> G E (.ops .seq all rest :: k) ((d, .tuple #[.bool true, .int .i64 p, .int .i32 (runeAt s p).1]) :: f) h (.obj r (.stringIter (bA s) (p + (runeAt s p).2)) :: Hr)) :
    G E (.ops .seq all (⟨some d, .next x true, ty, pos, aft, none⟩ :: rest) :: k) f h H := by
  refine G.opGen fun a w ha hw => ?_
  have hr : w.heap[r]? = some (.stringIter (bA s) p) := hw.own _ hI.mem
  by_cases hp : p < s.length
  . have hp' : p < (bA s).size := by rw [bA_size]; exact hp
    refine ⟨.value (.tuple #[.bool true, .int .i64 p, .int .i32 (runeAt s p).1]), { w with heap := w.heap.setIfInBounds r (.stringIter (bA s) (p + (runeAt s p).2)) }, _, h, _, ?_, .inl ⟨_, rfl, ha.put d _ hd⟩, hw.setObj hI, step hp⟩
    simp [execOp, ev_eq ha hx, Lib.run_next_any_at w r (bA s) p ty hr hp', runeAt, World.iterAt]
  . have hp' : ¬ p < (bA s).size := by rw [bA_size]; exact hp
    refine ⟨.value (.tuple #[.bool false]), w, _, h, H, ?_, .inl ⟨_, rfl, ha.put d _ hd⟩, hw, over (by omega)⟩
    simp [execOp, ev_eq ha hx, Lib.run_next_end_at w r (bA s) p ty hr hp']
theorem G.makeSlice0 {t e : TypeId} {x y : Operand} {td : TD} {kx ky : IntKind} {n : Int} {sz by_ sz1 by1 : Nat} {z z1 : Value} (hx : ev f x = some (.int kx 0)) (hy : ev f y = some (.int ky n)) (ht : Ty E.P t (.slice e) sz1 by1 z1)
    (he : Ty E.P e td sz by_ z) (hb : 0 <= n /\ n <= 9223372036854775807 /\ by_ * n <= 281474976710656) (hd : Nat.blt d E.n = true)
    (g : ∀ v, G E (.ops .seq all rest :: k) ((d, v) :: f) h (.row v e sz [] :: H)) :
    G E (.ops .seq all (⟨some d, .makeSlice t x y, ty, pos, aft, none⟩ :: rest) :: k) f h H := by
  have f1 := ht.fits
  simp only [TD.fits] at f1
  obtain ⟨i, hi, hi1, hi2, hi3⟩ := he.info
  refine G.opGen fun a w ha hw => ⟨.value (.slice (some ⟨w.heap.size, 0, none⟩) 0 n.toNat), w.alloc (.cells (madeCells z.cells (n.toNat * i.size)) e), _, h, _, ?_, .inl ⟨_, rfl, ha.put d _ hd⟩, ?_, g _⟩
  . have := run_make (P := E.P) w t e i z f1 hi hi3 kx ky 0 n (Int.le_refl _) hb.1 (by rw [hi2]; exact hb.2.2) (by omega)
    simp [execOp, ev_eq ha hx, ev_eq ha hy, this]
  . refine hw.alloc _ _ ⟨fun r hr => absurd hr (by simp), .inr ⟨w.heap.size, n.toNat, _, (0, 0), by simp, heap_alloc_new w _, fun i _ => by simp, by simp, by simp only [maxLen]; omega, ?_, ?_⟩⟩ rfl
    . simp [madeCells, hi1]
    . simp
end
end Go.Proofs.YtieibicgankemaaGreat
namespace Go.Proofs.YtieibicgankemaaGreat
set_option linter.all false
set_option maxRecDepth 4000
open Go.RowKit
section
variable {E : Env} {k : List It} {f : Fr} {h : Heap} {H Hr : List Chunk} {all : Array Oper} {rest : List Oper} {d : Nat} {ty : TypeId} {pos : String} {aft : Array Edge}
theorem G.cutRow {t e : TypeId} {x y : Operand} {kd : IntKind} {b : Int} {b' : Nat} {td : TD} {sz by_ sz1 by1 : Nat} {z z1 v : Value} {rows : List (List Value)} (hx : ev f x = some v) (hy : ev f y = some (.int kd b))
    (ht : Ty E.P t (.slice e) sz1 by1 z1) (he : Ty E.P e td sz by_ z) (hH : Take (.row v e sz rows) H Hr) (hb' : b.toNat = b') (hb : 0 <= b /\ b <= rows.length) (hd : Nat.blt d E.n = true)
    (n : ∀ v', G E (.ops .seq all rest :: k) ((d, v') :: f) h (.row v' e sz (rows.take b') :: Hr)) :
    G E (.ops .seq all (⟨some d, .slice t x none (some y) none, ty, pos, aft, none⟩ :: rest) :: k) f h H := by
  have hbl : b' <= rows.length := by omega
  refine ⟨fun a w ha hw => ?_⟩
  rcases (hw.own _ hH.mem).2 with ⟨rfl, h0⟩ | ⟨g, cap, cur, fz, rfl, _, _, hnc, _, _, _⟩
  . subst h0
    have : b' = 0 := by simpa using hbl
    subst this
    refine (G.slicePre (b' := 0) hx hy ht he hd hb' ⟨hb.1, by simpa using hb.2⟩ ?_).run a w ha hw
    have hn := n (.slice none 0 0)
    refine ⟨fun a w ha hw => hn.run a w ha (hw.sub ?_)⟩
    exact ⟨[], by simpa using hH.perm⟩
  . refine (G.slicePre (b' := b') hx hy ht he hd hb' ⟨hb.1, by omega⟩ ?_).run a w ha hw
    refine ⟨fun a w ha hw => (n _).run a w ha (hw.set (g := g) hH rfl rfl (row_cut (hw.own _ hH.mem) hbl) rfl rfl rfl rfl (fun _ _ => rfl))⟩
end
end Go.Proofs.YtieibicgankemaaGreat
namespace Go.Proofs.YtieibicgankemaaGreat
set_option linter.all false
set_option maxRecDepth 4000
open Go.Shelf
def laysCut_ren : Go.Shelf.Ren := ⟨fun | 145 => 29 | 220 => 50 | 219 => 69 | 217 => 71 | 225 => 88 | 224 => 89 | 267 => 90 | 266 => 91 | 314 => 101 | n => n, fun | 9 => 9 | 4 => 4 | 59 => 84 | 3 => 3 | 5 => 5 | 46 => 116 | 146 => 154 | 51 => 139 | n => n, fun | 1 => 0 | n => n⟩
theorem laysCut : Go.Proofs.Lays.n145 Tryz.prog laysCut_ren := {
  mixed := by kernel_rfl
  f145 := Tryz.func29.trans (congrArg some (by kernel_rfl))
  f217 := Tryz.func71.trans (congrArg some (by kernel_rfl))
  f219 := Tryz.func69.trans (congrArg some (by kernel_rfl))
  f220 := Tryz.func50.trans (congrArg some (by kernel_rfl))
  f224 := Tryz.func89.trans (congrArg some (by kernel_rfl))
  f225 := Tryz.func88.trans (congrArg some (by kernel_rfl))
  f266 := Tryz.func91.trans (congrArg some (by kernel_rfl))
  f267 := Tryz.func90.trans (congrArg some (by kernel_rfl))
  f314 := Tryz.func101.trans (congrArg some (by kernel_rfl))
  t3 := Tryz.underlying3
  a3 := Tryz.isAgg3
  z3 := Tryz.sizeOf3
  v3 := Tryz.zeroValue3
  t4 := Tryz.underlying4
  a4 := Tryz.isAgg4
  z4 := Tryz.sizeOf4
  v4 := Tryz.zeroValue4
  t5 := Tryz.underlying5
  a5 := Tryz.isAgg5
  z5 := Tryz.sizeOf5
  v5 := Tryz.zeroValue5
  t9 := Tryz.underlying9
  a9 := Tryz.isAgg9
  z9 := Tryz.sizeOf9
  v9 := Tryz.zeroValue9
  t46 := Tryz.underlying116
  a46 := Tryz.isAgg116
  z46 := Tryz.sizeOf116
  v46 := Tryz.zeroValue116
  t51 := Tryz.underlying139
  a51 := Tryz.isAgg139
  z51 := Tryz.sizeOf139
  v51 := Tryz.zeroValue139
  t59 := Tryz.underlying84
  a59 := Tryz.isAgg84
  z59 := Tryz.sizeOf84
  v59 := Tryz.zeroValue84
  t146 := Tryz.underlying154
  a146 := Tryz.isAgg154
  z146 := Tryz.sizeOf154
  v146 := Tryz.zeroValue154
  g1 := by kernel_rfl }
end Go.Proofs.YtieibicgankemaaGreat
namespace Go.Proofs.YtieibicgankemaaGreat
set_option linter.all false
set_option maxRecDepth 4000
open Go.Shelf
def laysIdx_ren : Go.Shelf.Ren := ⟨fun | 137 => 54 | 217 => 71 | 266 => 91 | n => n, fun | 9 => 9 | 5 => 5 | 3 => 3 | n => n, fun | n => n⟩
theorem laysIdx : Go.Proofs.Lays.n137 Tryz.prog laysIdx_ren := {
  mixed := by kernel_rfl
  f137 := Tryz.func54.trans (congrArg some (by kernel_rfl))
  f217 := Tryz.func71.trans (congrArg some (by kernel_rfl))
  f266 := Tryz.func91.trans (congrArg some (by kernel_rfl))
  t3 := Tryz.underlying3
  a3 := Tryz.isAgg3
  z3 := Tryz.sizeOf3
  v3 := Tryz.zeroValue3
  t5 := Tryz.underlying5
  a5 := Tryz.isAgg5
  z5 := Tryz.sizeOf5
  v5 := Tryz.zeroValue5
  t9 := Tryz.underlying9
  a9 := Tryz.isAgg9
  z9 := Tryz.sizeOf9
  v9 := Tryz.zeroValue9 }
end Go.Proofs.YtieibicgankemaaGreat
namespace Go.Proofs.YtieibicgankemaaGreat
set_option linter.all false
set_option maxRecDepth 4000
open Go.RowKit

theorem St.keep {h : Heap} {H : List Chunk} {w : World} (s : StI h H w) : St ⟨w, keys H, h⟩ h H w := s.start
def posB (c : UInt8) : List UInt8 -> Nat
  | [] => 0
  | b :: l => if b = c then 0 else posB c l + 1
theorem posB_le (c : UInt8) : ∀ s, posB c s <= s.length
  | [] => Nat.le_refl _
  | b :: l => by unfold posB; have := posB_le c l; split <;> simp <;> omega
theorem indexByte_pos (c : UInt8) : ∀ s, Lib.indexByte s c = if posB c s < s.length then (posB c s : Int) else -1
  | [] => rfl
  | b :: l => by
    have ih := indexByte_pos c l
    have hl := posB_le c l
    unfold Lib.indexByte posB
    by_cases hb : b = c
    . simp [hb]
    . have hb' : (b == c) = false := by simpa using hb
      rw [if_neg hb, hb']
      simp only [Bool.false_eq_true, if_false]
      rw [ih]
      by_cases h : posB c l < l.length
      . have h2 : posB c l + 1 < (b :: l).length := by simp; omega
        rw [if_pos h, if_pos h2]
        have : (((posB c l : Nat) : Int) == -1) = false := by rw [beq_eq_false_iff_ne]; omega
        rw [this]; simp
      . have h2 : ¬ posB c l + 1 < (b :: l).length := by simp; omega
        rw [if_neg h, if_neg h2]; rfl
theorem posB_get {c : UInt8} : ∀ {s : List UInt8}, posB c s < s.length -> s[posB c s]? = some c
  | [], h => absurd h (by simp [posB])
  | b :: l, h => by
    unfold posB at h ⊢
    by_cases hb : b = c
    . rw [if_pos hb]; simp [hb]
    . rw [if_neg hb] at h ⊢
      have := posB_get (c := c) (s := l) (by simpa using h)
      simpa using this
theorem posB_no {c : UInt8} : ∀ {s : List UInt8} {i : Nat}, i < posB c s -> s[i]? ≠ some c
  | [], i, h => absurd h (by simp [posB])
  | b :: l, i, h => by
    unfold posB at h
    by_cases hb : b = c
    . rw [if_pos hb] at h; exact absurd h (by omega)
    . rw [if_neg hb] at h
      cases i with
      | zero => simpa using hb
      | succ i => have := posB_no (c := c) (s := l) (i := i) (by omega); simpa using this
theorem posB_at {c : UInt8} {s : List UInt8} {i : Nat} (h1 : s[i]? = some c) (h2 : ∀ j, j < i -> s[j]? ≠ some c) : posB c s = i := by
  rcases Nat.lt_trichotomy (posB c s) i with h | h | h
  . exact absurd (posB_get (by have := (List.getElem?_eq_some_iff.1 h1).1; omega)) (h2 _ h)
  . exact h
  . exact absurd h1 (posB_no h)
theorem posB_none {c : UInt8} {s : List UInt8} (h : ∀ j, j < s.length -> s[j]? ≠ some c) : posB c s = s.length := by
  rcases Nat.lt_or_ge (posB c s) s.length with h1 | h1
  . exact absurd (posB_get h1) (h _ h1)
  . have := posB_le c s; omega
theorem callIdxB : Callable Tryz.prog 54 := ⟨_, Tryz.func54, by kernel_rfl, rfl⟩
theorem callSlIdx : Callable Tryz.prog 69 := ⟨_, Tryz.func69, by kernel_rfl, rfl⟩
theorem callSlCut : Callable Tryz.prog 50 := ⟨_, Tryz.func50, by kernel_rfl, rfl⟩
theorem callCut : Callable Tryz.prog 29 := ⟨_, Tryz.func29, by kernel_rfl, rfl⟩
theorem str_IndexByte (s : List UInt8) (c : Nat) (hc : c < 256) (h : Heap) : Spec Tryz.prog 54 [str s, .int .u8 c] h [] (fun u _ H' => u = .int .i64 (if posB (UInt8.ofNat c) s < s.length then (posB (UInt8.ofNat c) s : Int) else -1) /\ H' = []) := by
  refine ⟨fun w hw => ?_⟩
  refine (Any.strings_IndexByte laysIdx ⟨s.toArray⟩ c w).mono ?_
  rintro e w' ⟨rfl, rfl⟩
  refine ⟨_, h, [], rfl, ⟨?_, rfl⟩, hw.start⟩
  rw [<- indexByte_pos]
  rfl
theorem str_Index1 (s : List UInt8) (c : UInt8) (h : Heap) : Spec Tryz.prog 69 [str s, str [c]] h [] (fun u _ H' => u = .int .i64 (if posB c s < s.length then (posB c s : Int) else -1) /\ H' = []) := by
  refine ⟨fun w hw => ?_⟩
  refine (Any.stringslite_Index_one { laysCut with } ⟨s.toArray⟩ c w).mono ?_
  rintro e w' ⟨rfl, rfl⟩
  refine ⟨_, h, [], rfl, ⟨?_, rfl⟩, hw.start⟩
  rw [<- indexByte_pos]
def cutV (c : UInt8) (s : List UInt8) : Value := .tuple #[str (s.take (posB c s)), str (s.drop (posB c s + 1)), .bool (decide (posB c s < s.length))]
theorem sl_Cut (s : List UInt8) (hs : s.length <= 1000000000) (c : UInt8) (h : Heap) : Spec Tryz.prog 50 [str s, str [c]] h [] (fun u _ H' => u = cutV c s /\ H' = []) := by
  have hl := posB_le c s
  have h1 : ([c] : List UInt8).length = 1 := rfl
  unfold cutV
  generalize hp : posB c s = p at *
  by_cases hlt : p < s.length
  . rw [decide_eq_true hlt]
    refine Spec.enter Tryz.func50 rfl rfl ?_; intro w0
    repeat' (first | (show G _ (.ops .seq _ (⟨some _, .call { callee := .value (.func 69), args := _, argTypes := _ }, _, _, _, none⟩ :: _) :: _) _ _ _; refine G.call callSlIdx rfl rfl (str_Index1 s c _) Ze ?_; rintro _ h2 H2 ⟨rfl, rfl⟩ hle2; rw [hp, if_pos hlt]) | (refine G.atCode ?_; first | refine G.seq ?_ | refine G.region ?_ | refine G.drawAll slB Zw mixedOk Zw ?_ | refine G.ret ?_ | (refine G.cond rfl ?_ ?_ <;> intro hc <;> (try simp only [tests, reduceCtorEq] at hc) <;> (try exact Zf))) | refine G.endOps ?_ | refine G.endStill ?_ | (refine G.atBin ?_; first | (refine G.atAdd ?_; first | refine G.arith rfl rfl rfl rfl rfl Zi ?_) | refine G.op rfl rfl ?_) | refine G.op rfl rfl ?_ | (refine G.atLen ?_; first | refine G.lenStr rfl (tyy rfl) rfl ?_) | (refine G.atSlc ?_; first | refine G.dropStr rfl rfl (tyy rfl) rfl Zj Zo ?_ | refine G.takeStr rfl rfl (tyy rfl) rfl Zj Zo ?_))
    have h3 : ((p : Int) + (([c] : List UInt8).length : Nat)).toNat = p + 1 := by simp only [List.length_cons, List.length_nil]; omega
    rw [h3]
    exact G.done3 rfl rfl rfl rfl _ (SubH.nil _) ⟨rfl, rfl⟩
  . rw [decide_eq_false hlt]
    refine Spec.enter Tryz.func50 rfl rfl ?_; intro w0
    repeat' (first | (show G _ (.ops .seq _ (⟨some _, .call { callee := .value (.func 69), args := _, argTypes := _ }, _, _, _, none⟩ :: _) :: _) _ _ _; refine G.call callSlIdx rfl rfl (str_Index1 s c _) Ze ?_; rintro _ h2 H2 ⟨rfl, rfl⟩ hle2; rw [hp, if_neg hlt]) | (refine G.atCode ?_; first | refine G.seq ?_ | refine G.region ?_ | refine G.skip ?_ | refine G.ret ?_ | (refine G.cond rfl ?_ ?_ <;> intro hc <;> (try simp only [tests, reduceCtorEq] at hc) <;> (try exact Zf))) | refine G.endOps ?_ | (refine G.atBin ?_; first | refine G.op rfl rfl ?_) | refine G.op rfl rfl ?_)
    rw [List.take_of_length_le (by omega), List.drop_eq_nil_of_le (by omega)]
    exact G.done3 rfl rfl rfl rfl _ (SubH.nil _) ⟨rfl, rfl⟩
theorem str_Cut (s : List UInt8) (hs : s.length <= 1000000000) (c : UInt8) (h : Heap) : Spec Tryz.prog 29 [str s, str [c]] h [] (fun u _ H' => u = cutV c s /\ H' = []) := by
  refine Spec.enter Tryz.func29 rfl rfl ?_; intro w0
  repeat' (first | (show G _ (.ops .seq _ (⟨some _, .call { callee := .value (.func 50), args := _, argTypes := _ }, _, _, _, none⟩ :: _) :: _) _ _ _; refine G.call callSlCut rfl rfl (sl_Cut s hs c _) Ze ?_; rintro _ h2 H2 ⟨rfl, rfl⟩ hle2; unfold cutV) | (refine G.atCode ?_; first | refine G.seq ?_ | refine G.region ?_ | refine G.ret ?_) | refine G.endOps ?_ | refine G.op rfl rfl ?_)
  all_goals exact G.done3 rfl rfl rfl rfl _ (SubH.nil _) ⟨rfl, rfl⟩
end Go.Proofs.YtieibicgankemaaGreat
