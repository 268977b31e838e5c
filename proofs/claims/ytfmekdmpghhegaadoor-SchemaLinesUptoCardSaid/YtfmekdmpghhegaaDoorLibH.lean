/- strings.Join of rows that are only read. -/
import Derived.Test.YtfmekdmpghhegaaDoorLibS
namespace Go.Proofs.YtfmekdmpghhegaaDoor
set_option linter.all false
set_option maxRecDepth 4000
open Go.RowKit

theorem strs_JoinH (v : Value) (sep : List UInt8) (L : List (List UInt8)) (hne : L ≠ []) (hL : L.length <= 1000000000) (hf : (Lib.join L sep).length <= 1000000000) (h : Heap) (hv : HSl h v 1 (strsR L)) :
    Spec Tryd.prog 27 [v, str sep] h [] (fun u _ H' => u = str (Lib.join L sep) /\ H' = []) := by
  refine ⟨fun w hw => ?_⟩
  obtain ⟨A, c, rfl, hc1, hc2, hcs⟩ := hv.form
  rw [strsR_length] at *
  obtain ⟨ad, rfl, hcell⟩ := hcs (fun e => hne (List.map_eq_nil_iff.1 e))
  have hpos : 0 < L.length := List.length_pos_iff.2 hne
  obtain ⟨bk, o, sp⟩ := ad
  have hh : ∀ (j : Nat) (l : List UInt8), L[j]? = some l -> h.cell? ((⟨bk, o, sp⟩ : Addr).add j) = some (str l) := fun j l hl => hcell j _ (by rw [sflat, List.getElem?_map, hl]; rfl)
  have h00 := hh 0 _ (List.getElem?_eq_getElem hpos)
  have hsp : sp = none := by
    cases sp with
    | none => rfl
    | some s =>
      exfalso
      simp only [Addr.add, if_true] at h00
      unfold Heap.cell? at h00
      simp only at h00
      split at h00
      . simp at h00
      . cases h00
  subst hsp
  obtain ⟨ob, hob⟩ : ∃ ob, h bk = some ob := by
    cases hb : h bk with
    | some ob => exact ⟨ob, rfl⟩
    | none =>
      exfalso
      unfold Heap.cell? at h00
      simp only [Addr.add, if_true, hb] at h00
      cases h00
  have hwb := hw.imm bk ob hob
  have hcw : ∀ (j : Nat) (l : List UInt8), L[j]? = some l -> w.cell? ⟨bk, o + j, none⟩ = some (str l) := fun j l hl => by
    have h1 := hh j l hl
    rw [Addr.add_lit] at h1
    exact imm_cell hw.start h1
  have hmap : (L.map fun l => (⟨l.toArray⟩ : ByteArray)).map (·.data.toList) = L := by
    rw [List.map_map, show ((fun x : ByteArray => x.data.toList) ∘ fun l : List UInt8 => (⟨l.toArray⟩ : ByteArray)) = id from by funext l; simp, List.map_id]
  have hlen : (L.map fun l => (⟨l.toArray⟩ : ByteArray)).length = L.length := by simp
  have hj : (Lib.join ((L.map fun l => (⟨l.toArray⟩ : ByteArray)).map (·.data.toList)) (⟨sep.toArray⟩ : ByteArray).data.toList).length <= 140737488355328 := by
    rw [hmap, show (⟨sep.toArray⟩ : ByteArray).data.toList = sep from by simp]; omega
  have := Any.strings_Join laysJoin extraJ bk o c (L.map fun l => (⟨l.toArray⟩ : ByteArray)) ⟨sep.toArray⟩ w (fun j x hx => by
    rw [List.getElem?_map] at hx
    cases hl : L[j]? with
    | none => rw [hl] at hx; cases hx
    | some l =>
      rw [hl] at hx
      simp only [Option.map_some, Option.some.injEq] at hx
      subst hx
      exact hcw j l hl) (lt_of_get hwb) (by rw [hlen]; omega) (by rw [hlen]; exact hc1) hj
  rw [hlen] at this
  refine this.mono ?_
  rintro e' w' ⟨rfl, hb⟩
  rw [hmap, show (⟨sep.toArray⟩ : ByteArray).data.toList = sep from by simp]
  exact ⟨_, h, _, rfl, ⟨rfl, rfl⟩, St.below hw hb⟩
theorem join_nil : ∀ L : List (List UInt8), Lib.join L [] = L.flatten
  | [] => rfl
  | [a] => by simp [Lib.join, List.intercalate]
  | a :: b :: l => by
    have ih := join_nil (b :: l)
    unfold Lib.join List.intercalate at ih ⊢
    rw [show List.intersperse [] (a :: b :: l) = a :: [] :: List.intersperse [] (b :: l) from rfl, List.flatten_cons, List.flatten_cons, ih]
    rfl
end Go.Proofs.YtfmekdmpghhegaaDoor
