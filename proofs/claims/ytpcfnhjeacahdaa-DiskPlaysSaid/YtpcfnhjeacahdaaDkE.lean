/- Package disk: Image; how many sectors there are. -/
import Derived.Test.YtpcfnhjeacahdaaDkD
import Derived.Test.YtpcfnhjeacahdaaShf
namespace Go.Proofs.Ytpcfnhjeacahdaa
set_option linter.all false
open Go.RowKit

theorem extraB : Builder.Extra Try.prog laysJoin_ren where
  sizeBuilder := by kernel_rfl
  liesBuilder := by kernel_rfl
  t5 := Try.underlying5
  a5 := Try.isAgg5
  z5 := Try.sizeOf5
  v5 := Try.zeroValue5
  infoByte := by kernel_rfl
  cellsByte := by kernel_rfl
  sizeByte := by kernel_rfl
  neB5 := by decide
/-- What was there stays: nothing that is held changes. -/
theorem St.ofBelow {h : Heap} {H : List Chunk} {w w' : World} (s : StI h H w) (b : Below w.heap.size w w') : St ⟨w, keys H, h⟩ h H w' := by
  have hk : ∀ x ∈ H, ∀ g, x.key = some g → w'.heap[g]? = w.heap[g]? := fun x hx g hg => b.block g (Chunk.holds_lt (s.own x hx) g hg)
  exact ⟨b.os, b.tape, b.output, b.size, fun q hq _ => b.block q hq, Heap.le_refl h, fun q o ho => by
      have h1 := s.imm q o ho
      rw [b.block q (lt_of_get h1)]; exact h1, fun x hx => Chunk.holds_congr (hk x hx) (s.own x hx), s.nodup, s.sep, fun g hg => .inl hg, fun q o ho => .inl ⟨o, ho⟩⟩
theorem join_nilsep : ∀ L : List (List UInt8), Lib.join L [] = L.flatten
  | [] => rfl
  | x :: r => by
    rw [Lib.join_cons]
    simp [Lib.joinTail]
theorem strsR_flat (L : List (List UInt8)) : (strsR L).flatten = L.map str := by
  induction L with
  | nil => rfl
  | cons x r ih => simp only [strsR, List.map_cons, List.flatten_cons] at ih ⊢; rw [ih]; rfl
theorem callJoin : Callable Try.prog 53 := ⟨_, Try.func53, by kernel_rfl, rfl⟩
theorem strs_Join (v : Value) (e : TypeId) (L : List (List UInt8)) (hL : L.length ≤ 100000) (hf : L.flatten.length ≤ 100000000) (h : Heap) :
    Spec Try.prog 53 [v, str []] h [.row v e 1 (strsR L)] (fun u _ H' => u = str L.flatten ∧ H' = [.row v e 1 (strsR L)]) := by
  refine ⟨fun w hw => ?_⟩
  have ho := hw.own _ (List.mem_singleton.2 rfl)
  have hmap : (L.map fun l => (⟨l.toArray⟩ : ByteArray)).map (·.data.toList) = L := by
    rw [List.map_map, show ((fun x : ByteArray => x.data.toList) ∘ fun l : List UInt8 => (⟨l.toArray⟩ : ByteArray)) = id from by funext l; simp, List.map_id]
  have fin : ∀ e' w', e' = Ending.returned (.string ⟨(Lib.join ((L.map fun l => (⟨l.toArray⟩ : ByteArray)).map (·.data.toList)) (⟨#[]⟩ : ByteArray).data.toList).toArray⟩) ∧ Below w.heap.size w w' →
      ∃ u h' H', e' = .returned u ∧ (u = str L.flatten ∧ H' = [.row v e 1 (strsR L)]) ∧ St ⟨w, keys [.row v e 1 (strsR L)], h⟩ h' H' w' := by
    rintro e' w' ⟨rfl, hb⟩
    rw [hmap, show (⟨#[]⟩ : ByteArray).data.toList = [] from rfl, join_nilsep]
    exact ⟨_, h, _, rfl, ⟨rfl, rfl⟩, St.ofBelow hw hb⟩
  rcases ho.2 with ⟨rfl, h0⟩ | ⟨g, cap, cur, fz, hv, hb, _, hnc, _, _, _⟩
  · have hl0 : L = [] := by simpa [strsR] using h0
    subst hl0
    refine (Any.strings_Join_none laysJoin extraB none 0 ⟨#[]⟩ w).mono fun e' w' ⟨he, hw'⟩ => fin e' w' ⟨?_, hw' ▸ Below.refl _ _⟩
    rw [he]; rfl
  · subst hv
    rw [strsR_length] at *
    have hc := (row_cells ho).2
    have hlen : (L.map fun l => (⟨l.toArray⟩ : ByteArray)).length = L.length := by simp
    have hj : (Lib.join ((L.map fun l => (⟨l.toArray⟩ : ByteArray)).map (·.data.toList)) (⟨#[]⟩ : ByteArray).data.toList).length ≤ 140737488355328 := by
      rw [hmap, show (⟨#[]⟩ : ByteArray).data.toList = [] from rfl, join_nilsep]; omega
    have := Any.strings_Join laysJoin extraB g 0 cap (L.map fun l => (⟨l.toArray⟩ : ByteArray)) ⟨#[]⟩ w (fun j x hx => by
      rw [Nat.zero_add]
      refine hc j _ ?_
      rw [strsR_flat, List.getElem?_map]
      rw [List.getElem?_map] at hx
      cases hl : L[j]? with
      | none => rw [hl] at hx; cases hx
      | some l =>
        rw [hl] at hx
        simp only [Option.map_some, Option.some.injEq] at hx
        subst hx; rfl) (lt_of_get hb) (by rw [hlen]; omega) (by rw [hlen]; exact hnc) hj
    rw [hlen] at this
    exact this.mono fin
theorem flat_len : ∀ {L : List (List UInt8)}, (∀ x ∈ L, x.length = 128) → L.flatten.length = L.length * 128
  | [], _ => rfl
  | x :: L, h => by
    have h1 := h x (by simp)
    have h2 := flat_len (L := L) (fun y hy => h y (by simp [hy]))
    rw [List.flatten_cons, List.length_append, h1, h2, List.length_cons]; omega
theorem disk_Image (d m : Nat) (v : Value) (D : Dk) (hD : D.Ok) (h : Heap) : Spec Try.prog 26 [.pointer (some ⟨d, 0, none⟩)] h (dkC d m v D) (fun u _ H' => u = str D.lasts.flatten ∧ H' = dkC d m v D) := by
  have hn := hD.n
  have hl := flat_len hD.l
  unfold dkC
  refine Spec.enter Try.func26 rfl rfl ?_; intro w0
  repeat' (first | (show G _ (.ops .seq _ (⟨some _, .call { callee := .value (.func 53), args := _, argTypes := _ }, _, _, _, none⟩ :: _) :: _) _ _ _; refine G.call callJoin rfl rfl (strs_Join v 9 D.lasts (by omega) (by omega) _) (by solve | (repeat (first | apply Takes.nil | apply Take.hd | apply Take.tl | apply Takes.cons))) ?_; rintro _ h2 H2 ⟨rfl, rfl⟩ hle2) | (refine G.atCode ?_; first | refine G.seq ?_ | refine G.region ?_ | refine G.block ?_ | refine G.skip ?_ | refine G.exit rfl ?_ | refine G.ret ?_ | (refine G.cond rfl ?_ ?_ <;> intro hc <;> (try simp only [tests, reduceCtorEq] at hc) <;> (try (exfalso; first | omega | exact absurd hc (by with_reducible assumption) | exact absurd (by with_reducible assumption) hc | exact Bool.noConfusion hc | exact hc | exact hc trivial | fail)))) | refine G.endOps ?_ | refine G.endStill ?_ | refine G.endHeld ?_ | refine G.back ?_ | refine G.endBlk ?_ | (refine G.atBin ?_; first | (refine G.atEql ?_; first | refine G.op rfl rfl ?_ | refine G.eqStr0 rfl rfl rfl ?_ | refine G.eqStr rfl rfl rfl ?_ | refine G.eqPtr rfl rfl (tyy rfl) rfl ?_ | refine G.eqBool rfl rfl (tyy rfl) rfl ?_) | refine G.op rfl rfl ?_ ) | refine G.op rfl rfl ?_ | (refine G.atLoad ?_; first | refine G.loadOwn1 rfl (tyy rfl) rfl rfl (by solve | (repeat (first | apply Take.hd | apply Take.tl))) rfl rfl ?_ | refine G.loadOwnA rfl (tyy rfl) rfl rfl (by solve | (repeat (first | apply Take.hd | apply Take.tl))) rfl rfl ?_ | refine G.loadImm1 rfl (tyy rfl) rfl rfl (by assumption) rfl ?_ | refine G.loadImmA rfl (tyy rfl) rfl rfl (by assumption) (by assumption) rfl ?_ | refine G.loadRowS rfl (tyy rfl) (by assumption) (by solve | (repeat (first | apply Take.hd | apply Take.tl))) (by first | omega | (simp only [lens] at *; omega)) rfl ?_ | (refine G.loadRowB rfl (tyy rfl) (by assumption) (by solve | (repeat (first | apply Take.hd | apply Take.tl))) (by first | omega | (simp only [lens] at *; omega)) rfl ?_; intro _)) | (refine G.atFld ?_; first | refine G.fieldAddr rfl (tyy rfl) rfl rfl ?_ | refine G.fieldAddrP rfl (tyy rfl) rfl rfl ?_)           )
  exact G.done1 rfl rfl _ (by solve | (apply Takes.sub; (repeat (first | apply Takes.nil | apply Take.hd | apply Take.tl | apply Takes.cons)))) ⟨rfl, rfl⟩

end Go.Proofs.Ytpcfnhjeacahdaa
