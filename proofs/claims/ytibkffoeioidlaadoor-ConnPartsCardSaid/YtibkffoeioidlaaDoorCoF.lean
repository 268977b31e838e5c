/- castellanlaw27.ConnParts. -/
import Derived.Test.YtibkffoeioidlaaDoorCoC
import Derived.Test.YtibkffoeioidlaaDoorCoE
import Derived.Test.YtibkffoeioidlaaDoorWrN
namespace Go.Proofs.YtibkffoeioidlaaDoor
set_option linter.all false
set_option maxRecDepth 4000
open Go.RowKit

theorem conn_Feed (gc gb : Nat) (wv : Value) (s : Bs) (v : Value) (ps : List Bs) (hlen : s.length + ps.flatten.length ≤ 100000000) (h : Heap) (hT : TabW h) (hv : HSl h v 1 (strsR ps)) :
    Spec Tryd.prog 15 [.pointer (some ⟨gc, 0, none⟩), v] h (CnH gc gb wv s 0 false) (fun u h' H' => FeedR (connS (s ++ ps.flatten)) gc gb wv u h' H') :=
  conn_FeedQ (fun _ => True) (fun x hx _ h hT => wire_Read x hx h hT) gc gb wv s v ps hlen (fun n => rdAll_true n _) h hT hv
theorem one_msgs {h : Heap} {l : List Ms} {rows : List (List Value)} (hl : LC MsC h l rows) : ∀ r ∈ rows, ∀ q ∈ r, q.oneCell' = true := hl.all fun hm => one_msg hm
theorem G.namedC {E : Env} {k : List It} {f : Fr} {h : Heap} {H Hr : List Chunk} (gc : Nat) {gb : Nat} {wv b : Value} (_ : Take (.blk gc [wv, .pointer (some ⟨gb, 0, none⟩), b] 79) H Hr) (n : ∀ g', g' = gb → G E k f h H) : G E k f h H := n gb rfl
set_option maxRecDepth 8000 in
set_option maxHeartbeats 16000000 in
theorem law_ConnParts (s : Bs) (hl : s.length ≤ 9223372036854775807) (v : Value) (cs : List Int) (hcs : IntsIn .i64 cs) (h : Heap) (hT : TabW h) (hv : HSl h v 1 (intsR .i64 cs)) :
    Spec Tryd.prog 3 [str s, v] h [] (fun u _ _ => u = .bool true) := by
  have hic := intsR_length .i64 cs
  obtain ⟨vA, vc, rfl, _, _, _⟩ := hv.form
  rw [hic] at hv ⊢
  refine Spec.enter Tryd.func3 rfl rfl ?_; intro w0
  repeat' (first | (show G _ (.ops .seq _ (⟨some _, .call { callee := .value (.func 13), args := _, argTypes := _ }, _, _, _, none⟩ :: _) :: _) _ _ _; refine G.call callAwake27 rfl rfl (law27_awake _ (hT.mono (by solve | (repeat (first | assumption | exact Heap.le_refl _ | (refine Heap.le_trans ?_ (by assumption))))))) (by solve | (repeat (first | apply Takes.nil | apply Take.hd | apply Take.tl | apply Takes.cons))) ?_; rintro _ h6 H6 ⟨rfl, rfl⟩ hle6) | (show G _ (.ops .seq _ (⟨some _, .call { callee := .value (.func 14), args := _, argTypes := _ }, _, _, _, none⟩ :: _) :: _) _ _ _; refine G.call callCnNew rfl rfl (conn_New _) (by solve | (repeat (first | apply Takes.nil | apply Take.hd | apply Take.tl | apply Takes.cons))) ?_; rintro _ h4 H4 ⟨gc, gb, rfl, rfl⟩ hle4) | (show G _ (.ops .seq _ (⟨some _, .call { callee := .value (.func 15), args := _, argTypes := _ }, _, _, _, none⟩ :: _) :: _) _ _ _; refine Hold.out ?_) | (refine G.atCode ?_; first | refine G.seq ?_ | refine G.region ?_ | refine G.skip ?_ | refine G.ret ?_ | (refine G.cond rfl ?_ ?_ <;> intro hc <;> (try simp only [tests, reduceCtorEq] at hc) <;> (try (exfalso; first | omega | exact absurd hc (by with_reducible assumption) | exact absurd (by with_reducible assumption) hc | exact Bool.noConfusion hc | exact hc | exact hc trivial | fail)))) | refine G.endOps ?_ | (refine G.atGd ?_; first | refine G.guardYes rfl rfl ?_ | refine G.guardNoS rfl rfl rfl ?_ | (refine G.guardS rfl rfl rfl ?_ ?_ <;> intro hc <;> (try simp only [tests, reduceCtorEq] at hc) <;> (try (exfalso; first | omega | exact absurd hc (by with_reducible assumption) | exact absurd (by with_reducible assumption) hc | exact Bool.noConfusion hc | exact hc | exact hc trivial | fail)))) | (refine G.atBin ?_; first | refine G.op rfl rfl ?_) | refine G.op rfl rfl ?_ | (refine G.atLen ?_; first | refine G.lenStr rfl (tyy rfl) rfl ?_ | refine G.lenSlice rfl (tyy rfl) rfl ?_) | (refine G.atBsl ?_; refine G.buildSlice (tyy rfl) (tyy rfl) rfl rfl rfl rfl ?_; intro _))
  all_goals first | exact G.done1 rfl rfl [] (SubH.nil _) rfl | (exfalso; omega) | skip
  refine ⟨?_⟩
  refine G.named 5 rfl ?_
  rintro gc1 rfl
  refine G.namedC gc1 (by solve | (repeat (first | apply Take.hd | apply Take.tl))) ?_
  rintro gb1 rfl
  have hs2 : s.length ≤ 20000 := by omega
  refine G.freezeBlk Take.hd ?_; intro hf1 hle1 hc1; have hs1 := HSl.ofBlk1 (rows := strsR [s]) (n := 1) hc1 (rowed_strs _) rfl (by decide); clear hc1
  have e1 : ([] : Bs) ++ [s].flatten = s := by simp
  have hF1 := fun h v hT hv => conn_Feed gc1 gb1 (.slice none 0 0) [] v [s] (by simp only [List.flatten_singleton, List.length_nil]; omega) h hT hv
  rw [e1] at hF1
  show G _ (.ops .seq _ (⟨some _, .call { callee := .value (.func 15), args := _, argTypes := _ }, _, _, _, none⟩ :: _) :: _) _ _ _
  refine G.call callCnFeed rfl rfl (hF1 _ _ (hT.mono (by solve | (repeat (first | assumption | exact Heap.le_refl _ | (refine Heap.le_trans ?_ (by assumption)))))) hs1) (by solve | (repeat (first | apply Takes.nil | apply Take.hd | apply Take.tl | apply Takes.cons))) ?_
  rintro _ h6 H6 ⟨ov1, rfl, hM1, rfl⟩ hle6
  clear hF1 hs1
  obtain ⟨A1, c1, rfl, _⟩ := hM1.form
  have hlen1 := connS_len s.length s (Nat.le_refl _)
  repeat' (first | (refine G.atCode ?_; refine G.stopLoop ?_) | (refine G.atCode ?_; first | refine G.seq ?_ | refine G.region ?_ | refine G.block ?_) | refine G.endOps ?_ | refine G.op rfl rfl ?_ | (refine G.atLen ?_; first | refine G.lenSlice rfl (tyy rfl) rfl ?_))
  all_goals first | (exfalso; omega) | skip
  refine G.nilRow 51 32 ?_
  refine G.go ?_
  refine G.loop (σ := Nat × Bs × Bs × List Ms × Bool × Bool × Bs × Int × List (List Value) × Option Addr × Nat)
    (fun x => [(40, .int .i64 x.1), (39, .int .i64 cs.length), (38, .slice vA cs.length vc), (11, str x.2.2.1), (10, .bool x.2.2.2.2.1), (9, .slice x.2.2.2.2.2.2.2.2.2.1 x.2.2.2.2.2.2.2.2.1.length x.2.2.2.2.2.2.2.2.2.2), (8, .bool (connS s).bad), (7, .slice A1 (connS s).out.length c1), (6, .pointer (some ⟨gc, 0, none⟩)), (5, .pointer (some ⟨gc1, 0, none⟩))])
    (fun x => CnH gc1 gb1 (.slice none 0 0) (connS s).rest (connS s).err (connS s).closed ++ (CnH gc gb (.slice none 0 0) x.2.2.2.2.2.2.1 x.2.2.2.2.2.2.2.1 x.2.2.2.2.2.1 ++ [.row (.slice x.2.2.2.2.2.2.2.2.2.1 x.2.2.2.2.2.2.2.2.1.length x.2.2.2.2.2.2.2.2.2.2) 51 32 x.2.2.2.2.2.2.2.2.1]))
    (fun x h1 => x.1 ≤ cs.length ∧ s = x.2.1 ++ x.2.2.1 ∧ CnI x.2.1 x.2.2.2.1 x.2.2.2.2.1 x.2.2.2.2.2.1 x.2.2.2.2.2.2.1 x.2.2.2.2.2.2.2.1 ∧ LC MsC h1 x.2.2.2.1 x.2.2.2.2.2.2.2.2.1) (fun x => cs.length - x.1) ⟨0, [], s, [], false, false, [], 0, [], none, 0⟩
    ⟨rfl, rfl, rfl, rfl, rfl, rfl, rfl, rfl, rfl, rfl, trivial⟩ (by solve | (apply Takes.sub; (repeat (first | apply Takes.nil | apply Take.hd | apply Take.tl | apply Takes.cons)))) ⟨Nat.zero_le _, rfl, CnI.start, rfl⟩ ?_
  rintro ⟨i, pre, rest, out, is, cl, w, e, rows, A, c⟩ h5 hle5 ⟨hi, hsp, hI, hrows⟩
  simp only at hi hsp hI hrows
  have hlen : s.length = pre.length + rest.length := by rw [hsp, List.length_append]
  have hrl := hrows.len
  have hol : out.length ≤ pre.length := by rw [hI.1]; exact (connS_len _ pre (Nat.le_refl _)).1
  have hwl : cl = false → w.length ≤ pre.length := fun h => (hI.2.2.2 h).2.2
  have hv1 := hv.mono (show Heap.le h h5 by repeat (first | assumption | exact Heap.le_refl _ | (refine Heap.le_trans ?_ (by assumption))))
  refine G.norm (by (try dsimp only) <;> exact rfl) (by (try dsimp only) <;> exact rfl) ?_
  by_cases hlt : i < cs.length
  · have hm0 : 0 ≤ IntKind.u64.wrap (intAt cs i) % ((rest.length : Int) + 1) := Int.emod_nonneg _ (by omega)
    have hm1 : IntKind.u64.wrap (intAt cs i) % ((rest.length : Int) + 1) < (rest.length : Int) + 1 := Int.emod_lt_of_pos _ (by omega)
    obtain ⟨kn, hk⟩ : ∃ n : Nat, IntKind.u64.wrap (intAt cs i) % ((rest.length : Int) + 1) = (n : Int) := ⟨_, (Int.toNat_of_nonneg hm0).symm⟩
    rw [hk] at hm1
    have hkn : kn ≤ rest.length := by omega
    have ef : [rest.take kn].flatten = rest.take kn := by simp
    have el : (rest.take kn).length = kn := by rw [List.length_take]; omega
    have hs3 : s = (pre ++ rest.take kn) ++ rest.drop kn := by rw [List.append_assoc, List.take_append_drop]; exact hsp
    cases cl
    · obtain ⟨_, rfl, hwl⟩ := hI.2.2.2 rfl
      have hF2 := fun h v hT hv => conn_Feed gc gb (.slice none 0 0) w v [rest.take kn] (by rw [ef, el]; omega) h hT hv
      rw [ef] at hF2
      have hN := hI.feed (x := rest.take kn)
      have hnl := (connS_len _ (w ++ rest.take kn) (Nat.le_refl _)).1
      rw [List.length_append, el] at hnl
      generalize connS (w ++ rest.take kn) = N at *
      cases is
      all_goals (
        repeat' (first | (show G _ (.ops .seq _ (⟨some _, .call { callee := .value (.func 15), args := _, argTypes := _ }, _, _, _, none⟩ :: _) :: _) _ _ _; refine Hold.out ?_) | (refine G.atCode ?_; first | refine G.seq ?_ | refine G.region ?_ | refine G.block ?_ | refine G.skip ?_ | (refine G.cond rfl ?_ ?_ <;> intro hc <;> (try simp only [tests, reduceCtorEq] at hc) <;> (try (exfalso; first | omega | exact absurd hc (by with_reducible assumption) | exact absurd (by with_reducible assumption) hc | exact Bool.noConfusion hc | exact hc | exact hc trivial | fail)))) | refine G.endOps ?_ | (refine G.atBin ?_; first | (refine G.atAdd ?_; first | refine G.arith rfl rfl rfl rfl rfl (by simp only [inR]; omega) ?_) | (refine G.atRem ?_; first | (refine G.rem rfl rfl rfl rfl (by first | omega | (simp only [lens] at *; omega)) ?_; intro _ _ _)) | refine G.op rfl rfl ?_) | refine G.op rfl rfl ?_ | (refine G.atLen ?_; first | refine G.lenStr rfl (tyy rfl) rfl ?_) | (refine G.atLoad ?_; first | refine G.loadImm1 rfl (tyy rfl) rfl rfl (by assumption) rfl ?_) | (refine G.atBsl ?_; refine G.buildSlice (tyy rfl) (tyy rfl) rfl rfl rfl rfl ?_; intro _) | (refine G.atIdx ?_; first | (refine G.idxImmI rfl rfl (tyy rfl) (tyy rfl) (by solve | (repeat (first | assumption | (apply HSl.mono; rotate_left; assumption)))) (by assumption) (by first | (simp only [Int.reduceToNat]; rfl) | with_reducible apply Int.toNat_natCast | exact Eq.refl _) rfl (by first | omega | (simp only [lens] at *; omega)) ?_; intro _ _ _)) | (refine G.atConv ?_; first | refine G.conv rfl (tyy rfl) (tyy rfl) rfl (by simp only [inR]; omega) ?_ | (refine G.convW rfl (tyy rfl) (tyy rfl) rfl ?_; intro hcw; (try simp only [inR] at hcw))) | (refine G.atSlc ?_; first | refine G.takeStr rfl rfl (tyy rfl) rfl (by first | (simp only [Int.reduceToNat]; rfl) | with_reducible apply Int.toNat_natCast | exact Eq.refl _) (by first | omega | (simp only [lens] at *; omega)) ?_)))
      all_goals first | (exfalso; omega) | skip
      all_goals (
        refine ⟨?_⟩
        rw [hk]
        rw [Int.toNat_natCast]
        refine G.freezeBlk Take.hd ?_; intro hf1 hle1 hc1; have hs1 := HSl.ofBlk1 (rows := strsR [rest.take kn]) (n := 1) hc1 (rowed_strs _) rfl (by decide); clear hc1
        refine G.call callCnFeed rfl rfl (hF2 _ _ (hT.mono (by solve | (repeat (first | assumption | exact Heap.le_refl _ | (refine Heap.le_trans ?_ (by assumption)))))) hs1) (by solve | (repeat (first | apply Takes.nil | apply Take.hd | apply Take.tl | apply Takes.cons))) ?_
        rintro _ h7 H7 ⟨ov2, rfl, hM2, rfl⟩ hle7
        obtain ⟨A2, c2, rfl, _⟩ := hM2.form
        obtain ⟨rows2, hsm, hlm⟩ := hM2
        have hrl2 := hlm.len
        repeat' (first | (refine G.atAny ?_; first | refine G.anyAutoX slB rfl rfl (by decide +kernel) (by solve | exact Heap.none_le _ | assumption | exact Heap.le_refl _ | (repeat (first | assumption | exact Heap.le_refl _ | (refine Heap.le_trans ?_ (by assumption))))) (by solve | (repeat (first | apply DropS.nil | (apply DropS.cons; rfl; solve | repeat (first | apply Take.hd | apply Take.tl)) | (apply DropS.rows; repeat (first | apply DropRows.nil | apply DropRows.drop | apply DropRows.keep)) | apply DropS.skip))) ?_ | refine G.anyKeep slB rfl (by decide +kernel) (by solve | exact Heap.none_le _ | assumption | exact Heap.le_refl _ | (repeat (first | assumption | exact Heap.le_refl _ | (refine Heap.le_trans ?_ (by assumption))))) (by solve | (apply Takes.sub; (repeat (first | apply Takes.nil | apply Take.hd | apply Take.tl | apply Takes.cons)))) ?_ | refine G.anyOne rfl (by decide +kernel) (by solve | exact Heap.none_le _ | assumption | exact Heap.le_refl _ | (repeat (first | assumption | exact Heap.le_refl _ | (refine Heap.le_trans ?_ (by assumption))))) (by solve | (apply Takes.sub; (repeat (first | apply Takes.nil | apply Take.hd | apply Take.tl | apply Takes.cons)))) ?_ | refine G.anyEndX (by decide +kernel) ?_) | (refine G.atApp ?_; refine G.appendImm rfl rfl (tyy rfl) (tyy rfl) rfl rfl (by solve | (repeat (first | apply Take.hd | apply Take.tl))) (hsm.mono (by solve | (repeat (first | assumption | exact Heap.le_refl _ | (refine Heap.le_trans ?_ (by assumption)))))) (one_msgs hlm) rfl (by first | omega | (simp only [List.length_nil]; omega)) ?_; intro _; refine G.rowForm Take.hd ?_; rintro _ _ rfl) | (refine G.atCode ?_; first | refine G.region ?_ | refine G.anyIn mixedOk ?_) | refine G.endOps ?_ | refine G.endHeld ?_ | refine G.back ?_ | refine G.endBlk ?_ | (refine G.atGd ?_; first | refine G.guardYes rfl rfl ?_ | refine G.guardNoS rfl rfl rfl ?_) | (refine G.atBin ?_; first | (refine G.atAdd ?_; first | refine G.arith rfl rfl rfl rfl rfl (by simp only [inR]; omega) ?_)) | refine G.op rfl rfl ?_ | (refine G.atSlc ?_; first | refine G.dropStr rfl rfl (tyy rfl) rfl (by first | (simp only [Int.reduceToNat]; rfl) | with_reducible apply Int.toNat_natCast | exact Eq.refl _) (by first | omega | (simp only [lens] at *; omega)) ?_)))
      all_goals first | (exfalso; omega) | skip
      all_goals (
        rename_i A' c'
        exact G.again ⟨i + 1, _, rest.drop kn, _, _, _, _, _, rows ++ rows2, A', c'⟩ ⟨sint (by simp only; omega), rfl, rfl, rfl, rfl, rfl, rfl, rfl, rfl, rfl, trivial⟩ (by solve | (apply Takes.sub; (repeat (first | apply Takes.nil | apply Take.hd | apply Take.tl | apply Takes.cons)))) ⟨by simp only; omega, hs3, hN, (hrows.mono (fun x => x.mono (by solve | (repeat (first | assumption | exact Heap.le_refl _ | (refine Heap.le_trans ?_ (by assumption))))))).append (hlm.mono (fun x => x.mono (by solve | (repeat (first | assumption | exact Heap.le_refl _ | (refine Heap.le_trans ?_ (by assumption)))))))⟩ (by solve | (repeat (first | assumption | exact Heap.le_refl _ | (refine Heap.le_trans ?_ (by assumption))))) (by simp only; omega))
    · have hN := hI.closed (x := rest.take kn)
      have hsm : HSl h5 (.slice none 0 0) 32 [] := HSl.nil _ 32
      have hlm : LC MsC h5 [] [] := rfl
      cases is
      all_goals (
        repeat' (first | (show G _ (.ops .seq _ (⟨some _, .call { callee := .value (.func 15), args := _, argTypes := _ }, _, _, _, none⟩ :: _) :: _) _ _ _; refine Hold.out ?_) | (refine G.atCode ?_; first | refine G.seq ?_ | refine G.region ?_ | refine G.block ?_ | refine G.skip ?_ | (refine G.cond rfl ?_ ?_ <;> intro hc <;> (try simp only [tests, reduceCtorEq] at hc) <;> (try (exfalso; first | omega | exact absurd hc (by with_reducible assumption) | exact absurd (by with_reducible assumption) hc | exact Bool.noConfusion hc | exact hc | exact hc trivial | fail)))) | refine G.endOps ?_ | (refine G.atBin ?_; first | (refine G.atAdd ?_; first | refine G.arith rfl rfl rfl rfl rfl (by simp only [inR]; omega) ?_) | (refine G.atRem ?_; first | (refine G.rem rfl rfl rfl rfl (by first | omega | (simp only [lens] at *; omega)) ?_; intro _ _ _)) | refine G.op rfl rfl ?_) | refine G.op rfl rfl ?_ | (refine G.atLen ?_; first | refine G.lenStr rfl (tyy rfl) rfl ?_) | (refine G.atLoad ?_; first | refine G.loadImm1 rfl (tyy rfl) rfl rfl (by assumption) rfl ?_) | (refine G.atBsl ?_; refine G.buildSlice (tyy rfl) (tyy rfl) rfl rfl rfl rfl ?_; intro _) | (refine G.atIdx ?_; first | (refine G.idxImmI rfl rfl (tyy rfl) (tyy rfl) (by solve | (repeat (first | assumption | (apply HSl.mono; rotate_left; assumption)))) (by assumption) (by first | (simp only [Int.reduceToNat]; rfl) | with_reducible apply Int.toNat_natCast | exact Eq.refl _) rfl (by first | omega | (simp only [lens] at *; omega)) ?_; intro _ _ _)) | (refine G.atConv ?_; first | refine G.conv rfl (tyy rfl) (tyy rfl) rfl (by simp only [inR]; omega) ?_ | (refine G.convW rfl (tyy rfl) (tyy rfl) rfl ?_; intro hcw; (try simp only [inR] at hcw))) | (refine G.atSlc ?_; first | refine G.takeStr rfl rfl (tyy rfl) rfl (by first | (simp only [Int.reduceToNat]; rfl) | with_reducible apply Int.toNat_natCast | exact Eq.refl _) (by first | omega | (simp only [lens] at *; omega)) ?_)))
      all_goals first | (exfalso; omega) | skip
      all_goals (
        refine ⟨?_⟩
        rw [hk]
        rw [Int.toNat_natCast]
        refine G.freezeBlk Take.hd ?_; intro hf1 hle1 hc1; have hs1 := HSl.ofBlk1 (rows := strsR [rest.take kn]) (n := 1) hc1 (rowed_strs _) rfl (by decide); clear hc1
        refine G.call callCnFeed rfl rfl (conn_FeedC gc _ _ _ _) (by solve | (repeat (first | apply Takes.nil | apply Take.hd | apply Take.tl | apply Takes.cons))) ?_
        rintro _ h7 H7 ⟨rfl, rfl⟩ hle7
        repeat' (first | (refine G.atAny ?_; first | refine G.anyAutoX slB rfl rfl (by decide +kernel) (by solve | exact Heap.none_le _ | assumption | exact Heap.le_refl _ | (repeat (first | assumption | exact Heap.le_refl _ | (refine Heap.le_trans ?_ (by assumption))))) (by solve | (repeat (first | apply DropS.nil | (apply DropS.cons; rfl; solve | repeat (first | apply Take.hd | apply Take.tl)) | (apply DropS.rows; repeat (first | apply DropRows.nil | apply DropRows.drop | apply DropRows.keep)) | apply DropS.skip))) ?_ | refine G.anyKeep slB rfl (by decide +kernel) (by solve | exact Heap.none_le _ | assumption | exact Heap.le_refl _ | (repeat (first | assumption | exact Heap.le_refl _ | (refine Heap.le_trans ?_ (by assumption))))) (by solve | (apply Takes.sub; (repeat (first | apply Takes.nil | apply Take.hd | apply Take.tl | apply Takes.cons)))) ?_ | refine G.anyOne rfl (by decide +kernel) (by solve | exact Heap.none_le _ | assumption | exact Heap.le_refl _ | (repeat (first | assumption | exact Heap.le_refl _ | (refine Heap.le_trans ?_ (by assumption))))) (by solve | (apply Takes.sub; (repeat (first | apply Takes.nil | apply Take.hd | apply Take.tl | apply Takes.cons)))) ?_ | refine G.anyEndX (by decide +kernel) ?_) | (refine G.atApp ?_; refine G.appendImm rfl rfl (tyy rfl) (tyy rfl) rfl rfl (by solve | (repeat (first | apply Take.hd | apply Take.tl))) (hsm.mono (by solve | (repeat (first | assumption | exact Heap.le_refl _ | (refine Heap.le_trans ?_ (by assumption)))))) (one_msgs hlm) rfl (by first | omega | (simp only [List.length_nil]; omega)) ?_; intro _; refine G.rowForm Take.hd ?_; rintro _ _ rfl) | (refine G.atCode ?_; first | refine G.region ?_ | refine G.anyIn mixedOk ?_) | refine G.endOps ?_ | refine G.endHeld ?_ | refine G.back ?_ | refine G.endBlk ?_ | (refine G.atGd ?_; first | refine G.guardYes rfl rfl ?_ | refine G.guardNoS rfl rfl rfl ?_) | (refine G.atBin ?_; first | (refine G.atAdd ?_; first | refine G.arith rfl rfl rfl rfl rfl (by simp only [inR]; omega) ?_)) | refine G.op rfl rfl ?_ | (refine G.atSlc ?_; first | refine G.dropStr rfl rfl (tyy rfl) rfl (by first | (simp only [Int.reduceToNat]; rfl) | with_reducible apply Int.toNat_natCast | exact Eq.refl _) (by first | omega | (simp only [lens] at *; omega)) ?_)))
      all_goals first | (exfalso; omega) | skip
      all_goals (
        rename_i A' c'
        exact G.again ⟨i + 1, _, rest.drop kn, _, _, _, _, _, rows ++ [], A', c'⟩ ⟨sint (by simp only; omega), rfl, rfl, rfl, rfl, rfl, rfl, rfl, rfl, rfl, trivial⟩ (by solve | (apply Takes.sub; (repeat (first | apply Takes.nil | apply Take.hd | apply Take.tl | apply Takes.cons)))) ⟨by simp only; omega, hs3, hN, (hrows.mono (fun x => x.mono (by solve | (repeat (first | assumption | exact Heap.le_refl _ | (refine Heap.le_trans ?_ (by assumption))))))).append (show LC MsC _ [] [] from rfl)⟩ (by solve | (repeat (first | assumption | exact Heap.le_refl _ | (refine Heap.le_trans ?_ (by assumption))))) (by simp only; omega))
  · obtain rfl : i = cs.length := by omega
    have ef : [rest, []].flatten = rest := by simp
    cases cl
    · obtain ⟨_, rfl, hwl⟩ := hI.2.2.2 rfl
      have hF2 := fun h v hT hv => conn_Feed gc gb (.slice none 0 0) w v [rest, []] (by rw [ef]; omega) h hT hv
      rw [ef] at hF2
      have hN := hI.feed (x := rest)
      have hnl := (connS_len _ (w ++ rest) (Nat.le_refl _)).1
      rw [List.length_append] at hnl
      generalize connS (w ++ rest) = N at *
      rw [← hsp] at hN
      obtain ⟨n1, n2, n3, _⟩ := hN
      rw [← n1] at hM1 ⊢
      rw [← n3]
      cases is
      all_goals (
        simp only [Bool.false_or, Bool.true_or] at n2
        rw [← n2]
        repeat' (first | (show G _ (.ops .seq _ (⟨some _, .call { callee := .value (.func 15), args := _, argTypes := _ }, _, _, _, none⟩ :: _) :: _) _ _ _; refine Hold.out ?_) | (refine G.atCode ?_; first | refine G.seq ?_ | refine G.region ?_ | refine G.exit rfl ?_ | (refine G.cond rfl ?_ ?_ <;> intro hc <;> (try simp only [tests, reduceCtorEq] at hc) <;> (try (exfalso; first | omega | exact absurd hc (by with_reducible assumption) | exact absurd (by with_reducible assumption) hc | exact Bool.noConfusion hc | exact hc | exact hc trivial | fail)))) | refine G.endOps ?_ | (refine G.atBin ?_; first | refine G.op rfl rfl ?_) | refine G.op rfl rfl ?_ | (refine G.atBsl ?_; refine G.buildSlice (tyy rfl) (tyy rfl) rfl rfl rfl rfl ?_; intro _)))
      all_goals first | (exfalso; omega) | skip
      all_goals (
        refine ⟨?_⟩
        refine G.freezeBlk Take.hd ?_; intro hf1 hle1 hc1; have hs1 := HSl.ofBlk1 (rows := strsR [rest, []]) (n := 2) hc1 (rowed_strs _) rfl (by decide); clear hc1
        refine G.call callCnFeed rfl rfl (hF2 _ _ (hT.mono (by solve | (repeat (first | assumption | exact Heap.le_refl _ | (refine Heap.le_trans ?_ (by assumption)))))) hs1) (by solve | (repeat (first | apply Takes.nil | apply Take.hd | apply Take.tl | apply Takes.cons))) ?_
        rintro _ h7 H7 ⟨ov2, rfl, hM2, rfl⟩ hle7
        obtain ⟨A2, c2, rfl, _⟩ := hM2.form
        obtain ⟨rows2, hsm, hlm⟩ := hM2
        have hrl2 := hlm.len
        repeat' (first | (refine G.atApp ?_; refine G.appendImm rfl rfl (tyy rfl) (tyy rfl) rfl rfl (by solve | (repeat (first | apply Take.hd | apply Take.tl))) (hsm.mono (by solve | (repeat (first | assumption | exact Heap.le_refl _ | (refine Heap.le_trans ?_ (by assumption)))))) (one_msgs hlm) rfl (by first | omega | (simp only [List.length_nil]; omega)) ?_; intro _; refine G.rowForm Take.hd ?_; rintro _ _ rfl) | (show G _ (.ops .seq _ (⟨some _, .call { callee := .value (.func 13), args := _, argTypes := _ }, _, _, _, none⟩ :: _) :: _) _ _ _; refine Hold.out ?_) | (refine G.atCode ?_; first | refine G.seq ?_ | refine G.region ?_) | refine G.endOps ?_ | (refine G.atGd ?_; first | refine G.guardYes rfl rfl ?_ | refine G.guardNoS rfl rfl rfl ?_) | refine G.op rfl rfl ?_))
      all_goals first | (exfalso; omega) | skip
      all_goals (
        refine ⟨?_⟩
        refine G.freezeRow (e := 51) (sz := 32) (by solve | (repeat (first | apply Take.hd | apply Take.tl))) ?_
        intro h8 hle8 hs8
        have hAll : MssC h8 (out ++ N.out) (.slice _ _ _) := ⟨_, hs8, (hrows.mono (fun x => x.mono (by solve | (repeat (first | assumption | exact Heap.le_refl _ | (refine Heap.le_trans ?_ (by assumption))))))).append (hlm.mono (fun x => x.mono (by solve | (repeat (first | assumption | exact Heap.le_refl _ | (refine Heap.le_trans ?_ (by assumption)))))))⟩
        repeat' (first | (show G _ (.ops .seq _ (⟨some _, .call { callee := .value (.func 13), args := _, argTypes := _ }, _, _, _, none⟩ :: _) :: _) _ _ _; refine G.call callAwake27 rfl rfl (law27_awake _ (hT.mono (by solve | (repeat (first | assumption | exact Heap.le_refl _ | (refine Heap.le_trans ?_ (by assumption))))))) (by solve | (repeat (first | apply Takes.nil | apply Take.hd | apply Take.tl | apply Takes.cons))) ?_; rintro _ h9 H9 ⟨rfl, rfl⟩ hle9) | (show G _ (.ops .seq _ (⟨some _, .call { callee := .value (.func 16), args := _, argTypes := _ }, _, _, _, none⟩ :: _) :: _) _ _ _; refine G.call callSame27 rfl rfl (law27_same _ _ _ _ (SC.mono (fun x => x.mono (by solve | (repeat (first | assumption | exact Heap.le_refl _ | (refine Heap.le_trans ?_ (by assumption)))))) (by solve | (repeat (first | assumption | exact Heap.le_refl _ | (refine Heap.le_trans ?_ (by assumption))))) hM1) (SC.mono (fun x => x.mono (by solve | (repeat (first | assumption | exact Heap.le_refl _ | (refine Heap.le_trans ?_ (by assumption)))))) (by solve | (repeat (first | assumption | exact Heap.le_refl _ | (refine Heap.le_trans ?_ (by assumption))))) hAll)) (by solve | (repeat (first | apply Takes.nil | apply Take.hd | apply Take.tl | apply Takes.cons))) ?_; rintro _ h10 H10 ⟨rfl, rfl⟩ hle10) | (show G _ (.ops .seq _ (⟨some _, .call { callee := .value (.func 17), args := _, argTypes := _ }, _, _, _, none⟩ :: _) :: _) _ _ _; refine G.call callCnClosed rfl rfl (conn_Closed _ _ _ _ _) (by solve | (repeat (first | apply Takes.nil | apply Take.hd | apply Take.tl | apply Takes.cons))) ?_; rintro _ h11 H11 ⟨rfl, rfl⟩ hle11) | (refine G.atCode ?_; first | refine G.ret ?_) | refine G.endOps ?_ | (refine G.atGd ?_; first | refine G.guardYes rfl rfl ?_ | (refine G.guardS rfl rfl rfl ?_ ?_ <;> intro hc <;> (try simp only [tests, reduceCtorEq] at hc) <;> (try (exfalso; first | omega | exact absurd hc (by with_reducible assumption) | exact absurd (by with_reducible assumption) hc | exact Bool.noConfusion hc | exact hc | exact hc trivial | fail)))) | (refine G.atBin ?_; first | (refine G.atEql ?_; first | refine G.eqBool rfl rfl (tyy rfl) rfl ?_)) | refine G.op rfl rfl ?_))
      all_goals first | (exfalso; omega) | (exfalso; simp_all; done) | exact G.done1 rfl rfl [] (SubH.nil _) (by first | rfl | simp) | skip
      all_goals trace_state
    · have hN := hI.closed (x := rest)
      have hsm : HSl h5 (.slice none 0 0) 32 [] := HSl.nil _ 32
      have hlm : LC MsC h5 [] [] := rfl
      rw [← hsp] at hN
      obtain ⟨n1, n2, n3, _⟩ := hN
      rw [← n1] at hM1 ⊢
      rw [← n3]
      cases is
      all_goals (
        simp only [Bool.false_or, Bool.true_or, Bool.or_false] at n2
        rw [← n2]
        repeat' (first | (show G _ (.ops .seq _ (⟨some _, .call { callee := .value (.func 15), args := _, argTypes := _ }, _, _, _, none⟩ :: _) :: _) _ _ _; refine Hold.out ?_) | (refine G.atCode ?_; first | refine G.seq ?_ | refine G.region ?_ | refine G.exit rfl ?_ | (refine G.cond rfl ?_ ?_ <;> intro hc <;> (try simp only [tests, reduceCtorEq] at hc) <;> (try (exfalso; first | omega | exact absurd hc (by with_reducible assumption) | exact absurd (by with_reducible assumption) hc | exact Bool.noConfusion hc | exact hc | exact hc trivial | fail)))) | refine G.endOps ?_ | (refine G.atBin ?_; first | refine G.op rfl rfl ?_) | refine G.op rfl rfl ?_ | (refine G.atBsl ?_; refine G.buildSlice (tyy rfl) (tyy rfl) rfl rfl rfl rfl ?_; intro _)))
      all_goals first | (exfalso; omega) | skip
      all_goals (
        refine ⟨?_⟩
        refine G.freezeBlk Take.hd ?_; intro hf1 hle1 hc1; have hs1 := HSl.ofBlk1 (rows := strsR [rest, []]) (n := 2) hc1 (rowed_strs _) rfl (by decide); clear hc1
        refine G.call callCnFeed rfl rfl (conn_FeedC gc _ _ _ _) (by solve | (repeat (first | apply Takes.nil | apply Take.hd | apply Take.tl | apply Takes.cons))) ?_
        rintro _ h7 H7 ⟨rfl, rfl⟩ hle7
        repeat' (first | (refine G.atApp ?_; refine G.appendImm rfl rfl (tyy rfl) (tyy rfl) rfl rfl (by solve | (repeat (first | apply Take.hd | apply Take.tl))) (hsm.mono (by solve | (repeat (first | assumption | exact Heap.le_refl _ | (refine Heap.le_trans ?_ (by assumption)))))) (one_msgs hlm) rfl (by first | omega | (simp only [List.length_nil]; omega)) ?_; intro _; refine G.rowForm Take.hd ?_; rintro _ _ rfl) | (show G _ (.ops .seq _ (⟨some _, .call { callee := .value (.func 13), args := _, argTypes := _ }, _, _, _, none⟩ :: _) :: _) _ _ _; refine Hold.out ?_) | (refine G.atCode ?_; first | refine G.seq ?_ | refine G.region ?_) | refine G.endOps ?_ | (refine G.atGd ?_; first | refine G.guardYes rfl rfl ?_ | refine G.guardNoS rfl rfl rfl ?_) | refine G.op rfl rfl ?_))
      all_goals first | (exfalso; omega) | skip
      all_goals (
        refine ⟨?_⟩
        refine G.freezeRow (e := 51) (sz := 32) (by solve | (repeat (first | apply Take.hd | apply Take.tl))) ?_
        intro h8 hle8 hs8
        have hAll : MssC h8 (out ++ []) (.slice _ _ _) := ⟨_, hs8, (hrows.mono (fun x => x.mono (by solve | (repeat (first | assumption | exact Heap.le_refl _ | (refine Heap.le_trans ?_ (by assumption))))))).append (show LC MsC _ [] [] from rfl)⟩
        repeat' (first | (show G _ (.ops .seq _ (⟨some _, .call { callee := .value (.func 13), args := _, argTypes := _ }, _, _, _, none⟩ :: _) :: _) _ _ _; refine G.call callAwake27 rfl rfl (law27_awake _ (hT.mono (by solve | (repeat (first | assumption | exact Heap.le_refl _ | (refine Heap.le_trans ?_ (by assumption))))))) (by solve | (repeat (first | apply Takes.nil | apply Take.hd | apply Take.tl | apply Takes.cons))) ?_; rintro _ h9 H9 ⟨rfl, rfl⟩ hle9) | (show G _ (.ops .seq _ (⟨some _, .call { callee := .value (.func 16), args := _, argTypes := _ }, _, _, _, none⟩ :: _) :: _) _ _ _; refine G.call callSame27 rfl rfl (law27_same _ _ _ _ (SC.mono (fun x => x.mono (by solve | (repeat (first | assumption | exact Heap.le_refl _ | (refine Heap.le_trans ?_ (by assumption)))))) (by solve | (repeat (first | assumption | exact Heap.le_refl _ | (refine Heap.le_trans ?_ (by assumption))))) hM1) (SC.mono (fun x => x.mono (by solve | (repeat (first | assumption | exact Heap.le_refl _ | (refine Heap.le_trans ?_ (by assumption)))))) (by solve | (repeat (first | assumption | exact Heap.le_refl _ | (refine Heap.le_trans ?_ (by assumption))))) hAll)) (by solve | (repeat (first | apply Takes.nil | apply Take.hd | apply Take.tl | apply Takes.cons))) ?_; rintro _ h10 H10 ⟨rfl, rfl⟩ hle10) | (show G _ (.ops .seq _ (⟨some _, .call { callee := .value (.func 17), args := _, argTypes := _ }, _, _, _, none⟩ :: _) :: _) _ _ _; refine G.call callCnClosed rfl rfl (conn_Closed _ _ _ _ _) (by solve | (repeat (first | apply Takes.nil | apply Take.hd | apply Take.tl | apply Takes.cons))) ?_; rintro _ h11 H11 ⟨rfl, rfl⟩ hle11) | (refine G.atCode ?_; first | refine G.ret ?_) | refine G.endOps ?_ | (refine G.atGd ?_; first | refine G.guardYes rfl rfl ?_) | (refine G.atBin ?_; first | (refine G.atEql ?_; first | refine G.eqBool rfl rfl (tyy rfl) rfl ?_)) | refine G.op rfl rfl ?_))
      all_goals first | (exfalso; omega) | (exfalso; simp_all; done) | exact G.done1 rfl rfl [] (SubH.nil _) (by first | rfl | simp) | skip
      all_goals trace_state
end Go.Proofs.YtibkffoeioidlaaDoor
