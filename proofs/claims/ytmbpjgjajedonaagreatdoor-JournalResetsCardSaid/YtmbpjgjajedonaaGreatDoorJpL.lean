/- castellanlaw06: cut, cuts, alike; what stays true of a journal. -/
import Derived.Test.YtmbpjgjajedonaaGreatDoorJpD
import Derived.Test.YtmbpjgjajedonaaGreatDoorJpG
import Derived.Test.YtmbpjgjajedonaaGreatDoorJpK
namespace Go.Proofs.YtmbpjgjajedonaaGreatDoor
set_option linter.all false
set_option maxRecDepth 4000
open Go.RowKit

theorem callCut6 : Callable Tryz.prog 15 := ⟨_, Tryz.func15, by kernel_rfl, rfl⟩
theorem callCuts6 : Callable Tryz.prog 20 := ⟨_, Tryz.func20, by kernel_rfl, rfl⟩
theorem law06_cut (s : B8) (hs : s.length <= 9223372036854775807) (n : Nat) (hn : n <= 1000000) (h : Heap) : Spec Tryz.prog 15 [str s, .int .i64 n] h [] (fun u _ H' => u = str (s.take n) /\ H' = []) := by
  have e : s.take (min (s.length : Int) (n : Int)).toNat = s.take n := by
    rw [show (min (s.length : Int) (n : Int)) = min (n : Int) (s.length : Int) by omega]; exact take_minJ s n
  refine Spec.enter Tryz.func15 rfl rfl ?_; intro w0
  repeat' (first | (refine G.minI rfl rfl rfl ?_) | (refine G.maxI rfl rfl rfl ?_) | (refine G.atCode ?_; first | refine G.seq ?_ | refine G.region ?_ | refine G.block ?_ | refine G.skip ?_ | refine G.exit rfl ?_ | refine G.ret ?_ | (refine G.cond rfl ?_ ?_ <;> intro hc <;> (try simp only [tests, reduceCtorEq] at hc) <;> (try exact Zf))) | refine G.endOps ?_ | refine G.endStill ?_ | refine G.endHeld ?_ | refine G.back ?_ | refine G.endBlk ?_ | refine G.op rfl rfl ?_ | (refine G.atLen ?_; first | refine G.lenStr rfl (tyy rfl) rfl ?_ | refine G.lenSlice rfl (tyy rfl) rfl ?_ | refine G.lenRowB rfl (tyy rfl) Za rfl ?_ | refine G.lenRowS rfl (tyy rfl) Za rfl ?_ | refine G.lenRow rfl (tyy rfl) Za rfl ?_ | refine G.lenImmB rfl (tyy rfl) Zl rfl ?_ | refine G.lenImmI rfl (tyy rfl) Zl rfl ?_ | refine G.lenImmS rfl (tyy rfl) Zl rfl ?_ | refine G.lenImm rfl (tyy rfl) Zl rfl ?_) | (refine G.atSlc ?_; first | refine G.dropStr rfl rfl (tyy rfl) rfl Zj Zo ?_ | refine G.takeStr rfl rfl (tyy rfl) rfl Zj Zo ?_ | refine G.sliceStr rfl rfl rfl (tyy rfl) rfl Zj Zj Zo rfl ?_))
  exact G.done1 rfl rfl _ (SubH.nil _) ⟨congrArg str e, rfl⟩
def cutsM (l : List B8) (n most : Nat) : List B8 := (l.take most).map fun s => s.take n
set_option maxRecDepth 8000 in
theorem law06_cuts (l : List B8) (hl : ∀ s ∈ l, s.length <= 9223372036854775807) (n most : Nat) (hn : n <= 1000000) (hm : most <= 1000000) (lv : Value) (h : Heap) (hv : HSl h lv 1 (strsR l)) :
    Spec Tryz.prog 20 [lv, .int .i64 n, .int .i64 most] h [] (fun u _ H' => ∃ A c, u = .slice A (cutsM l n most).length c /\ H' = [.row (.slice A (cutsM l n most).length c) 9 1 (strsR (cutsM l n most))]) := by
  obtain ⟨lA, lc, rfl, q1, q2, q3⟩ := hv.form
  have hsl : (strsR l).length = l.length := strsR_length l
  have hcap : l.length <= lc := by rw [<- hsl]; assumption
  have hL := hv.cut (min l.length most) (by rw [hsl]; omega)
  rw [strsR_take] at hL
  have hcu : cutsM l n most = (l.take (min l.length most)).map fun s => s.take n := by
    unfold cutsM; rcases Nat.le_total l.length most with hh | hh
    . rw [Nat.min_eq_left hh, List.take_of_length_le hh, List.take_length]
    . rw [Nat.min_eq_right hh]
  have hKl : (l.take (min l.length most)).length = min l.length most := by rw [List.length_take]; omega
  have hKs : ∀ s ∈ l.take (min l.length most), s.length <= 9223372036854775807 := fun s hs => hl s (List.mem_of_mem_take hs)
  rw [hcu]
  generalize l.take (min l.length most) = K at *
  have hml : (min (l.length : Int) (most : Int)).toNat = min l.length most := by omega
  generalize hmm : min l.length most = mm at *
  rw [hsl]
  refine Spec.enter Tryz.func20 rfl rfl ?_; intro w0
  repeat' (first | (refine G.minI rfl rfl rfl ?_) | (refine G.maxI rfl rfl rfl ?_) | (refine G.atSlc ?_; refine G.slicePre (b := min (l.length : Int) (most : Int)) (b' := mm) rfl rfl (tyy rfl) (tyy rfl) rfl hml (by omega) ?_) | (refine G.atCode ?_; refine G.stopLoop ?_) | (refine G.atCode ?_; first | refine G.seq ?_ | refine G.region ?_ | refine G.block ?_ | refine G.skip ?_ | refine G.exit rfl ?_ | refine G.ret ?_ | (refine G.cond rfl ?_ ?_ <;> intro hc <;> (try simp only [tests, reduceCtorEq] at hc) <;> (try exact Zf))) | refine G.endOps ?_ | refine G.endStill ?_ | refine G.endHeld ?_ | refine G.back ?_ | refine G.endBlk ?_ | (refine G.atBin ?_; first | (refine G.atAdd ?_; first | refine G.arith rfl rfl rfl rfl rfl Zi ?_ | refine G.catStr rfl rfl rfl Zo ?_ | refine G.op rfl rfl ?_) | refine G.op rfl rfl ?_ ) | refine G.op rfl rfl ?_ | (refine G.atLen ?_; first | refine G.lenStr rfl (tyy rfl) rfl ?_ | refine G.lenSlice rfl (tyy rfl) rfl ?_ | refine G.lenRowB rfl (tyy rfl) Za rfl ?_ | refine G.lenRowS rfl (tyy rfl) Za rfl ?_ | refine G.lenRow rfl (tyy rfl) Za rfl ?_ | refine G.lenImmB rfl (tyy rfl) Zl rfl ?_ | refine G.lenImmI rfl (tyy rfl) Zl rfl ?_ | refine G.lenImmS rfl (tyy rfl) Zl rfl ?_ | refine G.lenImm rfl (tyy rfl) Zl rfl ?_) | (refine G.atLoad ?_; first | refine G.loadOwn1 rfl (tyy rfl) rfl rfl Za rfl rfl ?_ | refine G.loadOwnA rfl (tyy rfl) rfl rfl Za rfl rfl ?_ | refine G.loadImm1 rfl (tyy rfl) rfl rfl Zp rfl ?_ | refine G.loadImmA rfl (tyy rfl) rfl rfl Zp Zp rfl ?_ | refine G.loadRowS rfl (tyy rfl) Zp Za Zo rfl ?_ | (refine G.loadRowB rfl (tyy rfl) Zp Za Zo rfl ?_; intro _)) | (refine G.atBsl ?_; refine G.buildSlice (tyy rfl) (tyy rfl) rfl rfl rfl rfl ?_; intro _) | (refine G.atApp ?_; first | (refine G.append1S rfl rfl (tyy rfl) (tyy rfl) rfl rfl Za Za rfl Zo ?_; intro _) | (refine G.appendImmS rfl rfl (tyy rfl) (tyy rfl) rfl rfl Za Zl rfl Zo ?_; intro _) | (refine G.append1B rfl rfl (tyy rfl) (tyy rfl) rfl rfl Za Za rfl Zo Zo ?_; intro _) | (refine G.appendStr rfl rfl (tyy rfl) (tyy rfl) (tyy rfl) rfl rfl Za rfl Zo ?_; intro _) | (refine G.append1 rfl rfl (tyy rfl) (tyy rfl) rfl rfl Za Za rfl rfl rfl Zo ?_; intro _; refine G.rowForm Take.hd ?_; rintro _ _ rfl)) | (refine G.atIdx ?_; first | (refine G.idxImmI rfl rfl (tyy rfl) (tyy rfl) Zl Zp Zj rfl Zo ?_; intro _ _ _) | (refine G.idxImmS rfl rfl (tyy rfl) (tyy rfl) Zl Zj rfl Zo ?_; intro _ _) | (refine G.idxImmB rfl rfl (tyy rfl) (tyy rfl) Zl Zj rfl Zo ?_; intro _ _ _) | (refine G.idxRow' rfl rfl (tyy rfl) (tyy rfl) Za Zj rfl Zo ?_; intro _ _) | (refine G.idxImmN rfl rfl (tyy rfl) (tyy rfl) Zl Zj rfl Zo ?_; intro _ _ _ _ _)) | (refine G.atSlc ?_; first | refine G.dropStr rfl rfl (tyy rfl) rfl Zj Zo ?_ | refine G.takeStr rfl rfl (tyy rfl) rfl Zj Zo ?_ | refine G.sliceStr rfl rfl rfl (tyy rfl) rfl Zj Zj Zo rfl ?_))
  refine G.nilRow 9 1 ?_
  refine G.go ?_
  refine G.loop (σ := Nat × Option Addr × Nat) (fun x => [(17, .int .i64 x.1), (16, .int .i64 mm), (15, .slice lA mm lc), (7, .slice x.2.1 x.1 x.2.2), (1, .int .i64 n)])
    (fun x => [.row (.slice x.2.1 x.1 x.2.2) 9 1 (strsR ((K.take x.1).map fun s => s.take n))]) (fun x _ => x.1 <= mm) (fun x => mm - x.1) ⟨0, none, 0⟩ ⟨rfl, rfl, rfl, rfl, rfl, trivial⟩ Zu (Nat.zero_le _) ?_
  rintro ⟨i, A, c⟩ h3 hle3 hi
  simp only at hi
  refine G.norm (by (try dsimp only) <;> exact rfl) (by (try dsimp only) <;> exact rfl) ?_
  have hL3 : HSl h3 (.slice lA mm lc) 1 (strsR K) := hL.mono (by solve | repeat first | assumption | exact Zr _ | refine Zq ?_ Zp)
  have hrl : ((K.take i).map fun s => s.take n).length = i := by rw [List.length_map, List.length_take]; omega
  by_cases hlt : i < mm
  . have sC := law06_cut (strAt K i) (hKs _ (strAt_in (by omega))) n hn
    have hc1 : ((K.take i).map fun s => s.take n) ++ [(strAt K i).take n] = (K.take (i + 1)).map fun s => s.take n := by
      rw [<- take_snoc (L := K) (by omega), List.map_append]; rfl
    generalize (K.take i).map (fun s => s.take n) = L1 at *
    repeat' (first | (refine G.atIdx ?_; refine G.idxImmS rfl rfl (tyy rfl) (tyy rfl) hL3 Zj rfl (by omega) ?_; intro _ _) | (show G _ (.ops .seq _ (⟨some _, .call { callee := .value (.func 15), args := _, argTypes := _ }, _, _, _, none⟩ :: _) :: _) _ _ _; refine G.call callCut6 rfl rfl (sC _) Ze ?_; rintro _ h4 H4 ⟨rfl, rfl⟩ hle4) | (refine G.atApp ?_; refine G.append1S rfl rfl (tyy rfl) (tyy rfl) rfl rfl Za Za rfl Zo ?_; intro _; refine G.rowForm Take.hd ?_; rintro _ _ rfl) | (refine G.atCode ?_; first | refine G.seq ?_ | refine G.region ?_ | refine G.block ?_ | refine G.skip ?_ | refine G.exit rfl ?_ | refine G.ret ?_ | (refine G.cond rfl ?_ ?_ <;> intro hc <;> (try simp only [tests, reduceCtorEq] at hc) <;> (try exact Zf))) | refine G.endOps ?_ | refine G.endStill ?_ | refine G.endHeld ?_ | refine G.back ?_ | refine G.endBlk ?_ | (refine G.atBin ?_; first | (refine G.atAdd ?_; first | refine G.arith rfl rfl rfl rfl rfl Zi ?_ | refine G.catStr rfl rfl rfl Zo ?_ | refine G.op rfl rfl ?_) | refine G.op rfl rfl ?_ ) | refine G.op rfl rfl ?_ | (refine G.atLen ?_; first | refine G.lenStr rfl (tyy rfl) rfl ?_ | refine G.lenSlice rfl (tyy rfl) rfl ?_ | refine G.lenRowB rfl (tyy rfl) Za rfl ?_ | refine G.lenRowS rfl (tyy rfl) Za rfl ?_ | refine G.lenRow rfl (tyy rfl) Za rfl ?_ | refine G.lenImmB rfl (tyy rfl) Zl rfl ?_ | refine G.lenImmI rfl (tyy rfl) Zl rfl ?_ | refine G.lenImmS rfl (tyy rfl) Zl rfl ?_ | refine G.lenImm rfl (tyy rfl) Zl rfl ?_) | (refine G.atLoad ?_; first | refine G.loadOwn1 rfl (tyy rfl) rfl rfl Za rfl rfl ?_ | refine G.loadOwnA rfl (tyy rfl) rfl rfl Za rfl rfl ?_ | refine G.loadImm1 rfl (tyy rfl) rfl rfl Zp rfl ?_ | refine G.loadImmA rfl (tyy rfl) rfl rfl Zp Zp rfl ?_ | refine G.loadRowS rfl (tyy rfl) Zp Za Zo rfl ?_ | (refine G.loadRowB rfl (tyy rfl) Zp Za Zo rfl ?_; intro _)) | (refine G.atBsl ?_; refine G.buildSlice (tyy rfl) (tyy rfl) rfl rfl rfl rfl ?_; intro _) | (refine G.atApp ?_; first | (refine G.append1S rfl rfl (tyy rfl) (tyy rfl) rfl rfl Za Za rfl Zo ?_; intro _) | (refine G.appendImmS rfl rfl (tyy rfl) (tyy rfl) rfl rfl Za Zl rfl Zo ?_; intro _) | (refine G.append1B rfl rfl (tyy rfl) (tyy rfl) rfl rfl Za Za rfl Zo Zo ?_; intro _) | (refine G.appendStr rfl rfl (tyy rfl) (tyy rfl) (tyy rfl) rfl rfl Za rfl Zo ?_; intro _) | (refine G.append1 rfl rfl (tyy rfl) (tyy rfl) rfl rfl Za Za rfl rfl rfl Zo ?_; intro _; refine G.rowForm Take.hd ?_; rintro _ _ rfl)) | (refine G.atIdx ?_; first | (refine G.idxImmI rfl rfl (tyy rfl) (tyy rfl) Zl Zp Zj rfl Zo ?_; intro _ _ _) | (refine G.idxImmS rfl rfl (tyy rfl) (tyy rfl) Zl Zj rfl Zo ?_; intro _ _) | (refine G.idxImmB rfl rfl (tyy rfl) (tyy rfl) Zl Zj rfl Zo ?_; intro _ _ _) | (refine G.idxRow' rfl rfl (tyy rfl) (tyy rfl) Za Zj rfl Zo ?_; intro _ _) | (refine G.idxImmN rfl rfl (tyy rfl) (tyy rfl) Zl Zj rfl Zo ?_; intro _ _ _ _ _)) | (refine G.atSlc ?_; first | refine G.dropStr rfl rfl (tyy rfl) rfl Zj Zo ?_ | refine G.takeStr rfl rfl (tyy rfl) rfl Zj Zo ?_ | refine G.sliceStr rfl rfl rfl (tyy rfl) rfl Zj Zj Zo rfl ?_))
    all_goals first | (exfalso; omega) | skip
    have hll : (strsR (L1 ++ [(strAt K i).take n])).length = i + 1 := by rw [strsR_length, List.length_append, hrl]; rfl
    rw [hll, hc1]
    exact G.again ⟨i + 1, _, _⟩ ⟨sint (by simp), rfl, rfl, rfl, rfl, trivial⟩ Zu (by simp only; omega) (by solve | repeat first | assumption | exact Zr _ | refine Zq ?_ Zp) (by simp only; omega)
  . obtain rfl : i = mm := by omega
    rw [<- hKl, List.take_length] at hrl ⊢
    rw [hrl]
    repeat' (first | (refine G.atCode ?_; first | refine G.seq ?_ | refine G.region ?_ | refine G.block ?_ | refine G.skip ?_ | refine G.exit rfl ?_ | refine G.ret ?_ | (refine G.cond rfl ?_ ?_ <;> intro hc <;> (try simp only [tests, reduceCtorEq] at hc) <;> (try exact Zf))) | refine G.endOps ?_ | refine G.endStill ?_ | refine G.endHeld ?_ | refine G.back ?_ | refine G.endBlk ?_ | (refine G.atBin ?_; first | (refine G.atAdd ?_; first | refine G.arith rfl rfl rfl rfl rfl Zi ?_ | refine G.catStr rfl rfl rfl Zo ?_ | refine G.op rfl rfl ?_) | refine G.op rfl rfl ?_ ) | refine G.op rfl rfl ?_ | (refine G.atLen ?_; first | refine G.lenStr rfl (tyy rfl) rfl ?_ | refine G.lenSlice rfl (tyy rfl) rfl ?_ | refine G.lenRowB rfl (tyy rfl) Za rfl ?_ | refine G.lenRowS rfl (tyy rfl) Za rfl ?_ | refine G.lenRow rfl (tyy rfl) Za rfl ?_ | refine G.lenImmB rfl (tyy rfl) Zl rfl ?_ | refine G.lenImmI rfl (tyy rfl) Zl rfl ?_ | refine G.lenImmS rfl (tyy rfl) Zl rfl ?_ | refine G.lenImm rfl (tyy rfl) Zl rfl ?_) | (refine G.atLoad ?_; first | refine G.loadOwn1 rfl (tyy rfl) rfl rfl Za rfl rfl ?_ | refine G.loadOwnA rfl (tyy rfl) rfl rfl Za rfl rfl ?_ | refine G.loadImm1 rfl (tyy rfl) rfl rfl Zp rfl ?_ | refine G.loadImmA rfl (tyy rfl) rfl rfl Zp Zp rfl ?_ | refine G.loadRowS rfl (tyy rfl) Zp Za Zo rfl ?_ | (refine G.loadRowB rfl (tyy rfl) Zp Za Zo rfl ?_; intro _)) | (refine G.atBsl ?_; refine G.buildSlice (tyy rfl) (tyy rfl) rfl rfl rfl rfl ?_; intro _) | (refine G.atApp ?_; first | (refine G.append1S rfl rfl (tyy rfl) (tyy rfl) rfl rfl Za Za rfl Zo ?_; intro _) | (refine G.appendImmS rfl rfl (tyy rfl) (tyy rfl) rfl rfl Za Zl rfl Zo ?_; intro _) | (refine G.append1B rfl rfl (tyy rfl) (tyy rfl) rfl rfl Za Za rfl Zo Zo ?_; intro _) | (refine G.appendStr rfl rfl (tyy rfl) (tyy rfl) (tyy rfl) rfl rfl Za rfl Zo ?_; intro _) | (refine G.append1 rfl rfl (tyy rfl) (tyy rfl) rfl rfl Za Za rfl rfl rfl Zo ?_; intro _; refine G.rowForm Take.hd ?_; rintro _ _ rfl)) | (refine G.atIdx ?_; first | (refine G.idxImmI rfl rfl (tyy rfl) (tyy rfl) Zl Zp Zj rfl Zo ?_; intro _ _ _) | (refine G.idxImmS rfl rfl (tyy rfl) (tyy rfl) Zl Zj rfl Zo ?_; intro _ _) | (refine G.idxImmB rfl rfl (tyy rfl) (tyy rfl) Zl Zj rfl Zo ?_; intro _ _ _) | (refine G.idxRow' rfl rfl (tyy rfl) (tyy rfl) Za Zj rfl Zo ?_; intro _ _) | (refine G.idxImmN rfl rfl (tyy rfl) (tyy rfl) Zl Zj rfl Zo ?_; intro _ _ _ _ _)) | (refine G.atSlc ?_; first | refine G.dropStr rfl rfl (tyy rfl) rfl Zj Zo ?_ | refine G.takeStr rfl rfl (tyy rfl) rfl Zj Zo ?_ | refine G.sliceStr rfl rfl rfl (tyy rfl) rfl Zj Zj Zo rfl ?_))
    all_goals first | (exfalso; omega) | exact G.done1 rfl rfl _ Zu ⟨A, c, rfl, rfl⟩
def jrC (g d m : Nat) (v : Value) (q r : Nat) (lv wv tv : Value) (lim : Bool) (most : Int) (T : List (List Value)) (J : Jn) (D : Dk) : List Chunk := jdC g d m v J D ++ rjC q r lv wv tv lim most T J D
theorem JI.shp {D D' : Dk} {J : Jn} (hI : JI D J) (ok : D'.Ok) (wk : D'.Wk) (hl : D'.lasts.length = D.lasts.length) (h0 : 0 <= D'.limit) : JI D' J :=
  ⟨ok, wk, by rw [hl]; exact hI.n4, h0, hI.half, by unfold sizeM; rw [hl]; exact hI.used, hI.n, hI.gen, hI.slot⟩
theorem JI.closed {D : Dk} {J : Jn} (hI : JI D J) : JI D { J with closed := true } := ⟨hI.ok, hI.wk, hI.n4, hI.lim, hI.half, hI.used, hI.n, hI.gen, hI.slot⟩
theorem JI.shp2 {D D' : Dk} {J : Jn} (hI : JI D J) (ok : D'.Ok) (wk : D'.Wk) (s : Shp D D') : JI D' J := hI.shp ok wk s.2 (by rw [s.1]; exact hI.lim)
theorem JI.reset {D : Dk} {J : Jn} (hI : JI D J) (bs : List B8) : JI (resetM D J bs).1 (resetM D J bs).2.1 := by
  have a1 := layJ_ok (allM (J.gen + 1) 0 bs) (firstM D (1 - J.half)) hI.ok
  have a2 := layJ_wk (allM (J.gen + 1) 0 bs) (firstM D (1 - J.half)) hI.wk
  have a3 := layJ_shp (allM (J.gen + 1) 0 bs) D (firstM D (1 - J.half))
  have b1 := layJ_ok [secH (J.gen + 1) (1 - J.half)] (slotM J) a1
  have b2 := layJ_wk [secH (J.gen + 1) (1 - J.half)] (slotM J) a2
  have b3 := a3.trans (layJ_shp [secH (J.gen + 1) (1 - J.half)] (layJ D (firstM D (1 - J.half)) (allM (J.gen + 1) 0 bs)).1 (slotM J))
  have c1 := (hI.shp2 a1 a2 a3).closed
  have c2 := (hI.shp2 b1 b2 b3)
  unfold resetM lay2
  split
  . exact hI
  . split
    . exact hI
    . rename_i _ hlong
      split
      . exact hI
      . rename_i hfull
        split
        . exact c1
        . split
          . exact c2.closed
          . have hlen : ∀ b ∈ bs, b.length <= 262144 := fun b hb => by
              apply Classical.byContradiction
              intro hn
              exact hlong ⟨b, hb, by omega⟩
            rw [fullM_iff] at hfull
            have hz : sizeM (layJ (layJ D (firstM D (1 - J.half)) (allM (J.gen + 1) 0 bs)).1 (slotM J) [secH (J.gen + 1) (1 - J.half)]).1 = sizeM D := by unfold sizeM; rw [b3.2]
            have hnb := needs_len hlen
            have hh := hI.half
            refine ⟨b1, b2, c2.n4, c2.lim, by simp only; omega, by rw [hz]; simp only; omega, hnb, by simp only; omega, ?_⟩
            simp only [slotM]
            split <;> simp
theorem JI.append {D : Dk} {J : Jn} (hI : JI D J) (b : B8) : JI (appendM D J b).1 (appendM D J b).2.1 := by
  have a1 := layJ_ok (cellsM J.gen J.n b) (firstM D J.half + J.used) hI.ok
  have a2 := layJ_wk (cellsM J.gen J.n b) (firstM D J.half + J.used) hI.wk
  have a3 := layJ_shp (cellsM J.gen J.n b) D (firstM D J.half + J.used)
  have c1 := hI.shp2 a1 a2 a3
  unfold appendM
  split
  . exact hI
  . split
    . exact hI
    . rename_i hb
      split
      . exact hI
      . rename_i hl
        split
        . exact c1.closed
        . have hnp := needM_pos (show b.length <= 262144 by omega)
          have hz : sizeM (layJ D (firstM D J.half + J.used) (cellsM J.gen J.n b)).1 = sizeM D := by unfold sizeM; rw [a3.2]
          have hn := hI.n
          unfold leftM at hl
          exact ⟨a1, a2, c1.n4, c1.lim, c1.half, by rw [hz]; simp only; omega, by simp only; omega, c1.gen, c1.slot⟩
theorem JI.opened {D : Dk} (hok : D.Ok) (hwk : D.Wk) (hl : 0 <= D.limit) {D' : Dk} {J : Jn} {bs : List B8} {e : Int} (h : openM D = (D', some J, bs, e)) : JI D' J /\ e = 0 := by
  unfold openM at h
  split at h
  . cases h
  . rename_i h4
    split at h
    . cases h
    . split at h
      . cases h
      . have hr := (headsM_ji hok hwk (by omega) hl).reset (openR D)
        injection h with h1 h2
        injection h2 with h2 h3
        injection h3 with h3 h4
        injection h2 with h2
        rw [h1, h2] at hr
        exact ⟨hr, h4.symm⟩
end Go.Proofs.YtmbpjgjajedonaaGreatDoor
namespace Go.Proofs.YtmbpjgjajedonaaGreatDoor
set_option linter.all false
set_option maxRecDepth 4000
open Go.RowKit

theorem resetT_ok {D : Dk} {J : Jn} {bs : List B8} (h : (resetM D J bs).2.2 = 0) : resetT D J bs = [] := by
  unfold resetM at h
  unfold resetT
  split
  . rfl
  . rename_i h1
    rw [if_neg h1] at h
    split
    . rfl
    . rename_i h2
      rw [if_neg h2] at h
      split
      . rfl
      . rename_i h3
        rw [if_neg h3] at h
        split
        . rename_i h4
          rw [if_pos h4] at h
          exact absurd h h4
        . rename_i h4
          rw [if_neg h4] at h
          split at h
          . rename_i h5
            exact absurd h h5
          . rename_i h5
            exact layT_ok _ _ (Decidable.not_not.1 h5)
theorem openT_ok {D : Dk} (h : (openM D).2.2.2 = 0) : openT D = [] := by
  unfold openM at h
  unfold openT
  split
  . rfl
  . rename_i h1
    rw [if_neg h1] at h
    split
    . rfl
    . rename_i h2
      rw [if_neg h2] at h
      split at h
      . rename_i h3
        exact absurd h h3
      . rename_i h3
        exact resetT_ok (Decidable.not_not.1 h3)
def cutD (D : Dk) (n : Int) (l : Ls) : Dk := { D with left := max 0 n, loss := l }
theorem crash_w {D : Dk} (hw : D.W = []) (l : Ls) : Qt (crashM D l) /\ (crashM D l).W = [] /\ (crashM D l).lasts = D.lasts /\ (crashM D l).limit = D.limit := by
  by_cases ho : D.off = true
  . have e : crashM D l = { D with off := false, left := 0 } := by unfold crashM; rw [if_pos ho]
    rw [e]
    exact ⟨⟨rfl, rfl⟩, hw, rfl, rfl⟩
  . have e : crashM D l = { loseM D l with off := false, left := 0 } := by unfold crashM; rw [if_neg ho]
    rw [e]
    refine ⟨⟨rfl, rfl⟩, rfl, ?_, rfl⟩
    refine strAt_ext (by simp [loseM]) (fun i hi => ?_)
    have hi' : i < D.lasts.length := by simpa [loseM] using hi
    show strAt (loseM D l).lasts i = _
    rw [loseM_at l hi']
    unfold loseAt
    rw [hw]; rfl
theorem open_rest {D : Dk} (q : Qt D) (hw : D.W = []) (h4 : 4 <= D.lasts.length) (h8 : D.lasts.length <= 4000) (hlim : D.limit = D.lasts.length) (hg : mostL D.lasts (sizeM D) < 4294967295) :
    ∃ D' J, openM D = (D', some J, recL D.lasts (sizeM D), 0) /\ openT D = [] /\ Qt D' /\ D'.W = [] /\ Shp D D' /\ Live D'.lasts (sizeM D) J (recL D.lasts (sizeM D)) /\ J.gen = mostL D.lasts (sizeM D) + 1 := by
  have hcn := curL_nil q.off hw
  have hz := size_fit h4
  have hzs : sizeM D <= 2383 := by unfold sizeM; omega
  have hor : openR D = recL D.lasts (sizeM D) := by unfold openR; rw [hcn]
  have hoj : openJ D = ⟨mostL D.lasts (sizeM D), (hdsL D.lasts).half, (hdsL D.lasts).slot, 0, 0, false⟩ := by unfold openJ headsM; rw [hcn]
  have hhalf := (hds_ok D.lasts).half
  have hmul := half_mul hhalf (sizeM D)
  have hfit := fit_ok D
  have hrm : roomM D = D.lasts.length := by unfold roomM; omega
  have hnf : ¬ fullM D (openJ D) (openR D) := by
    rw [fullM_iff, hrm, hoj]
    unfold firstM
    simp only
    omega
  rcases open_qt q h4 (by omega) (lens_ok hzs) hfit with h | ⟨_, D', J, o⟩
  . exact absurd h.1 hnf
  . obtain ⟨oe, oq, ow, os, ol, og⟩ := o
    rw [hor] at oe ol
    rw [hoj] at og
    exact ⟨D', J, oe, openT_ok (by rw [oe]), oq, ow, os, ol, og⟩
theorem needs_cuts : ∀ (bs : List B8), (∀ b ∈ bs, b.length <= 200) -> needsM bs <= 2 * bs.length
  | [], _ => Nat.le_refl _
  | b :: bs, h => by
    have h1 := h b (by simp)
    have h2 := needs_cuts bs (fun x hx => h x (by simp [hx]))
    have h3 : needM b.length <= 2 := by unfold needM; split <;> omega
    rw [needsM, List.length_cons]; omega
structure Rs (one two : List B8) (n : Int) (l : Ls) (D1 : Dk) (J1 : Jn) (D2 : Dk) (J2 : Jn) : Prop where
  o1 : openM (newM 60) = (D1, some J1, [], 0)
  t1 : openT (newM 60) = []
  r2 : resetM D1 J1 one = (D2, J2, 0)
  t2 : resetT D1 J1 one = []
  fin : NotMix (resetT (cutD D2 n l) J2 two ++ crashT (resetM (cutD D2 n l) J2 two).1 l) -> ∃ D5 J5 bs, openM (crashM (resetM (cutD D2 n l) J2 two).1 l) = (D5, some J5, bs, 0) ∧
    (((resetM (cutD D2 n l) J2 two).2.2 = 0 /\ bs = two) \/ ((resetM (cutD D2 n l) J2 two).2.2 = 10 /\ (bs = one \/ bs = two)))
theorem resets {one two : List B8} (h1 : ∀ b ∈ one, b.length <= 200) (h1n : one.length <= 8) (h2 : ∀ b ∈ two, b.length <= 200) (h2n : two.length <= 8) (n : Int) (l : Ls) : ∃ D1 J1 D2 J2, Rs one two n l D1 J1 D2 J2 := by
  have n1 := needs_cuts one h1
  have n2 := needs_cuts two h2
  have hl0 : (newM 60).lasts.length = 60 := by simp [newM, layM]; decide
  have hm0 : (newM 60).limit = 60 := rfl
  have hz : ∀ {D : Dk}, D.lasts.length = 60 -> sizeM D = 29 := fun h => by unfold sizeM; rw [h]
  have hrm : ∀ {D : Dk}, D.lasts.length = 60 -> D.limit = 60 -> roomM D = 60 := fun h h' => by unfold roomM; rw [h, h']; rfl
  obtain ⟨e1, e2, e3, e4⟩ := new_open 60
  have hcn : curL (newM 60) = (newM 60).lasts := curL_nil rfl rfl
  have hm : mostL (newM 60).lasts 29 = 0 := by have : (openJ (newM 60)).gen = mostL (curL (newM 60)) (sizeM (newM 60)) := rfl; rw [hcn, hz hl0, e2] at this; exact this.symm
  have hr : recL (newM 60).lasts 29 = [] := by have : openR (newM 60) = recL (curL (newM 60)) (sizeM (newM 60)) := rfl; rw [hcn, hz hl0, e1] at this; exact this.symm
  obtain ⟨D1, J1, o1, t1, q1, w1, s1, l1, g1⟩ := open_rest (qt_new 60) rfl (by omega) (by omega) (by rw [hm0, hl0]; rfl) (by rw [hz hl0, hm]; decide)
  rw [hz hl0] at o1 l1 g1
  rw [hr] at o1 l1
  rw [hm] at g1
  have hl1 : D1.lasts.length = 60 := by rw [s1.2]; exact hl0
  have hm1 : D1.limit = 60 := by rw [s1.1]; exact hm0
  have hds1 := l1.hd
  have hh1 := l1.half
  have hf1 : ¬ fullM D1 J1 one := by
    rw [fullM_iff, hz hl1, hrm hl1 hm1]
    have := half_mul hh1 29
    unfold firstM
    rw [hz hl1]
    omega
  obtain ⟨D2, r2, q2, w2, s2, a2⟩ := reset_qt q1 (by omega) hh1 l1.open_ (bs := one) (fun b hb => by have := h1 b hb; omega) hf1
  have l2 := reset_live (L := D1.lasts) (L' := D2.lasts) (z := 29) (J := J1) (bs := one) (by rw [s2.2]) (by omega) hh1 (.inr l1.s) (by omega) (by omega) (by omega) (fun b hb => by have := h1 b hb; omega) (by rw [l1.most]; exact Nat.le_refl _) (fun i hi => by
    have := a2 i hi
    rw [curAt_nil w1] at this
    rw [this]
    unfold firstM
    rw [hz hl1])
  have hl2 : D2.lasts.length = 60 := by rw [s2.2]; exact hl1
  have hm2 : D2.limit = 60 := by rw [s2.1]; exact hm1
  refine ⟨D1, J1, D2, _, o1, t1, r2, resetT_ok (by rw [r2]), fun hn => ?_⟩
  generalize hJ2 : (⟨J1.gen + 1, 1 - J1.half, slotM J1, needsM one, one.length, false⟩ : Jn) = J2 at *
  have hg2 : J2.gen = 2 := by rw [<- hJ2]; simp only; omega
  have hds2 := l2.hd
  have hh2 := l2.half
  have hl3 : (cutD D2 n l).lasts.length = 60 := hl2
  have hm3 : (cutD D2 n l).limit = 60 := hm2
  have hf2 : ¬ fullM (cutD D2 n l) J2 two := by
    rw [fullM_iff, hz hl3, hrm hl3 hm3]
    have := half_mul hh2 29
    unfold firstM
    rw [hz hl3]
    omega
  have key := reset_any (D := cutD D2 n l) q2.off w2 (by omega) (by omega) (J := J2) l2.open_ (bs := two) (fun b hb => by have := h2 b hb; omega) hf2 (by rw [hz hl3]; exact Nat.le_of_eq l2.most) (by show J2.half = (hdsL D2.lasts).half; rw [hds2]) (by show J2.slot = (hdsL D2.lasts).slot; rw [hds2]) hn.left
  rw [hz hl3] at key
  have hrec2 : recL (cutD D2 n l).lasts 29 = one := l2.tells (by omega)
  -- behind it
  have fin : ∀ D3 : Dk, D3.W = [] -> Shp (cutD D2 n l) D3 -> mostL D3.lasts 29 < 4294967295 -> ∃ D5 J5, openM (crashM D3 l) = (D5, some J5, recL D3.lasts 29, 0) := by
    intro D3 w3 s3 hmm
    obtain ⟨c1, c2, c3, c4⟩ := crash_w w3 l
    have hl4 : (crashM D3 l).lasts.length = 60 := by rw [c3, s3.2]; exact hl3
    have hm4 : (crashM D3 l).limit = 60 := by rw [c4, s3.1]; exact hm3
    obtain ⟨D5, J5, o5, _⟩ := open_rest c1 c2 (by omega) (by omega) (by rw [hl4, hm4]; rfl) (by rw [hz hl4, c3]; exact hmm)
    rw [hz hl4, c3] at o5
    exact ⟨D5, J5, o5⟩
  rcases key with ⟨D3, e, k, lv⟩ | ⟨D3, e, g, hr3, hm3'⟩
  . rw [e]
    obtain ⟨D5, J5, o5⟩ := fin D3 k.w k.sh (by have hmo := lv.most; simp only at hmo; omega)
    rw [lv.tells (by omega)] at o5
    exact ⟨D5, J5, two, o5, .inl ⟨rfl, rfl⟩⟩
  . rw [e]
    obtain ⟨D5, J5, o5⟩ := fin D3 g.w g.sh (by omega)
    refine ⟨D5, J5, _, o5, .inr ⟨rfl, ?_⟩⟩
    rcases hr3 with h | h
    . exact .inl (by rw [h, hrec2])
    . exact .inr h
end Go.Proofs.YtmbpjgjajedonaaGreatDoor
namespace Go.Proofs.YtmbpjgjajedonaaGreatDoor
set_option linter.all false
set_option maxRecDepth 4000
open Go.RowKit

theorem las_append {D : Dk} (ho : D.off = false) (hw : D.W = []) (h8 : D.lasts.length <= 8192) {J : Jn} {bs : List B8} (hL : Live D.lasts (sizeM D) J bs) {b : B8} (hb : b.length <= 262144) :
    (∃ D' J', appendM D J b = (D', J', 0) /\ appendT D J b = [] /\ Kept D D' /\ Live D'.lasts (sizeM D) J' (bs ++ [b]) /\ J'.gen = J.gen) ∨
    (appendM D J b = (D, J, 11) /\ appendT D J b = []) ∨
    (∃ D' J', appendM D J b = (D', J', 10) /\ Gone D D' /\ (NotMix (appendT D J b) -> (recL D'.lasts (sizeM D) = bs \/ recL D'.lasts (sizeM D) = bs ++ [b]) /\ mostL D'.lasts (sizeM D) <= J.gen)) := by
  by_cases hfit : (needM b.length : Int) <= leftM D J
  . have hzb : sizeM D <= 8192 := by unfold sizeM; omega
    have hnp := needM_pos hb
    have hro := room_le D
    have hl : (needM b.length : Int) <= roomM D - firstM D J.half - J.used /\ (needM b.length : Int) <= sizeM D - J.used := by unfold leftM at hfit; omega
    have hap : appendM D J b = if (layJ D (firstM D J.half + J.used) (cellsM J.gen J.n b)).2 ≠ 0 then ((layJ D (firstM D J.half + J.used) (cellsM J.gen J.n b)).1, { J with closed := true }, (layJ D (firstM D J.half + J.used) (cellsM J.gen J.n b)).2) else
        ((layJ D (firstM D J.half + J.used) (cellsM J.gen J.n b)).1, { J with used := J.used + needM b.length, n := J.n + 1 }, 0) := by
      unfold appendM
      rw [if_neg (by rw [hL.open_]; decide), if_neg (by omega), if_neg (by omega)]
    have hat : appendT D J b = layT D (firstM D J.half + J.used) (cellsM J.gen J.n b) := by
      unfold appendT
      rw [if_neg (by rw [hL.open_]; decide), if_neg (by omega), if_neg (by omega)]
    rcases layJ_any (cellsM J.gen J.n b) D (firstM D J.half + J.used) ho cellsM_all (fun _ => by rw [cellsM_len]; omega) with ⟨e1, k1, t1, _⟩ | ⟨e1, g1, _⟩
    . left
      rw [if_neg (by rw [e1]; decide)] at hap
      have hn : NotMix (appendT D J b) := by rw [hat, t1]; intro t ht; cases ht
      rcases append_any ho hw h8 hL hb hfit hn with ⟨D', e, k, l⟩ | ⟨D', e, _⟩
      . exact ⟨D', _, e, by rw [hat, t1], k, l, rfl⟩
      . rw [hap] at e
        injection e with _ e
        injection e with _ e
        exact absurd e (by decide)
    . right; right
      rw [if_pos (by rw [e1]; decide), e1] at hap
      refine ⟨_, _, hap, g1, fun hn => ?_⟩
      rcases append_any ho hw h8 hL hb hfit hn with ⟨D', e, _⟩ | ⟨D', e, _, r, m⟩
      . rw [hap] at e
        injection e with _ e
        injection e with _ e
        exact absurd e (by decide)
      . rw [hap] at e
        injection e with e _
        rw [e]
        exact ⟨r, m⟩
  . right; left
    constructor
    . unfold appendM
      rw [if_neg (by rw [hL.open_]; decide), if_neg (by omega), if_pos (by omega)]
    . unfold appendT
      rw [if_neg (by rw [hL.open_]; decide), if_neg (by omega), if_pos (by omega)]
structure LaR (D : Dk) (told : List B8) (op : Bool) (maybe : B8) (m : Nat) : Prop where
  r : recL D.lasts 19 = told \/ (op = true /\ recL D.lasts 19 = told ++ [maybe])
  m : mostL D.lasts 19 <= m
structure LaD (D : Dk) : Prop where
  ok : D.Ok
  wk : D.Wk
  off : D.off = false
  left : D.left = 0
  w : D.W = []
  len : D.lasts.length = 40
  lim : D.limit = 40
theorem la_size {D : Dk} (h : D.lasts.length = 40) : sizeM D = 19 := by unfold sizeM; rw [h]
theorem la_new : LaD (newM 40) /\ LaR (newM 40) [] false [] 0 := by
  have hl : (newM 40).lasts.length = 40 := by simp [newM, layM]; decide
  obtain ⟨e1, e2, e3, e4⟩ := new_open 40
  have hcn : curL (newM 40) = (newM 40).lasts := curL_nil rfl rfl
  have hm : mostL (newM 40).lasts 19 = 0 := by have : (openJ (newM 40)).gen = mostL (curL (newM 40)) (sizeM (newM 40)) := rfl; rw [hcn, la_size hl, e2] at this; exact this.symm
  have hr : recL (newM 40).lasts 19 = [] := by have : openR (newM 40) = recL (curL (newM 40)) (sizeM (newM 40)) := rfl; rw [hcn, la_size hl, e1] at this; exact this.symm
  exact ⟨⟨new_ok 40, wk_nil rfl, rfl, rfl, rfl, hl, rfl⟩, ⟨.inl hr, by omega⟩⟩
theorem la_open {D : Dk} {told : List B8} {op : Bool} {maybe : B8} {m : Nat} (ho : D.off = false) (hw : D.W = []) (hl : D.lasts.length = 40) (hlim : D.limit = 40) (hr : LaR D told op maybe m) (hm : m < 1000) (hn : NotMix (openT D)) :
    (∃ D' J, openM D = (D', some J, recL D.lasts 19, 0) /\ Kept D D' /\ Live D'.lasts 19 J (recL D.lasts 19) /\ J.gen <= m + 1) ∨
    (∃ D', openM D = (D', none, [], 10) /\ Gone D D' /\ LaR D' told op maybe (m + 1)) := by
  have hz := la_size hl
  have hrm := hr.m
  rcases open_any (D := D) ho hw (by omega) (by omega) (by omega) (by rw [hz]; omega) hn with ⟨D', J, e, k, l, g⟩ | ⟨D', e, g, r, mm⟩
  . rw [hz] at e l g
    exact .inl ⟨D', J, e, k, l, by omega⟩
  . rw [hz] at r mm
    refine .inr ⟨D', e, g, ⟨by rw [r]; exact hr.r, by omega⟩⟩
end Go.Proofs.YtmbpjgjajedonaaGreatDoor
namespace Go.Proofs.YtmbpjgjajedonaaGreatDoor
set_option linter.all false
set_option maxRecDepth 4000
open Go.RowKit

theorem callMixed : Callable Tryz.prog 13 := ⟨_, Tryz.func13, by kernel_rfl, rfl⟩
theorem trR_get {L : List Tr} {i : Nat} {t : Tr} (h : L[i]? = some t) : (trR L)[i]? = some [str t.old, str t.new, str t.got] := by unfold trR; rw [List.getElem?_map, h]; rfl
set_option maxRecDepth 8000 in
set_option maxHeartbeats 4000000 in
theorem ref06_Mixed (r : Nat) (lv wv tv : Value) (lim : Bool) (most : Int) (L : List Tr) (hL : ∀ t ∈ L, t.got.length = 128) (hn : L.length <= 1000000000) (D : Dk) (LL Ws : List B8) (h : Heap) :
    Spec Tryz.prog 13 [.pointer (some ⟨r, 0, none⟩)] h (rkC r lv wv tv lim most (trR L) D LL Ws) (fun u _ H' => ∃ b, u = .bool b /\ (b = false -> NotMix L) /\ H' = rkC r lv wv tv lim most (trR L) D LL Ws) := by
  have hrl : (trR L).length = L.length := by simp [trR]
  unfold rkC
  refine Spec.enter Tryz.func13 rfl rfl ?_; intro w0
  repeat' (first | (refine G.atCode ?_; refine G.stopLoop ?_) | (refine G.atCode ?_; first | refine G.seq ?_ | refine G.region ?_ | refine G.block ?_ | refine G.skip ?_ | refine G.exit rfl ?_ | refine G.ret ?_ | (refine G.cond rfl ?_ ?_ <;> intro hc <;> (try simp only [tests, reduceCtorEq] at hc) <;> (try exact Zf))) | refine G.endOps ?_ | refine G.endStill ?_ | refine G.endHeld ?_ | refine G.back ?_ | refine G.endBlk ?_ | (refine G.atGd ?_; first | refine G.guardYes rfl rfl ?_ | refine G.guardNoS rfl rfl rfl ?_ | refine G.guardU rfl rfl rfl ?_ | (refine G.guardS rfl rfl rfl ?_ ?_ <;> intro hc <;> (try simp only [tests, reduceCtorEq] at hc) <;> (try exact Zf)) | refine G.guardNo rfl rfl ?_ (by rintro i ⟨⟩; rfl) | (refine G.guard rfl rfl ?_ ?_ (by rintro i ⟨⟩; rfl) <;> intro hc <;> (try simp only [tests, reduceCtorEq] at hc) <;> (try exact Zf))) | (refine G.atBin ?_; first | (refine G.atAdd ?_; first | refine G.arith rfl rfl rfl rfl rfl Zi ?_ | refine G.catStr rfl rfl rfl Zo ?_ | refine G.op rfl rfl ?_) | (refine G.atNeq ?_; first | refine G.op rfl rfl ?_ | refine G.neStr0 rfl rfl rfl ?_ | refine G.neStr rfl rfl rfl ?_ | refine G.nePtr rfl rfl (tyy rfl) rfl ?_ | refine G.neBool rfl rfl (tyy rfl) rfl ?_) | refine G.op rfl rfl ?_ ) | refine G.op rfl rfl ?_ | (refine G.atLen ?_; first | refine G.lenStr rfl (tyy rfl) rfl ?_ | refine G.lenSlice rfl (tyy rfl) rfl ?_ | refine G.lenRowB rfl (tyy rfl) Za rfl ?_ | refine G.lenRowS rfl (tyy rfl) Za rfl ?_ | refine G.lenRow rfl (tyy rfl) Za rfl ?_ | refine G.lenImmB rfl (tyy rfl) Zl rfl ?_ | refine G.lenImmI rfl (tyy rfl) Zl rfl ?_ | refine G.lenImmS rfl (tyy rfl) Zl rfl ?_ | refine G.lenImm rfl (tyy rfl) Zl rfl ?_) | (refine G.atLoad ?_; first | refine G.loadOwn1 rfl (tyy rfl) rfl rfl Za rfl rfl ?_ | refine G.loadOwnA rfl (tyy rfl) rfl rfl Za rfl rfl ?_ | refine G.loadImm1 rfl (tyy rfl) rfl rfl Zp rfl ?_ | refine G.loadImmA rfl (tyy rfl) rfl rfl Zp Zp rfl ?_ | refine G.loadRowS rfl (tyy rfl) Zp Za Zo rfl ?_ | (refine G.loadRowB rfl (tyy rfl) Zp Za Zo rfl ?_; intro _)) | (refine G.atFld ?_; first | refine G.fieldAddr rfl (tyy rfl) rfl rfl ?_ | refine G.fieldAddrP rfl (tyy rfl) rfl rfl ?_) | (refine G.atSto ?_; refine G.storeOwn rfl rfl (tyy rfl) Za rfl rfl rfl rfl ?_) | (refine G.atAlc ?_; refine G.alloc (tyy rfl) rfl rfl ?_; intro _) | (refine G.atIdx ?_; first | (refine G.idxImmI rfl rfl (tyy rfl) (tyy rfl) Zl Zp Zj rfl Zo ?_; intro _ _ _) | (refine G.idxImmS rfl rfl (tyy rfl) (tyy rfl) Zl Zj rfl Zo ?_; intro _ _) | (refine G.idxImmB rfl rfl (tyy rfl) (tyy rfl) Zl Zj rfl Zo ?_; intro _ _ _) | (refine G.idxRow' rfl rfl (tyy rfl) (tyy rfl) Za Zj rfl Zo ?_; intro _ _) | (refine G.idxImmN rfl rfl (tyy rfl) (tyy rfl) Zl Zj rfl Zo ?_; intro _ _ _ _ _))  )
  refine G.go ?_
  refine G.loop (σ := Nat) (fun i => [(15, .int .i64 i), (14, .int .i64 (trR L).length), (13, tv)]) (fun _ => [.blk r [lv, wv, .bool lim, .int .i64 most, .bool D.off, .int .i64 D.left, .int .u64 D.loss.keep, .int .i64 D.loss.torn, .int .i64 D.loss.pos, tv] 68, .row lv 9 1 (strsR LL), .row wv 9 1 (strsR Ws), .row tv 91 3 (trR L)])
    (fun i _ => i <= L.length /\ ∀ (j : Nat) (t : Tr), j < i -> L[j]? = some t -> t.got = t.old \/ t.got = t.new \/ Dust t.got) (fun i => L.length - i) 0 ⟨rfl, rfl, rfl, trivial⟩ Zu ⟨Nat.zero_le _, fun j t hj => by omega⟩ ?_
  rintro i h1 hle1 ⟨hi, hall⟩
  by_cases hlt : i < L.length
  . obtain ⟨t, hr⟩ : ∃ t, L[i]? = some t := ⟨L[i]'hlt, List.getElem?_eq_getElem hlt⟩
    have hr3 := trR_get hr
    have ht := hL t (List.mem_of_getElem? hr)
    have hnew : (t.got = t.old \/ t.got = t.new \/ Dust t.got) -> ∀ (j : Nat) (t : Tr), j < i + 1 -> L[j]? = some t -> t.got = t.old \/ t.got = t.new \/ Dust t.got := fun hh j t' hj ht' => by
      by_cases hji : j = i
      . subst hji; rw [hr] at ht'; injection ht' with ht'; subst ht'; exact hh
      . exact hall j t' (by omega) ht'
    have sC := ref06_Read t.got ht
    have sH := ref06_ReadHead t.got ht
    have hdu : cellM t.got = none -> headM t.got = none -> Dust t.got := fun h1 h2 => ⟨h1, h2⟩
    clear hr hall
    generalize t.got = got at *
    generalize t.old = old at *
    generalize t.new = new at *
    cases kc : cellM got <;> cases kh : headM got <;> by_cases g1 : got = old <;> by_cases g2 : got = new <;> rw [kc] at sC <;> rw [kh] at sH <;> unfold ceVI at sC <;> unfold hdV at sH <;> dsimp only at sC sH
    all_goals (
      repeat' (first | (refine G.atIdx ?_; refine G.idxRow' rfl rfl (tyy rfl) (tyy rfl) Za Zj rfl (by omega) ?_; intro _ _) | (refine G.atLoad ?_; refine G.loadRowA rfl (tyy rfl) rfl rfl Zp Za hr3 rfl ?_) | (show G _ (.ops .seq _ (⟨some _, .call { callee := .value (.func 46), args := _, argTypes := _ }, _, _, _, none⟩ :: _) :: _) _ _ _; refine G.call callRReadC rfl rfl (sC _) Ze ?_; rintro _ h3 H3 ⟨rfl, rfl⟩ hle3) | (show G _ (.ops .seq _ (⟨some _, .call { callee := .value (.func 45), args := _, argTypes := _ }, _, _, _, none⟩ :: _) :: _) _ _ _; refine G.call callRReadH rfl rfl (sH _) Ze ?_; rintro _ h4 H4 ⟨rfl, rfl⟩ hle4) | (refine G.atCode ?_; first | refine G.seq ?_ | refine G.region ?_ | refine G.block ?_ | refine G.skip ?_ | refine G.exit rfl ?_ | refine G.ret ?_ | (refine G.cond rfl ?_ ?_ <;> intro hc <;> (try simp only [tests, reduceCtorEq] at hc) <;> (try exact Zf))) | refine G.endOps ?_ | refine G.endStill ?_ | refine G.endHeld ?_ | refine G.back ?_ | refine G.endBlk ?_ | (refine G.atGd ?_; first | refine G.guardYes rfl rfl ?_ | refine G.guardNoS rfl rfl rfl ?_ | refine G.guardU rfl rfl rfl ?_ | (refine G.guardS rfl rfl rfl ?_ ?_ <;> intro hc <;> (try simp only [tests, reduceCtorEq] at hc) <;> (try exact Zf)) | refine G.guardNo rfl rfl ?_ (by rintro i ⟨⟩; rfl) | (refine G.guard rfl rfl ?_ ?_ (by rintro i ⟨⟩; rfl) <;> intro hc <;> (try simp only [tests, reduceCtorEq] at hc) <;> (try exact Zf))) | (refine G.atBin ?_; first | (refine G.atAdd ?_; first | refine G.arith rfl rfl rfl rfl rfl Zi ?_ | refine G.catStr rfl rfl rfl Zo ?_ | refine G.op rfl rfl ?_) | (refine G.atNeq ?_; first | refine G.op rfl rfl ?_ | refine G.neStr0 rfl rfl rfl ?_ | refine G.neStr rfl rfl rfl ?_ | refine G.nePtr rfl rfl (tyy rfl) rfl ?_ | refine G.neBool rfl rfl (tyy rfl) rfl ?_) | refine G.op rfl rfl ?_ ) | refine G.op rfl rfl ?_ | (refine G.atLen ?_; first | refine G.lenStr rfl (tyy rfl) rfl ?_ | refine G.lenSlice rfl (tyy rfl) rfl ?_ | refine G.lenRowB rfl (tyy rfl) Za rfl ?_ | refine G.lenRowS rfl (tyy rfl) Za rfl ?_ | refine G.lenRow rfl (tyy rfl) Za rfl ?_ | refine G.lenImmB rfl (tyy rfl) Zl rfl ?_ | refine G.lenImmI rfl (tyy rfl) Zl rfl ?_ | refine G.lenImmS rfl (tyy rfl) Zl rfl ?_ | refine G.lenImm rfl (tyy rfl) Zl rfl ?_) | (refine G.atLoad ?_; first | refine G.loadOwn1 rfl (tyy rfl) rfl rfl Za rfl rfl ?_ | refine G.loadOwnA rfl (tyy rfl) rfl rfl Za rfl rfl ?_ | refine G.loadImm1 rfl (tyy rfl) rfl rfl Zp rfl ?_ | refine G.loadImmA rfl (tyy rfl) rfl rfl Zp Zp rfl ?_ | refine G.loadRowS rfl (tyy rfl) Zp Za Zo rfl ?_ | (refine G.loadRowB rfl (tyy rfl) Zp Za Zo rfl ?_; intro _)) | (refine G.atFld ?_; first | refine G.fieldAddr rfl (tyy rfl) rfl rfl ?_ | refine G.fieldAddrP rfl (tyy rfl) rfl rfl ?_) | (refine G.atSto ?_; refine G.storeOwn rfl rfl (tyy rfl) Za rfl rfl rfl rfl ?_) | (refine G.atAlc ?_; refine G.alloc (tyy rfl) rfl rfl ?_; intro _) | (refine G.atIdx ?_; first | (refine G.idxImmI rfl rfl (tyy rfl) (tyy rfl) Zl Zp Zj rfl Zo ?_; intro _ _ _) | (refine G.idxImmS rfl rfl (tyy rfl) (tyy rfl) Zl Zj rfl Zo ?_; intro _ _) | (refine G.idxImmB rfl rfl (tyy rfl) (tyy rfl) Zl Zj rfl Zo ?_; intro _ _ _) | (refine G.idxRow' rfl rfl (tyy rfl) (tyy rfl) Za Zj rfl Zo ?_; intro _ _) | (refine G.idxImmN rfl rfl (tyy rfl) (tyy rfl) Zl Zj rfl Zo ?_; intro _ _ _ _ _))  ))
    all_goals first
      | exact G.again (i + 1) ⟨sint (by simp), rfl, rfl, trivial⟩ Zu ⟨by omega, hnew (by first | exact .inl g1 | exact .inr (.inl g2) | exact .inr (.inr (hdu kc kh)))⟩ (by solve | repeat first | assumption | exact Zr _ | refine Zq ?_ Zp) (by omega)
      | exact G.done1 rfl rfl _ Zu ⟨true, rfl, fun e => Bool.noConfusion e, rfl⟩
  . have hall2 : NotMix L := fun t ht => by
      obtain ⟨j, hj⟩ := List.getElem?_of_mem ht
      exact hall j t (by have := (List.getElem?_eq_some_iff.1 hj).1; omega) hj
    repeat' (first | (refine G.atCode ?_; first | refine G.seq ?_ | refine G.region ?_ | refine G.block ?_ | refine G.skip ?_ | refine G.exit rfl ?_ | refine G.ret ?_ | (refine G.cond rfl ?_ ?_ <;> intro hc <;> (try simp only [tests, reduceCtorEq] at hc) <;> (try exact Zf))) | refine G.endOps ?_ | refine G.endStill ?_ | refine G.endHeld ?_ | refine G.back ?_ | refine G.endBlk ?_ | (refine G.atGd ?_; first | refine G.guardYes rfl rfl ?_ | refine G.guardNoS rfl rfl rfl ?_ | refine G.guardU rfl rfl rfl ?_ | (refine G.guardS rfl rfl rfl ?_ ?_ <;> intro hc <;> (try simp only [tests, reduceCtorEq] at hc) <;> (try exact Zf)) | refine G.guardNo rfl rfl ?_ (by rintro i ⟨⟩; rfl) | (refine G.guard rfl rfl ?_ ?_ (by rintro i ⟨⟩; rfl) <;> intro hc <;> (try simp only [tests, reduceCtorEq] at hc) <;> (try exact Zf))) | (refine G.atBin ?_; first | (refine G.atAdd ?_; first | refine G.arith rfl rfl rfl rfl rfl Zi ?_ | refine G.catStr rfl rfl rfl Zo ?_ | refine G.op rfl rfl ?_) | (refine G.atNeq ?_; first | refine G.op rfl rfl ?_ | refine G.neStr0 rfl rfl rfl ?_ | refine G.neStr rfl rfl rfl ?_ | refine G.nePtr rfl rfl (tyy rfl) rfl ?_ | refine G.neBool rfl rfl (tyy rfl) rfl ?_) | refine G.op rfl rfl ?_ ) | refine G.op rfl rfl ?_ | (refine G.atLen ?_; first | refine G.lenStr rfl (tyy rfl) rfl ?_ | refine G.lenSlice rfl (tyy rfl) rfl ?_ | refine G.lenRowB rfl (tyy rfl) Za rfl ?_ | refine G.lenRowS rfl (tyy rfl) Za rfl ?_ | refine G.lenRow rfl (tyy rfl) Za rfl ?_ | refine G.lenImmB rfl (tyy rfl) Zl rfl ?_ | refine G.lenImmI rfl (tyy rfl) Zl rfl ?_ | refine G.lenImmS rfl (tyy rfl) Zl rfl ?_ | refine G.lenImm rfl (tyy rfl) Zl rfl ?_) | (refine G.atLoad ?_; first | refine G.loadOwn1 rfl (tyy rfl) rfl rfl Za rfl rfl ?_ | refine G.loadOwnA rfl (tyy rfl) rfl rfl Za rfl rfl ?_ | refine G.loadImm1 rfl (tyy rfl) rfl rfl Zp rfl ?_ | refine G.loadImmA rfl (tyy rfl) rfl rfl Zp Zp rfl ?_ | refine G.loadRowS rfl (tyy rfl) Zp Za Zo rfl ?_ | (refine G.loadRowB rfl (tyy rfl) Zp Za Zo rfl ?_; intro _)) | (refine G.atFld ?_; first | refine G.fieldAddr rfl (tyy rfl) rfl rfl ?_ | refine G.fieldAddrP rfl (tyy rfl) rfl rfl ?_) | (refine G.atSto ?_; refine G.storeOwn rfl rfl (tyy rfl) Za rfl rfl rfl rfl ?_) | (refine G.atAlc ?_; refine G.alloc (tyy rfl) rfl rfl ?_; intro _) | (refine G.atIdx ?_; first | (refine G.idxImmI rfl rfl (tyy rfl) (tyy rfl) Zl Zp Zj rfl Zo ?_; intro _ _ _) | (refine G.idxImmS rfl rfl (tyy rfl) (tyy rfl) Zl Zj rfl Zo ?_; intro _ _) | (refine G.idxImmB rfl rfl (tyy rfl) (tyy rfl) Zl Zj rfl Zo ?_; intro _ _ _) | (refine G.idxRow' rfl rfl (tyy rfl) (tyy rfl) Za Zj rfl Zo ?_; intro _ _) | (refine G.idxImmN rfl rfl (tyy rfl) (tyy rfl) Zl Zj rfl Zo ?_; intro _ _ _ _ _))  )
    all_goals first | (exfalso; omega) | exact G.done1 rfl rfl _ Zu ⟨false, rfl, fun _ => hall2, rfl⟩ | trace_state
end Go.Proofs.YtmbpjgjajedonaaGreatDoor
