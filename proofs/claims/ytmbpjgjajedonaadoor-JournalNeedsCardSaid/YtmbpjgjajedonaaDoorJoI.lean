/- Layer 6, plain: Open of a disk whose power does not fail; the law's own test. -/
import Derived.Test.YtmbpjgjajedonaaDoorJoQ
import Derived.Test.YtmbpjgjajedonaaDoorDkR
namespace Go.Proofs.YtmbpjgjajedonaaDoor
set_option linter.all false
set_option maxRecDepth 4000
open Go.RowKit

structure OpenOk (D : Dk) (X : Dk × Option Jn × List B8 × Int) (D' : Dk) (J : Jn) : Prop where
  eq : X = (D', some J, openR D, 0)
  qt : Qt D'
  w : D'.W = []
  sh : Shp D D'
  live : Live D'.lasts (sizeM D) J (openR D)
  gen : J.gen = (openJ D).gen + 1
theorem open_qt {D : Dk} (q : Qt D) (h4 : 4 <= D.lasts.length) (h8 : D.lasts.length <= 8192) (hlen : ∀ b ∈ openR D, b.length <= 262144) (hfit : needsM (openR D) <= sizeM D) :
    (fullM D (openJ D) (openR D) /\ openM D = (D, none, [], 11)) \/ (¬ fullM D (openJ D) (openR D) /\ ∃ D' J, OpenOk D (openM D) D' J) := by
  have hh := hds_ok (curL D)
  have hho : (openJ D).half <= 1 := hh.half
  have hz := size_fit h4
  have hop : openM D = if (resetM D (openJ D) (openR D)).2.2 ≠ 0 then ((resetM D (openJ D) (openR D)).1, none, [], (resetM D (openJ D) (openR D)).2.2) else ((resetM D (openJ D) (openR D)).1, some (resetM D (openJ D) (openR D)).2.1, openR D, 0) := by
    unfold openM; rw [if_neg (by omega), if_neg (by rw [q.off]; decide)]
  by_cases hf : fullM D (openJ D) (openR D)
  . left
    refine ⟨hf, ?_⟩
    have e : resetM D (openJ D) (openR D) = (D, openJ D, 11) := by
      unfold resetM
      rw [if_neg (by show ¬ (false = true); decide), if_neg (by rintro ⟨b, hb, hl⟩; have := hlen b hb; omega), if_pos hf]
    rw [hop, e, if_pos (by simp)]
  . right
    refine ⟨hf, ?_⟩
    obtain ⟨D', e, q', w', sh, hat⟩ := reset_qt q h4 hho rfl hlen hf
    refine ⟨D', ⟨(openJ D).gen + 1, 1 - (openJ D).half, slotM (openJ D), needsM (openR D), (openR D).length, false⟩, ?_, q', w', sh, ?_, rfl⟩
    . rw [hop, e, if_neg (by simp)]
    . have hcl := curL_len D
      have hge : ¬ 4294967295 <= (openJ D).gen := fun h => hf (.inr (.inr (.inr h)))
      refine reset_live (L := curL D) (by rw [sh.2, hcl]) (by omega) hho hh.slot (by omega) hfit (by omega) hlen (Nat.le_refl _) (fun i hi => ?_)
      rw [hcl] at hi
      rw [curL_at q.off hi]
      exact hat i hi
theorem open_of {D : Dk} (q : Qt D) (hw : D.W = []) {J : Jn} {bs : List B8} (l : Live D.lasts (sizeM D) J bs) (h8 : D.lasts.length <= 8192) : openR D = bs /\ (openJ D).gen = J.gen /\ (openJ D).half = J.half := by
  have hc := curL_nil q.off hw
  have hz : sizeM D <= 8192 := by unfold sizeM; omega
  refine ⟨?_, ?_, ?_⟩
  . unfold openR; rw [hc]; exact l.tells hz
  . show mostL (curL D) (sizeM D) = _; rw [hc]; exact l.most
  . show (hdsL (curL D)).half = _; rw [hc, l.hd]
theorem lens_ok {D : Dk} (h : sizeM D <= 2383) : ∀ b ∈ openR D, b.length <= 262144 := by
  intro b hb
  unfold openR recL at hb
  split at hb
  . have := (recs_need (g := (hdsL (curL D)).cur) (sizeM D) 0 (regL (curL D) (sizeM D) (hdsL (curL D)).half)).2.2 b hb
    have hl : (regL (curL D) (sizeM D) (hdsL (curL D)).half).length <= sizeM D := by unfold regL; rw [List.length_take]; omega
    omega
  . simp at hb
theorem fit_ok (D : Dk) : needsM (openR D) <= sizeM D := by
  unfold openR recL
  split
  . have := (recs_need (g := (hdsL (curL D)).cur) (sizeM D) 0 (regL (curL D) (sizeM D) (hdsL (curL D)).half)).1
    have hl : (regL (curL D) (sizeM D) (hdsL (curL D)).half).length <= sizeM D := by unfold regL; rw [List.length_take]; omega
    omega
  . exact Nat.zero_le _
theorem qt_new (n : Int) : Qt (newM n) := ⟨rfl, rfl⟩
theorem zero_cell {s : B8} (h : byteAt s 4 = 0) : cellM s = none /\ headM s = none := by
  constructor
  . cases hc : cellM s with
    | none => rfl
    | some c => have h1 := secC_at c; rw [(cell_some hc).1, h] at h1; cases h1
  . cases hc : headM s with
    | none => rfl
    | some p => have h1 := secH_at p.1 p.2; rw [(head_some (g := p.1) (f := p.2) hc).1, h] at h1; cases h1
theorem new_at {n : Int} {i : Nat} (h : i < (newM n).lasts.length) : strAt (newM n).lasts i = List.replicate 128 0 := by
  have : strAt (newM n).lasts i = layAt [] i := by
    unfold strAt
    simp only [newM, layM, List.length_map, List.length_range] at h ⊢
    simp [h]
  rw [this]; simp [layAt]
theorem new_open (n : Int) : openR (newM n) = [] /\ (openJ (newM n)).gen = 0 /\ (openJ (newM n)).half = 1 /\ (openJ (newM n)).slot = -1 := by
  have hc : curL (newM n) = (newM n).lasts := curL_nil rfl rfl
  have hz : ∀ i, byteAt (strAt (newM n).lasts i) 4 = 0 := fun i => by
    by_cases h : i < (newM n).lasts.length
    . rw [new_at h]; decide
    . unfold strAt; rw [List.getElem?_eq_none (by omega)]; rfl
  have hh : hdsL (newM n).lasts = ⟨0, 0, 1, -1⟩ := by
    unfold hdsL; rw [scanH_none (zero_cell (hz 0)).2, scanH_none (zero_cell (hz 1)).2]
  refine ⟨?_, ?_, ?_, ?_⟩
  . unfold openR recL; rw [hc, hh]; rfl
  . show mostL (curL (newM n)) (sizeM (newM n)) = 0
    rw [hc]
    have := mostL_le (L := (newM n).lasts) (z := sizeM (newM n)) (B := 0) (by rw [hh]; exact Nat.le_refl _) (fun i _ _ c hc => by rw [(zero_cell (hz i)).1] at hc; cases hc)
    omega
  . show (hdsL (curL (newM n))).half = 1; rw [hc, hh]
  . show (hdsL (curL (newM n))).slot = -1; rw [hc, hh]
theorem fullM_iff (D : Dk) (J : Jn) (bs : List B8) : fullM D J bs ↔ (sizeM D < needsM bs \/ roomM D < 2 \/ (0 < needsM bs /\ roomM D < ((firstM D (1 - J.half) + needsM bs : Nat) : Int)) \/ 4294967295 <= J.gen) := Iff.rfl
structure Awk (D1 : Dk) (J1 : Jn) (D2 : Dk) (J2 : Jn) (D3 : Dk) (J3 : Jn) (l : Ls) : Prop where
  o1 : openM (newM 6) = (D1, some J1, [], 0)
  i1 : D1.lasts.length = 6 /\ D1.limit = 6 /\ J1.half <= 1 /\ J1.used = 0 /\ J1.n = 0 /\ J1.gen = 1 /\ (J1.slot = 0 \/ J1.slot = 1)
  ap : appendM D1 J1 [97] = (D2, J2, 0)
  i2 : D2.lasts.length = 6 /\ D2.limit = 6 /\ J2.half <= 1 /\ J2.used = 1 /\ J2.gen = 1 /\ leftM D2 J2 = 1
  o3 : openM (crashM D2 l) = (D3, some J3, [[97]], 0)
theorem crash_nil {D : Dk} (q : Qt D) (hw : D.W = []) (l : Ls) : Qt (crashM D l) /\ (crashM D l).W = [] /\ (crashM D l).lasts = D.lasts /\ (crashM D l).limit = D.limit := by
  have e : crashM D l = { loseM D l with off := false, left := 0 } := by unfold crashM; rw [if_neg (by rw [q.off]; decide)]
  rw [e]
  refine ⟨⟨rfl, rfl⟩, rfl, ?_, rfl⟩
  refine strAt_ext (by simp [loseM]) (fun i hi => ?_)
  have hi' : i < D.lasts.length := by simpa [loseM] using hi
  have : strAt (loseM D l).lasts i = loseAt D.W l D.lasts i := by unfold strAt loseM; simp [hi']
  show strAt (loseM D l).lasts i = _
  rw [this]
  unfold loseAt
  rw [hw]; rfl
theorem awk (l : Ls) : ∃ D1 J1 D2 J2 D3 J3, Awk D1 J1 D2 J2 D3 J3 l := by
  obtain ⟨n1, n2, n3, n4⟩ := new_open 6
  have hl6 : (newM 6).lasts.length = 6 := by simp [newM, layM]; decide
  have hz6 : ∀ {D : Dk}, D.lasts.length = 6 -> sizeM D = 2 := fun h => by unfold sizeM; rw [h]
  have hf1 : ¬ fullM (newM 6) (openJ (newM 6)) (openR (newM 6)) := by
    have hr : roomM (newM 6) = 6 := by unfold roomM; rw [hl6]; rfl
    rw [fullM_iff, n1, n2, hr]; simp [needsM]
  rcases open_qt (qt_new 6) (by omega) (by omega) (by rw [n1]; simp) (fit_ok _) with h | ⟨_, D1, J1, o⟩
  . exact absurd h.1 hf1
  obtain ⟨oe, oq, ow, os, ol, og⟩ := o
  rw [n1] at oe ol
  rw [n2] at og
  have hl1 : D1.lasts.length = 6 := by rw [os.2]; exact hl6
  have hm1 : D1.limit = 6 := os.1
  rw [hz6 hl6] at ol
  have hu1 : J1.used = 0 := ol.used
  have hn1 : J1.n = 0 := ol.n
  have hr1 : roomM D1 = 6 := by unfold roomM; rw [hl1, hm1]; rfl
  have hh1 := ol.half
  have hfi : firstM D1 J1.half <= 4 := by unfold firstM; rw [hz6 hl1]; omega
  have hlf : ((needM [(97 : UInt8)].length : Nat) : Int) <= leftM D1 J1 := by unfold leftM; rw [hz6 hl1, hr1, hu1]; simp only [needM, List.length_singleton]; simp; omega
  obtain ⟨D2, ae, aq, aw, ash, aat⟩ := append_qt oq (b := [97]) ol.open_ (by simp) hlf
  have hl2 : D2.lasts.length = 6 := by rw [ash.2]; exact hl1
  have hm2 : D2.limit = 6 := by rw [ash.1]; exact hm1
  have al : Live D2.lasts 2 { J1 with used := J1.used + needM [(97 : UInt8)].length, n := J1.n + 1 } ([] ++ [[97]]) := by
    refine append_live ol (by rw [hl1, hl2]) (by omega) (by simp) (by simp [needsM, needM]) (fun i hi => ?_)
    have := aat i hi
    rw [curAt_nil ow] at this
    rw [this]
    unfold firstM
    rw [hz6 hl1]
  rw [List.nil_append] at al
  obtain ⟨cq, cw, cl, cm⟩ := crash_nil aq aw l
  have hl3 : (crashM D2 l).lasts.length = 6 := by rw [cl]; exact hl2
  rw [<- cl] at al
  have al' : Live (crashM D2 l).lasts (sizeM (crashM D2 l)) { J1 with used := J1.used + needM [(97 : UInt8)].length, n := J1.n + 1 } [[97]] := by rw [hz6 hl3]; exact al
  obtain ⟨r1, r2, r3⟩ := open_of cq cw al' (by omega)
  have hr3 : roomM (crashM D2 l) = 6 := by unfold roomM; rw [hl3, cm, hm2]; rfl
  have hf3 : ¬ fullM (crashM D2 l) (openJ (crashM D2 l)) (openR (crashM D2 l)) := by
    rw [fullM_iff, r1, r2, r3, hr3, hz6 hl3]
    have : firstM (crashM D2 l) (1 - J1.half) <= 4 := by unfold firstM; rw [hz6 hl3]; omega
    simp only [needsM, needM, List.length_singleton]
    simp
    omega
  rcases open_qt cq (by omega) (by omega) (by rw [r1]; simp) (fit_ok _) with h | ⟨_, D3, J3, o3⟩
  . exact absurd h.1 hf3
  refine ⟨D1, J1, D2, _, D3, J3, oe, ⟨hl1, hm1, hh1, hu1, hn1, by omega, ol.s⟩, ae, ⟨hl2, hm2, hh1, by rw [hu1]; rfl, by simp only; omega, ?_⟩, by rw [o3.eq, r1]⟩
  unfold leftM
  have hr2 : roomM D2 = 6 := by unfold roomM; rw [hl2, hm2]; rfl
  have hf2 : firstM D2 J1.half <= 4 := by unfold firstM; rw [hz6 hl2]; omega
  rw [hz6 hl2, hr2]
  simp only [needM, List.length_singleton, hu1]
  simp
  omega
end Go.Proofs.YtmbpjgjajedonaaDoor
