/- The chapter's own book: castellanlaw22.awake. -/
import Derived.Test.YtieibicgankemaaGreatAcF
namespace Go.Proofs.YtieibicgankemaaGreat
set_option linter.all false
set_option maxRecDepth 4000
open Go.RowKit

theorem sort_one (x : List UInt8) : sortM [x] = [x] := sortM_rising (List.pairwise_singleton _ _)
theorem pr_root : (printM (nmD [114, 111, 111, 116])).2 = 0 := by decide +kernel
theorem pr_a : (printM (nmD [97])).2 = 0 := by decide +kernel
theorem pr_u : (printM (nmD [65])).2 = 0 := by decide +kernel
theorem pr_b : (printM (nmD [98])).2 = 0 := by decide +kernel
theorem pr_nil : (printM []).2 = 0 := by decide +kernel
theorem tx_root : txt true (nmD [114, 111, 111, 116]) = [99, 110, 61, 114, 111, 111, 116, 44, 100, 99, 61, 122] := by
  have e3 : ((nmD [114, 111, 111, 116]).map (fR true)) = [Lib.join (sortM [[99, 110, 61, 114, 111, 111, 116]]) [43], Lib.join (sortM [[100, 99, 61, 122]]) [43]] := by kernel_rfl
  unfold txt
  rw [e3, sort_one, sort_one]
  decide +kernel
theorem tx_a : txt true (nmD [97]) = [99, 110, 61, 97, 44, 100, 99, 61, 122] := by
  have e3 : ((nmD [97]).map (fR true)) = [Lib.join (sortM [[99, 110, 61, 97]]) [43], Lib.join (sortM [[100, 99, 61, 122]]) [43]] := by kernel_rfl
  unfold txt
  rw [e3, sort_one, sort_one]
  decide +kernel
theorem tx_u : txt true (nmD [65]) = [99, 110, 61, 97, 44, 100, 99, 61, 122] := by
  have e3 : ((nmD [65]).map (fR true)) = [Lib.join (sortM [[99, 110, 61, 97]]) [43], Lib.join (sortM [[100, 99, 61, 122]]) [43]] := by kernel_rfl
  unfold txt
  rw [e3, sort_one, sort_one]
  decide +kernel
theorem tx_b : txt true (nmD [98]) = [99, 110, 61, 98, 44, 100, 99, 61, 122] := by
  have e3 : ((nmD [98]).map (fR true)) = [Lib.join (sortM [[99, 110, 61, 98]]) [43], Lib.join (sortM [[100, 99, 61, 122]]) [43]] := by kernel_rfl
  unfold txt
  rw [e3, sort_one, sort_one]
  decide +kernel
theorem same_nm {s t : List UInt8} {ks kt : List UInt8} (hs : (printM (nmD s)).2 = 0) (ht : (printM (nmD t)).2 = 0) (h1 : txt true (nmD s) = ks) (h2 : txt true (nmD t) = kt) : sameD (nmD s) (nmD t) = decide (ks = kt) := by
  have e := under_same (a := nmD s) (b := nmD t) rfl hs ht
  unfold sameD
  rw [e, h1, h2, nmD_len, nmD_len]
  simp
theorem under_nil {d : Dn} (h : (printM d).2 = 0) : underM d [] = true := by
  unfold underM
  rw [norm_print pr_nil, if_neg (by simp [h])]
  simp
def awR : List Rl := [⟨2, [], [], [117, 115, 101, 114, 80, 97, 115, 115, 119, 111, 114, 100], 8, true⟩, ⟨0, [], [], [117, 115, 101, 114, 80, 97, 115, 115, 119, 111, 114, 100], 15, false⟩, ⟨1, [], [], [], 7, true⟩]
def awL : List RlD := awR.map fun r => (r, [], [])
theorem aw_new : newM (tyN coreT) (nmD [114, 111, 111, 116]) awR = .ok awL := by
  unfold newM
  rw [if_neg (by rw [pr_root]; decide)]
  kernel_rfl
theorem sm1 : sameD (nmD [97]) (nmD [65]) = true := by rw [same_nm pr_a pr_u tx_a tx_u]; decide
theorem sm2 : sameD (nmD [97]) (nmD [114, 111, 111, 116]) = false := by rw [same_nm pr_a pr_root tx_a tx_root]; decide
theorem sm3 : sameD (nmD [97]) (nmD [98]) = false := by rw [same_nm pr_a pr_b tx_a tx_b]; decide
theorem sm4 : sameD (nmD [97]) (nmD [97]) = true := by rw [same_nm pr_a pr_a tx_a tx_a]; decide
theorem sm5 : sameD (nmD [114, 111, 111, 116]) (nmD [114, 111, 111, 116]) = true := by rw [same_nm pr_root pr_root tx_root tx_root]; decide
theorem at1 : sameT [117, 115, 101, 114, 80, 97, 115, 115, 119, 111, 114, 100] [117, 115, 101, 114, 112, 97, 115, 115, 119, 111, 114, 100] = true := by decide +kernel
theorem at2 : sameT [117, 115, 101, 114, 80, 97, 115, 115, 119, 111, 114, 100] [117, 115, 101, 114, 80, 97, 115, 115, 119, 111, 114, 100] = true := by decide +kernel
theorem at3 : sameT [117, 115, 101, 114, 80, 97, 115, 115, 119, 111, 114, 100] [99, 110] = false := by decide +kernel
theorem un1 : underM (nmD [65]) [] = true := under_nil pr_u
theorem un2 : underM (nmD [97]) [] = true := under_nil pr_a
theorem un3 : underM (nmD [98]) [] = true := under_nil pr_b
theorem ri : rightM 8 8 = true /\ rightM 8 2 = false /\ rightM 15 8 = true /\ rightM 15 2 = true /\ rightM 7 8 = false /\ rightM 7 2 = true := by decide +kernel
theorem may1 : mayM (nmD [114, 111, 111, 116]) awL (nmD [97]) (nmD [65]) [117, 115, 101, 114, 112, 97, 115, 115, 119, 111, 114, 100] 8 = true := by
  simp [mayM, askM, okRight, awL, awR, firstM, hitM, speakM, nmD_len, pr_a, pr_u, sm1, sm2, at1, un1, ri]
theorem may2 : mayM (nmD [114, 111, 111, 116]) awL (nmD [97]) (nmD [97]) [117, 115, 101, 114, 80, 97, 115, 115, 119, 111, 114, 100] 2 = false := by
  simp [mayM, askM, okRight, awL, awR, firstM, hitM, speakM, nmD_len, pr_a, sm4, sm2, at2, un2, ri]
theorem may3 : mayM (nmD [114, 111, 111, 116]) awL (nmD [97]) (nmD [98]) [117, 115, 101, 114, 80, 97, 115, 115, 119, 111, 114, 100] 8 = false := by
  simp [mayM, askM, okRight, awL, awR, firstM, hitM, speakM, nmD_len, pr_a, pr_b, sm3, sm2, at2, un3, ri]
theorem may4 : mayM (nmD [114, 111, 111, 116]) awL (nmD [97]) (nmD [98]) [99, 110] 2 = true := by
  simp [mayM, askM, okRight, awL, awR, firstM, hitM, speakM, nmD_len, pr_a, pr_b, sm3, sm2, at3, un3, ri]
theorem may5 : mayM (nmD [114, 111, 111, 116]) awL [] (nmD [98]) [99, 110] 2 = false := by
  simp [mayM, askM, okRight, awL, awR, firstM, hitM, speakM, nmD_len, pr_nil, pr_b, at3, un3, ri]
theorem may6 : mayM (nmD [114, 111, 111, 116]) awL (nmD [114, 111, 111, 116]) (nmD [98]) [117, 115, 101, 114, 80, 97, 115, 115, 119, 111, 114, 100] 8 = true := by
  simp [mayM, askM, okRight, nmD_len, pr_root, pr_b, sm5]
set_option maxRecDepth 8000 in
set_option maxHeartbeats 4000000 in
theorem law22_awake (h : Heap) : Spec Tryz.prog 8 [] h [] (fun u _ H' => u = .bool true /\ H' = []) := by
  refine Spec.enter Tryz.func8 rfl rfl ?_; intro w0
  repeat' (first | (refine G.atCode ?_; first | refine G.seq ?_ | refine G.region ?_) | refine G.endOps ?_ | refine G.op rfl rfl ?_)
  show G _ (.ops .seq _ (⟨some _, .call { callee := .value (.func 5), args := _, argTypes := _ }, _, _, _, none⟩ :: _) :: _) _ _ _
  refine G.call callCore13 rfl rfl (ref13_Core _) Ze ?_
  rintro _ h1 H1 ⟨⟨vT, vC, rc, rfl, hT, _, _⟩, rfl⟩ hle1
  skip
  show G _ (.ops .seq _ (⟨some _, .call { callee := .value (.func 21), args := _, argTypes := _ }, _, _, _, none⟩ :: _) :: _) _ _ _
  refine G.call callName22 rfl rfl (law22_name [114, 111, 111, 116] _) Ze ?_
  rintro z0 h2 H2 ⟨⟨_, rfl, hw0⟩, rfl⟩ hle2
  repeat' (first | (refine G.atBld ?_; refine G.build (tyy rfl) rfl rfl rfl ?_) | (refine G.atBsl ?_; refine G.buildSlice (tyy rfl) (tyy rfl) rfl rfl rfl rfl ?_; intro _))
  rename_i gR
  show G _ (.ops .seq _ (⟨some _, .call { callee := .value (.func 4), args := _, argTypes := _ }, _, _, _, none⟩ :: _) :: _) _ _ _
  refine G.freezeBlk (g := gR) Za ?_
  intro hF hleF hcF
  have hR : HSl hF (.slice (some ⟨gR, 0, none⟩) 3 3) 6 (rlR awR) := HSl.ofBlk1 (rows := rlR awR) (n := 3) hcF (by intro r hr; simp only [rlR, List.mem_map] at hr; obtain ⟨x, _, rfl⟩ := hr; rfl) rfl (by decide)
  have hN := acl_New coreT coreT_ok (nmD [114, 111, 111, 116]) awR vT vC z0 _ (by unfold RlB; decide) (by decide) hF (hT.mono (by solve | repeat first | assumption | exact Zr _ | refine Zq ?_ Zp)) (hw0.mono (by solve | repeat first | assumption | exact Zr _ | refine Zq ?_ Zp)) hR
  rw [aw_new] at hN
  refine G.call callNewA rfl rfl hN Ze ?_
  rintro _ h3 H3 ⟨⟨g, rfl, hB⟩, rfl⟩ hle3
  repeat' (first | (refine G.atCode ?_; first | refine G.seq ?_ | refine G.region ?_) | refine G.endOps ?_ | (refine G.atGd ?_; first | refine G.guardYes rfl rfl ?_) | (refine G.atBin ?_; first | (refine G.atEql ?_; first | refine G.op rfl rfl ?_)) | refine G.op rfl rfl ?_)
  show G _ (.ops .seq _ (⟨some _, .call { callee := .value (.func 21), args := _, argTypes := _ }, _, _, _, none⟩ :: _) :: _) _ _ _
  refine G.call callName22 rfl rfl (law22_name [97] _) Ze ?_
  rintro z1 hn1 Hn1 ⟨⟨_, rfl, hw1⟩, rfl⟩ hln1
  repeat' (first | (refine G.atGd ?_; first | refine G.guardYes rfl rfl ?_))
  show G _ (.ops .seq _ (⟨some _, .call { callee := .value (.func 21), args := _, argTypes := _ }, _, _, _, none⟩ :: _) :: _) _ _ _
  refine G.call callName22 rfl rfl (law22_name [65] _) Ze ?_
  rintro z2 hn2 Hn2 ⟨⟨_, rfl, hw2⟩, rfl⟩ hln2
  repeat' (first | (refine G.atGd ?_; first | refine G.guardYes rfl rfl ?_))
  have m1 := fun hh a b c => book_May (nmD [114, 111, 111, 116]) (nmD [97]) (nmD [65]) awL [117, 115, 101, 114, 112, 97, 115, 115, 119, 111, 114, 100] 8 g z1 z2 (by decide) (by decide) (by decide) (by decide) hh a b c
  rw [may1] at m1
  show G _ (.ops .seq _ (⟨some _, .call { callee := .value (.func 22), args := _, argTypes := _ }, _, _, _, none⟩ :: _) :: _) _ _ _
  refine G.call callMay rfl rfl (m1 _ (hB.mono (by solve | repeat first | assumption | exact Zr _ | refine Zq ?_ Zp)) (hw1.mono (by solve | repeat first | assumption | exact Zr _ | refine Zq ?_ Zp)) (hw2.mono (by solve | repeat first | assumption | exact Zr _ | refine Zq ?_ Zp))) Ze ?_
  rintro _ hm1 Hm1 ⟨rfl, rfl⟩ hlm1
  repeat' (first | (refine G.atGd ?_; first | refine G.guardYes rfl rfl ?_) | refine G.op rfl rfl ?_)
  show G _ (.ops .seq _ (⟨some _, .call { callee := .value (.func 21), args := _, argTypes := _ }, _, _, _, none⟩ :: _) :: _) _ _ _
  refine G.call callName22 rfl rfl (law22_name [97] _) Ze ?_
  rintro z3 hn3 Hn3 ⟨⟨_, rfl, hw3⟩, rfl⟩ hln3
  repeat' (first | (refine G.atGd ?_; first | refine G.guardYes rfl rfl ?_))
  show G _ (.ops .seq _ (⟨some _, .call { callee := .value (.func 21), args := _, argTypes := _ }, _, _, _, none⟩ :: _) :: _) _ _ _
  refine G.call callName22 rfl rfl (law22_name [97] _) Ze ?_
  rintro z4 hn4 Hn4 ⟨⟨_, rfl, hw4⟩, rfl⟩ hln4
  repeat' (first | (refine G.atGd ?_; first | refine G.guardYes rfl rfl ?_))
  have m2 := fun hh a b c => book_May (nmD [114, 111, 111, 116]) (nmD [97]) (nmD [97]) awL [117, 115, 101, 114, 80, 97, 115, 115, 119, 111, 114, 100] 2 g z3 z4 (by decide) (by decide) (by decide) (by decide) hh a b c
  rw [may2] at m2
  show G _ (.ops .seq _ (⟨some _, .call { callee := .value (.func 22), args := _, argTypes := _ }, _, _, _, none⟩ :: _) :: _) _ _ _
  refine G.call callMay rfl rfl (m2 _ (hB.mono (by solve | repeat first | assumption | exact Zr _ | refine Zq ?_ Zp)) (hw3.mono (by solve | repeat first | assumption | exact Zr _ | refine Zq ?_ Zp)) (hw4.mono (by solve | repeat first | assumption | exact Zr _ | refine Zq ?_ Zp))) Ze ?_
  rintro _ hm2 Hm2 ⟨rfl, rfl⟩ hlm2
  repeat' (first | (refine G.atGd ?_; first | refine G.guardYes rfl rfl ?_) | refine G.op rfl rfl ?_)
  show G _ (.ops .seq _ (⟨some _, .call { callee := .value (.func 21), args := _, argTypes := _ }, _, _, _, none⟩ :: _) :: _) _ _ _
  refine G.call callName22 rfl rfl (law22_name [97] _) Ze ?_
  rintro z5 hn5 Hn5 ⟨⟨_, rfl, hw5⟩, rfl⟩ hln5
  repeat' (first | (refine G.atGd ?_; first | refine G.guardYes rfl rfl ?_))
  show G _ (.ops .seq _ (⟨some _, .call { callee := .value (.func 21), args := _, argTypes := _ }, _, _, _, none⟩ :: _) :: _) _ _ _
  refine G.call callName22 rfl rfl (law22_name [98] _) Ze ?_
  rintro z6 hn6 Hn6 ⟨⟨_, rfl, hw6⟩, rfl⟩ hln6
  repeat' (first | (refine G.atGd ?_; first | refine G.guardYes rfl rfl ?_))
  have m3 := fun hh a b c => book_May (nmD [114, 111, 111, 116]) (nmD [97]) (nmD [98]) awL [117, 115, 101, 114, 80, 97, 115, 115, 119, 111, 114, 100] 8 g z5 z6 (by decide) (by decide) (by decide) (by decide) hh a b c
  rw [may3] at m3
  show G _ (.ops .seq _ (⟨some _, .call { callee := .value (.func 22), args := _, argTypes := _ }, _, _, _, none⟩ :: _) :: _) _ _ _
  refine G.call callMay rfl rfl (m3 _ (hB.mono (by solve | repeat first | assumption | exact Zr _ | refine Zq ?_ Zp)) (hw5.mono (by solve | repeat first | assumption | exact Zr _ | refine Zq ?_ Zp)) (hw6.mono (by solve | repeat first | assumption | exact Zr _ | refine Zq ?_ Zp))) Ze ?_
  rintro _ hm3 Hm3 ⟨rfl, rfl⟩ hlm3
  repeat' (first | (refine G.atGd ?_; first | refine G.guardYes rfl rfl ?_) | refine G.op rfl rfl ?_)
  show G _ (.ops .seq _ (⟨some _, .call { callee := .value (.func 21), args := _, argTypes := _ }, _, _, _, none⟩ :: _) :: _) _ _ _
  refine G.call callName22 rfl rfl (law22_name [97] _) Ze ?_
  rintro z7 hn7 Hn7 ⟨⟨_, rfl, hw7⟩, rfl⟩ hln7
  repeat' (first | (refine G.atGd ?_; first | refine G.guardYes rfl rfl ?_))
  show G _ (.ops .seq _ (⟨some _, .call { callee := .value (.func 21), args := _, argTypes := _ }, _, _, _, none⟩ :: _) :: _) _ _ _
  refine G.call callName22 rfl rfl (law22_name [98] _) Ze ?_
  rintro z8 hn8 Hn8 ⟨⟨_, rfl, hw8⟩, rfl⟩ hln8
  repeat' (first | (refine G.atGd ?_; first | refine G.guardYes rfl rfl ?_))
  have m4 := fun hh a b c => book_May (nmD [114, 111, 111, 116]) (nmD [97]) (nmD [98]) awL [99, 110] 2 g z7 z8 (by decide) (by decide) (by decide) (by decide) hh a b c
  rw [may4] at m4
  show G _ (.ops .seq _ (⟨some _, .call { callee := .value (.func 22), args := _, argTypes := _ }, _, _, _, none⟩ :: _) :: _) _ _ _
  refine G.call callMay rfl rfl (m4 _ (hB.mono (by solve | repeat first | assumption | exact Zr _ | refine Zq ?_ Zp)) (hw7.mono (by solve | repeat first | assumption | exact Zr _ | refine Zq ?_ Zp)) (hw8.mono (by solve | repeat first | assumption | exact Zr _ | refine Zq ?_ Zp))) Ze ?_
  rintro _ hm4 Hm4 ⟨rfl, rfl⟩ hlm4
  repeat' (first | (refine G.atGd ?_; first | refine G.guardYes rfl rfl ?_) | refine G.op rfl rfl ?_)
  show G _ (.ops .seq _ (⟨some _, .call { callee := .value (.func 21), args := _, argTypes := _ }, _, _, _, none⟩ :: _) :: _) _ _ _
  refine G.call callName22 rfl rfl (law22_name [98] _) Ze ?_
  rintro z9 hn9 Hn9 ⟨⟨_, rfl, hw9⟩, rfl⟩ hln9
  repeat' (first | (refine G.atGd ?_; first | refine G.guardYes rfl rfl ?_))
  have m5 := fun hh a b c => book_May (nmD [114, 111, 111, 116]) [] (nmD [98]) awL [99, 110] 2 g (.slice none 0 0) z9 (by decide) (by decide) (by decide) (by decide) hh a b c
  rw [may5] at m5
  show G _ (.ops .seq _ (⟨some _, .call { callee := .value (.func 22), args := _, argTypes := _ }, _, _, _, none⟩ :: _) :: _) _ _ _
  refine G.call callMay rfl rfl (m5 _ (hB.mono (by solve | repeat first | assumption | exact Zr _ | refine Zq ?_ Zp)) (DnC.nil _) (hw9.mono (by solve | repeat first | assumption | exact Zr _ | refine Zq ?_ Zp))) Ze ?_
  rintro _ hm5 Hm5 ⟨rfl, rfl⟩ hlm5
  repeat' (first | (refine G.atGd ?_; first | refine G.guardYes rfl rfl ?_) | refine G.op rfl rfl ?_)
  show G _ (.ops .seq _ (⟨some _, .call { callee := .value (.func 21), args := _, argTypes := _ }, _, _, _, none⟩ :: _) :: _) _ _ _
  refine G.call callName22 rfl rfl (law22_name [114, 111, 111, 116] _) Ze ?_
  rintro z10 hn10 Hn10 ⟨⟨_, rfl, hw10⟩, rfl⟩ hln10
  repeat' (first | (refine G.atGd ?_; first | refine G.guardYes rfl rfl ?_))
  show G _ (.ops .seq _ (⟨some _, .call { callee := .value (.func 21), args := _, argTypes := _ }, _, _, _, none⟩ :: _) :: _) _ _ _
  refine G.call callName22 rfl rfl (law22_name [98] _) Ze ?_
  rintro z11 hn11 Hn11 ⟨⟨_, rfl, hw11⟩, rfl⟩ hln11
  repeat' (first | (refine G.atGd ?_; first | refine G.guardYes rfl rfl ?_))
  have m6 := fun hh a b c => book_May (nmD [114, 111, 111, 116]) (nmD [114, 111, 111, 116]) (nmD [98]) awL [117, 115, 101, 114, 80, 97, 115, 115, 119, 111, 114, 100] 8 g z10 z11 (by decide) (by decide) (by decide) (by decide) hh a b c
  rw [may6] at m6
  show G _ (.ops .seq _ (⟨some _, .call { callee := .value (.func 22), args := _, argTypes := _ }, _, _, _, none⟩ :: _) :: _) _ _ _
  refine G.call callMay rfl rfl (m6 _ (hB.mono (by solve | repeat first | assumption | exact Zr _ | refine Zq ?_ Zp)) (hw10.mono (by solve | repeat first | assumption | exact Zr _ | refine Zq ?_ Zp)) (hw11.mono (by solve | repeat first | assumption | exact Zr _ | refine Zq ?_ Zp))) Ze ?_
  rintro _ hm6 Hm6 ⟨rfl, rfl⟩ hlm6
  repeat' (first | (refine G.atCode ?_; first | refine G.ret ?_) | refine G.endOps ?_ | refine G.op rfl rfl ?_)
  all_goals first | exact G.done1 rfl rfl [] (SubH.nil _) ⟨rfl, rfl⟩ | skip
end Go.Proofs.YtieibicgankemaaGreat
namespace Go.Proofs.YtieibicgankemaaGreat
set_option linter.all false
set_option maxRecDepth 4000
open Go.RowKit

theorem acl_NewO {a : Dn} {rs : List Rl} {l : List RlD} (hm : newM (tyN coreT) a rs = .ok l) (v1 vR vT vC : Value) (hrb : RlB rs) (h0 : dnW a <= 10000000) (h : Heap) (hS : HSl h vT 4 (tyR coreT)) (hA : DnC h a v1) (hR : HSl h vR 6 (rlR rs)) :
    Spec Tryz.prog 4 [.agg #[vT, vC], v1, vR] h [] (fun u h' H' => (∃ g, u = .tuple #[.pointer (some ⟨g, 0, none⟩), .int .i64 0] /\ BookC h' a l g) /\ H' = []) := by
  have := acl_New coreT coreT_ok a rs vT vC v1 vR hrb h0 h hS hA hR
  rw [hm] at this
  exact this
theorem acl_NewN {a : Dn} {rs : List Rl} {e : Int} (hm : newM (tyN coreT) a rs = .error e) (v1 vR vT vC : Value) (hrb : RlB rs) (h0 : dnW a <= 10000000) (h : Heap) (hS : HSl h vT 4 (tyR coreT)) (hA : DnC h a v1) (hR : HSl h vR 6 (rlR rs)) :
    Spec Tryz.prog 4 [.agg #[vT, vC], v1, vR] h [] (fun u h' H' => u = .tuple #[.pointer none, .int .i64 e] /\ H' = []) := by
  have := acl_New coreT coreT_ok a rs vT vC v1 vR hrb h0 h hS hA hR
  rw [hm] at this
  exact this.mono (fun u h' H' x _ => ⟨x.1.1, x.2⟩)
theorem new_err {T : List (List UInt8)} {a : Dn} {rs : List Rl} {e : Int} (hm : newM T a rs = .error e) : e ≠ 0 := by
  unfold newM at hm
  split at hm
  . injection hm with hm; omega
  . rename_i hp
    clear hp
    induction rs with
    | nil => cases hm
    | cons r rs ih =>
      rw [rusM] at hm
      rcases ru_ways T r with ⟨w1, wr⟩ | ⟨w1, e, hd, wr⟩ | ⟨w1, d, hd, w2, wr⟩ | ⟨w1, d, hd, w2, e, hw, wr⟩ | ⟨w1, d, hd, w2, w, hw, w3, wr⟩ | ⟨w1, d, hd, w2, w, hw, w3, w4, wr⟩ | ⟨w1, d, hd, w2, w, hw, w3, w4, wr⟩
      . rw [wr] at hm; simp only [Except.error.injEq] at hm; omega
      . rw [wr] at hm; simp only [Except.error.injEq] at hm; have := parse_err hd; omega
      . rw [wr] at hm; simp only [Except.error.injEq] at hm; omega
      . rw [wr] at hm; simp only [Except.error.injEq] at hm; have := parse_err hw; omega
      . rw [wr] at hm; simp only [Except.error.injEq] at hm; omega
      . rw [wr] at hm; simp only [Except.error.injEq] at hm; omega
      . rw [wr] at hm
        simp only at hm
        cases hr : rusM T rs with
        | error e2 => rw [hr] at hm; simp only [Except.error.injEq] at hm; subst hm; exact ih hr
        | ok l => rw [hr] at hm; cases hm
theorem new_rus {T : List (List UInt8)} {a : Dn} {rs : List Rl} {l : List RlD} (hm : newM T a rs = .ok l) : (printM a).2 = 0 /\ rusM T rs = .ok l := by
  unfold newM at hm
  split at hm
  . cases hm
  . exact ⟨by omega, hm⟩
end Go.Proofs.YtieibicgankemaaGreat
