/- castellanlaw11: awake; WireResults, WireBack. -/
import Derived.Test.YtibkffoeioidlaaDoorWrY
import Derived.Test.YtibkffoeioidlaaDoorWrW
import Derived.Test.YtibkffoeioidlaaDoorWrO
import Derived.Test.YtibkffoeioidlaaDoorFeedBl
import Derived.Test.YtibkffoeioidlaaDoorOcB
import Derived.Test.YtibkffoeioidlaaDoorWrJ
namespace Go.Proofs.YtibkffoeioidlaaDoor
set_option linter.all false
set_option maxRecDepth 4000
open Go.RowKit

theorem callAwake11 : Callable Tryd.prog 26 := ⟨_, Tryd.func26, by kernel_rfl, rfl⟩
theorem RdR.ok_inv {m : Ms} {u : Value} {h' : Heap} (h : RdR (.ok m) u h') : ∃ pv kv nv av mv cv, u = .tuple #[.agg (msR m pv kv nv av mv cv).toArray, .int .i64 0] /\ MsV h' m pv kv nv av mv cv := by
  obtain ⟨m', pv, kv, nv, av, mv, cv, e, rfl, hV, ⟨rfl, h⟩ | ⟨_, h, _⟩⟩ := h
  . injection h with h
    subst h
    exact ⟨_, _, _, _, _, _, rfl, hV⟩
  . cases h
theorem RdR.err_inv {x : Int} {u : Value} {h' : Heap} (h : RdR (.error x) u h') : x ≠ 0 /\ ∃ pv kv nv av mv cv, u = .tuple #[.agg (msR zM pv kv nv av mv cv).toArray, .int .i64 x] /\ MsV h' zM pv kv nv av mv cv := by
  obtain ⟨m', pv, kv, nv, av, mv, cv, e, rfl, hV, ⟨rfl, h⟩ | ⟨he, h, rfl⟩⟩ := h
  . cases h
  . injection h with h
    subst h
    exact ⟨he, _, _, _, _, _, _, rfl, hV⟩
def awM : Ms := { zM with id := 7, op := 2 }
def awN : Ms := { zM with id := 1, op := 0, ver := 3 }
theorem aw1 : writeM awM = ([48, 5, 2, 1, 7, 66, 0], 0) := by kernel_rfl
theorem aw2 : writeM awN = ([48, 12, 2, 1, 1, 96, 7, 2, 1, 3, 4, 0, 128, 0], 0) := by kernel_rfl
theorem aw3 : readM [48, 5, 2, 1, 7, 66, 0] = .ok awM := by
  have h := write_read (m := awM) (by rw [aw1])
  rw [aw1] at h
  exact h
theorem awN_I : MsI awN := by
  constructor <;> first | (simp only [inR, awN, zM]; omega) | (intro x hx; cases hx)
set_option maxRecDepth 8000 in
set_option maxHeartbeats 2000000 in
theorem law11_awake (h : Heap) (hT : TabW h) : Spec Tryd.prog 26 [] h [] (fun u _ H' => u = .bool true /\ H' = []) := by
  have hR := fun h hT => wire_ReadP [48, 5, 2, 1, 7, 66, 0] (by decide) (fun op o rest h1 h2 => by
    have e := write_op (m := awM) (by rw [aw1]) (by rw [aw1]; exact h1) h2
    subst e
    exact wire_op2) h hT
  rw [aw3] at hR
  have hW := fun h hT => wire_Write awN awN_I (by decide) nilV nilV nilV nilV nilV nilV h hT (zV rfl rfl rfl rfl rfl)
  rw [aw2] at hW
  refine Spec.enter Tryd.func26 rfl rfl ?_; intro w0
  repeat' (first | (show G _ (.ops .seq _ (⟨some _, .call { callee := .value (.func 28), args := _, argTypes := _ }, _, _, _, none⟩ :: _) :: _) _ _ _; refine G.call callReadW rfl rfl (hR _ (hT.mono (by solve | repeat first | assumption | exact Zr _ | refine Zq ?_ Zp))) Ze ?_; rintro _ h2 H2 ⟨hr, rfl⟩ hle2; obtain ⟨pv, kv, nv, av, mv, cv, rfl, hV⟩ := hr.ok_inv; obtain ⟨⟨pA, pn, pc, rfl⟩, ⟨kA, kn, kc, rfl⟩, ⟨nA, nn, nc, rfl⟩, ⟨aA, an, ac, rfl⟩, ⟨mA, mn, mc, rfl⟩, ⟨cA, cn, cc, rfl⟩⟩ := hV.forms) | (show G _ (.ops .seq _ (⟨some _, .call { callee := .value (.func 24), args := _, argTypes := _ }, _, _, _, none⟩ :: _) :: _) _ _ _; refine G.call callWriteW rfl rfl (hW _ (hT.mono (by solve | repeat first | assumption | exact Zr _ | refine Zq ?_ Zp))) Ze ?_; rintro _ h3 H3 ⟨rfl, rfl⟩ hle3) | (refine G.atCode ?_; first | refine G.seq ?_ | refine G.region ?_ | refine G.ret ?_) | refine G.endOps ?_ | (refine G.atGd ?_; first | refine G.guardYes rfl rfl ?_) | (refine G.atBin ?_; first | (refine G.atEql ?_; first | refine G.op rfl rfl ?_ | refine G.eqStr rfl rfl rfl ?_)) | refine G.op rfl rfl ?_ | (refine G.atLoad ?_; first | refine G.loadOwn1 rfl (tyy rfl) rfl rfl Za rfl rfl ?_) | (refine G.atFld ?_; first | refine G.fieldAddr rfl (tyy rfl) rfl rfl ?_) | (refine G.atSto ?_; refine G.storeOwn rfl rfl (tyy rfl) Za rfl rfl rfl rfl ?_) | (refine G.atAlc ?_; refine G.alloc (tyy rfl) rfl rfl ?_; intro _) | (refine G.atBld ?_; refine G.build (tyy rfl) rfl rfl rfl ?_))
  all_goals first | (exfalso; omega) | (exfalso; simp_all; done) | exact G.done1 rfl rfl [] (SubH.nil _) ⟨by simp, rfl⟩ | skip
theorem byte_take {w : Bs} {k i : Nat} (h : i < k) : byteAt (w.take k) i = byteAt w i := by
  unfold byteAt
  rw [List.getElem?_take_of_lt h]
theorem getV_take {w : Bs} {k : Nat} {a n : Int} (hok : getOk (w.take k) a n = true) : getOk w a n = true /\ getV (w.take k) a n = getV w a n := by
  have h1 := hok
  unfold getOk at h1
  rw [decide_eq_true_eq, List.length_take] at h1
  have h2 : getOk w a n = true := by
    unfold getOk
    rw [decide_eq_true_eq]
    omega
  refine ⟨h2, ?_⟩
  unfold getV
  rw [if_pos hok, if_pos h2, List.drop_take, List.take_take]
  congr 2
  omega
theorem cut_prefix {w : Bs} (h : cutM w = ((w.length : Int), 0)) {k : Nat} (hk : k < w.length) : cutM (w.take k) = (0, 0) := by
  have hl : (w.take k).length = k := by rw [List.length_take]; omega
  by_cases h0 : k = 0
  . subst h0; rfl
  unfold cutM at h ⊢
  simp only at h ⊢
  rw [hl, if_neg h0, byte_take (by omega)]
  rw [if_neg (by omega)] at h
  split at h
  . injection h with _ h; cases h
  rename_i h1
  rw [if_neg h1]
  by_cases h2 : k < 2
  . rw [if_pos h2]
  rw [if_neg h2, byte_take (by omega)]
  rw [if_neg (by omega)] at h
  generalize (byteAt w 1 : Int) = b at *
  split at h
  . rename_i h3
    rw [if_pos h3]
    split at h
    . injection h with h _; omega
    . injection h with h _
      rw [if_pos (by omega)]
  rename_i h3
  rw [if_neg h3]
  split at h
  . injection h with _ h; cases h
  rename_i h4
  rw [if_neg h4]
  split at h
  . injection h with h _; omega
  rename_i h5
  split at h
  . injection h with _ h; cases h
  rename_i h6
  split at h
  . injection h with h _; omega
  rename_i h7
  injection h with h _
  cases hg : getOk (w.take k) 2 (b - 128) with
  | false => rw [if_pos rfl]
  | true =>
    obtain ⟨_, g2⟩ := getV_take hg
    rw [if_neg (by simp), g2, if_neg h6, if_pos (by omega)]
theorem feed_NextP (g : Nat) (w : Bs) (hm : Msg w) (k : Nat) (hk : k < w.length) (hl : w.length <= 9223372036854775807) (h : Heap) :
    Spec Tryd.prog 31 [.pointer (some ⟨g, 0, none⟩)] h [buf g (w.take k) 0] (fun v _ H' => H' = [buf g (w.take k) 0] /\ v = .tuple #[str [], .bool false, .int .i64 0]) := by
  have h0 := hm.2 []
  rw [List.append_nil] at h0
  have hc := cut_prefix h0 hk
  exact feed_Next g (w.take k) (by rw [List.length_take]; omega) 0 (by rw [hc]; rfl) (by rw [hc]) h
theorem feed_NextW (g : Nat) (w : Bs) (hm : Msg w) (hl : w.length <= 9223372036854775807) (h : Heap) :
    Spec Tryd.prog 31 [.pointer (some ⟨g, 0, none⟩)] h [buf g w 0] (fun v _ H' => H' = [buf g [] 0] /\ v = .tuple #[str w, .bool true, .int .i64 0]) := by
  have := feed_NextM g w [] hm (by rw [List.append_nil]; exact hl) h
  rw [List.append_nil] at this
  exact this
end Go.Proofs.YtibkffoeioidlaaDoor
namespace Go.Proofs.YtibkffoeioidlaaDoor
set_option linter.all false
set_option maxRecDepth 4000
open Go.RowKit

theorem write_len {m : Ms} (h : (writeM m).2 = 0) : 2 <= (writeM m).1.length /\ (writeM m).1.length <= 1048581 /\ Msg (writeM m).1 := by
  obtain ⟨_, _, _, h4, h5⟩ := write_ok h
  rw [h5]
  have hp := putM_pos h4
  unfold nodeM sqN at h4 hp ⊢
  refine ⟨hp, ?_, msg_put h4⟩
  obtain ⟨_, _, _, _, _, _, _, h8, h9⟩ := putM_ok h4
  rw [h9, List.length_append]
  have := headB_len 48 (([] : Bs) ++ (putsM (1 + 1) (numN 2 m.id :: elemM m :: (if m.ctls.length = 0 then [] else [.mk 160 [] (m.ctls.map ctlN)]))).1).length
  omega
set_option maxRecDepth 8000 in
set_option maxHeartbeats 8000000 in
theorem law_WireBack (m : Ms) (hI : MsI m) (hw : m.wt <= 10000000) (at_ : Int) (hat : inR .i64 at_) (pv kv nv av mv cv : Value) (h : Heap) (hT : TabW h) (hV : MsV h m pv kv nv av mv cv) :
    Spec Tryd.prog 7 [.agg (msR m pv kv nv av mv cv).toArray, .int .i64 at_] h [] (fun u _ _ => u = .bool true) := by
  have hW := fun h hT hV => wire_Write m hI hw pv kv nv av mv cv h hT hV
  have hB := fun h hV => ref11_Bare m hw pv kv nv av mv cv h hV
  obtain ⟨⟨pA, pn, pc, rfl⟩, ⟨kA, kn, kc, rfl⟩, ⟨nA, nn, nc, rfl⟩, ⟨aA, an, ac, rfl⟩, ⟨mA, mn, mc, rfl⟩, ⟨cA, cn, cc, rfl⟩⟩ := hV.forms
  by_cases he : (writeM m).2 = 0
  . obtain ⟨hl1, hl2, hmsg⟩ := write_len he
    have hR := fun h hT => wire_Read (writeM m).1 (by omega) h hT
    rw [write_read he] at hR
    rw [he] at hW
    generalize (writeM m).1 = s at *
    clear he
    have hS := fun h pv kv nv av mv cv pv2 kv2 nv2 av2 mv2 cv2 h1 h2 => ref11_Same (bareM m) pv kv nv av mv cv pv2 kv2 nv2 av2 mv2 cv2 h h1 h2
    refine Spec.enter Tryd.func7 rfl rfl ?_; intro w0
    repeat' (first | (show G _ (.ops .seq _ (⟨some _, .call { callee := .value (.func 24), args := _, argTypes := _ }, _, _, _, none⟩ :: _) :: _) _ _ _; refine G.call callWriteW rfl rfl (hW _ (hT.mono (by solve | repeat first | assumption | exact Zr _ | refine Zq ?_ Zp)) (hV.mono (by solve | repeat first | assumption | exact Zr _ | refine Zq ?_ Zp))) Ze ?_; rintro _ h3 H3 ⟨rfl, rfl⟩ hle3) | (show G _ (.ops .seq _ (⟨some _, .call { callee := .value (.func 26), args := _, argTypes := _ }, _, _, _, none⟩ :: _) :: _) _ _ _; refine G.call callAwake11 rfl rfl (law11_awake _ (hT.mono (by solve | repeat first | assumption | exact Zr _ | refine Zq ?_ Zp))) Ze ?_; rintro _ h5 H5 ⟨rfl, rfl⟩ hle5) | (show G _ (.ops .seq _ (⟨some _, .call { callee := .value (.func 28), args := _, argTypes := _ }, _, _, _, none⟩ :: _) :: _) _ _ _; refine G.call callReadW rfl rfl (hR _ (hT.mono (by solve | repeat first | assumption | exact Zr _ | refine Zq ?_ Zp))) Ze ?_; rintro _ h2 H2 ⟨hr, rfl⟩ hle2; obtain ⟨pv9, kv9, nv9, av9, mv9, cv9, rfl, hV9⟩ := hr.ok_inv; obtain ⟨⟨pA9, pn9, pc9, rfl⟩, ⟨kA9, kn9, kc9, rfl⟩, ⟨nA9, nn9, nc9, rfl⟩, ⟨aA9, an9, ac9, rfl⟩, ⟨mA9, mn9, mc9, rfl⟩, ⟨cA9, cn9, cc9, rfl⟩⟩ := hV9.forms) | (show G _ (.ops .seq _ (⟨some _, .call { callee := .value (.func 29), args := _, argTypes := _ }, _, _, _, none⟩ :: _) :: _) _ _ _; refine G.call callNew rfl rfl (feed_New _) Ze ?_; rintro _ h1 H1 ⟨g, rfl, rfl⟩ hle) | (refine G.atCode ?_; first | refine G.seq ?_ | refine G.region ?_ | refine G.skip ?_ | (refine G.cond rfl ?_ ?_ <;> intro hc <;> (try simp only [tests, reduceCtorEq] at hc) <;> (try exact Zf))) | refine G.endOps ?_ | (refine G.atGd ?_; first | refine G.guardYes rfl rfl ?_) | (refine G.atBin ?_; first | (refine G.atNeq ?_; first | refine G.op rfl rfl ?_) | (refine G.atRem ?_; first | (refine G.rem rfl rfl rfl rfl Zo ?_; intro _ _ _))) | refine G.op rfl rfl ?_ | (refine G.atLen ?_; first | refine G.lenStr rfl (tyy rfl) rfl ?_) | (refine G.atLoad ?_; first | refine G.loadOwnA rfl (tyy rfl) rfl rfl Za rfl rfl ?_) | (refine G.atSto ?_; refine G.storeOwn rfl rfl (tyy rfl) Za rfl rfl rfl rfl ?_) | (refine G.atAlc ?_; refine G.alloc (tyy rfl) rfl rfl ?_; intro _) | (refine G.atBox ?_; refine G.box rfl rfl rfl ?_; intro _) | (refine G.atBsl ?_; refine G.buildSlice (tyy rfl) (tyy rfl) rfl rfl rfl rfl ?_; intro _) | (refine G.atConv ?_; first | refine G.conv rfl (tyy rfl) (tyy rfl) rfl Zi ?_ | (refine G.convW rfl (tyy rfl) (tyy rfl) rfl ?_; intro hcw; (try simp only [inR] at hcw))) | (refine G.atSlc ?_; first | refine G.takeStr rfl rfl (tyy rfl) rfl Zj Zo ?_))
    all_goals first | (exfalso; omega) | (exfalso; simp_all; done) | skip
    obtain ⟨K, hK, hKl⟩ : ∃ K : Nat, IntKind.u64.wrap at_ % (s.length : Int) = (K : Int) /\ K < s.length := ⟨(IntKind.u64.wrap at_ % (s.length : Int)).toNat, by omega, by omega⟩
    rw [hK]
    rw [Int.toNat_natCast]
    have e1 : ([] : Bs) ++ [s.take K].flatten = s.take K := by simp
    have e2 : s.take K ++ [s.drop K].flatten = s := by simp
    have el1 : [s.take K].flatten.length <= 1048581 := by rw [List.flatten_singleton, List.length_take]; omega
    have el2 : [s.drop K].flatten.length <= 1048581 := by rw [List.flatten_singleton, List.length_drop]; omega
    have hlt : (s.take K).length <= 1048581 := by rw [List.length_take]; omega
    have hAdd := fun h v hv => feed_Add g [] v [s.take K] h hv (by rw [List.length_nil]; omega)
    rw [e1] at hAdd
    have hAdd2 := fun h v hv => feed_Add g (s.take K) v [s.drop K] h hv (by omega)
    rw [e2] at hAdd2
    refine G.freezeBlk Take.hd ?_; intro hf1 hle1 hc1; have hs1 := HSl.ofBlk1 (rows := strsR [s.take K]) (n := 1) hc1 (rowed_strs _) rfl (by decide); clear hc1
    repeat' (first | (show G _ (.ops .seq _ (⟨some _, .call { callee := .value (.func 30), args := _, argTypes := _ }, _, _, _, none⟩ :: _) :: _) _ _ _; refine G.call callAdd rfl rfl (hAdd _ _ (hs1.mono (by solve | repeat first | assumption | exact Zr _ | refine Zq ?_ Zp))) Ze ?_; rintro _ h6 H6 ⟨rfl, rfl⟩ hle6) | (show G _ (.ops .seq _ (⟨some _, .call { callee := .value (.func 31), args := _, argTypes := _ }, _, _, _, none⟩ :: _) :: _) _ _ _; refine G.call callNext rfl rfl (feed_NextP g s hmsg K hKl (by omega) _) Ze ?_; rintro _ h7 H7 ⟨rfl, rfl⟩ hle7) | (show G _ (.ops .seq _ (⟨some _, .call { callee := .value (.func 30), args := _, argTypes := _ }, _, _, _, none⟩ :: _) :: _) _ _ _; refine Hold.out ?_) | (refine G.atCode ?_; first | refine G.seq ?_ | refine G.region ?_) | refine G.endOps ?_ | refine G.op rfl rfl ?_ | (refine G.atBsl ?_; refine G.buildSlice (tyy rfl) (tyy rfl) rfl rfl rfl rfl ?_; intro _) | (refine G.atSlc ?_; first | refine G.dropStr rfl rfl (tyy rfl) rfl Zj Zo ?_))
    all_goals first | (exfalso; omega) | (exfalso; simp_all; done) | skip
    refine ⟨?_⟩
    clear hs1
    refine G.freezeBlk Take.hd ?_; intro hf1 hle1 hc1; have hs1 := HSl.ofBlk1 (rows := strsR [s.drop K]) (n := 1) hc1 (rowed_strs _) rfl (by decide); clear hc1
    repeat' (first | (refine G.atAny ?_; first | refine G.anyAutoX slB rfl rfl Zw (by solve | exact Heap.none_le _ | assumption | exact Zr _ | (repeat first | assumption | exact Zr _ | refine Zq ?_ Zp)) Zd ?_ | refine G.anyKeep slB rfl Zw (by solve | exact Heap.none_le _ | assumption | exact Zr _ | (repeat first | assumption | exact Zr _ | refine Zq ?_ Zp)) Zu ?_ | refine G.anyOne rfl Zw (by solve | exact Heap.none_le _ | assumption | exact Zr _ | (repeat first | assumption | exact Zr _ | refine Zq ?_ Zp)) Zu ?_ | refine G.anyEndX Zw ?_) | (show G _ (.ops .seq _ (⟨some _, .call { callee := .value (.func 30), args := _, argTypes := _ }, _, _, _, none⟩ :: _) :: _) _ _ _; refine G.call callAdd rfl rfl (hAdd2 _ _ (hs1.mono (by solve | repeat first | assumption | exact Zr _ | refine Zq ?_ Zp))) Ze ?_; rintro _ h6 H6 ⟨rfl, rfl⟩ hle6) | (show G _ (.ops .seq _ (⟨some _, .call { callee := .value (.func 31), args := _, argTypes := _ }, _, _, _, none⟩ :: _) :: _) _ _ _; refine G.call callNext rfl rfl (feed_NextW g s hmsg (by omega) _) Ze ?_; rintro _ h7 H7 ⟨rfl, rfl⟩ hle7) | (show G _ (.ops .seq _ (⟨some _, .call { callee := .value (.func 32), args := _, argTypes := _ }, _, _, _, none⟩ :: _) :: _) _ _ _; refine G.call callBare11 rfl rfl (hB _ (hV.mono (by solve | repeat first | assumption | exact Zr _ | refine Zq ?_ Zp))) Ze ?_; rintro _ h8 H8 ⟨⟨pv8, kv8, nv8, av8, mv8, cv8, rfl, hV8⟩, rfl⟩ hle8) | (show G _ (.ops .seq _ (⟨some _, .call { callee := .value (.func 27), args := _, argTypes := _ }, _, _, _, none⟩ :: _) :: _) _ _ _; refine G.call callSame11 rfl rfl (hS _ _ _ _ _ _ _ _ _ _ _ _ _ (hV9.mono (by solve | repeat first | assumption | exact Zr _ | refine Zq ?_ Zp)) (hV8.mono (by solve | repeat first | assumption | exact Zr _ | refine Zq ?_ Zp))) Ze ?_; rintro _ h10 H10 ⟨rfl, rfl⟩ hle10) | (refine G.atCode ?_; first | refine G.seq ?_ | refine G.region ?_ | refine G.anyIn mixedOk ?_ | refine G.ret ?_) | refine G.endOps ?_ | refine G.endHeld ?_ | refine G.back ?_ | (refine G.atGd ?_; first | refine G.guardYes rfl rfl ?_) | (refine G.atBin ?_; first | (refine G.atEql ?_; first | refine G.op rfl rfl ?_ | refine G.eqStr rfl rfl rfl ?_)) | refine G.op rfl rfl ?_ | (refine G.atLoad ?_; first | refine G.loadOwnA rfl (tyy rfl) rfl rfl Za rfl rfl ?_))
    all_goals first | (exfalso; omega) | (exfalso; simp_all; done) | exact G.done1 rfl rfl [] (SubH.nil _) (by first | rfl | simp) | skip
    all_goals trace_state
  . refine Spec.enter Tryd.func7 rfl rfl ?_; intro w0
    repeat' (first | (show G _ (.ops .seq _ (⟨some _, .call { callee := .value (.func 24), args := _, argTypes := _ }, _, _, _, none⟩ :: _) :: _) _ _ _; refine G.call callWriteW rfl rfl (hW _ (hT.mono (by solve | repeat first | assumption | exact Zr _ | refine Zq ?_ Zp)) (hV.mono (by solve | repeat first | assumption | exact Zr _ | refine Zq ?_ Zp))) Ze ?_; rintro _ h3 H3 ⟨rfl, rfl⟩ hle3) | (show G _ (.ops .seq _ (⟨some _, .call { callee := .value (.func 26), args := _, argTypes := _ }, _, _, _, none⟩ :: _) :: _) _ _ _; refine G.call callAwake11 rfl rfl (law11_awake _ (hT.mono (by solve | repeat first | assumption | exact Zr _ | refine Zq ?_ Zp))) Ze ?_; rintro _ h5 H5 ⟨rfl, rfl⟩ hle5) | (refine G.atCode ?_; first | refine G.seq ?_ | refine G.region ?_ | refine G.ret ?_ | (refine G.cond rfl ?_ ?_ <;> intro hc <;> (try simp only [tests, reduceCtorEq] at hc) <;> (try exact Zf))) | refine G.endOps ?_ | (refine G.atGd ?_; first | refine G.guardYes rfl rfl ?_) | (refine G.atBin ?_; first | (refine G.atNeq ?_; first | refine G.op rfl rfl ?_)) | refine G.op rfl rfl ?_ | (refine G.atLoad ?_; first | refine G.loadOwnA rfl (tyy rfl) rfl rfl Za rfl rfl ?_) | (refine G.atBox ?_; refine G.box rfl rfl rfl ?_; intro _))
    all_goals first | (exfalso; omega) | (exfalso; simp_all; done) | exact G.done1 rfl rfl [] (SubH.nil _) rfl | skip
end Go.Proofs.YtibkffoeioidlaaDoor
