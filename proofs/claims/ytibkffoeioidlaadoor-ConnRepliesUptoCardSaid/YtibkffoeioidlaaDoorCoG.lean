/- castellanlaw27: awake, same; ConnNil. -/
import Derived.Test.YtibkffoeioidlaaDoorCoB
import Derived.Test.YtibkffoeioidlaaDoorXaO
import Derived.Test.YtibkffoeioidlaaDoorXaA
namespace Go.Proofs.YtibkffoeioidlaaDoor
set_option linter.all false
set_option maxRecDepth 4000
open Go.RowKit

theorem callAwake27 : Callable Tryd.prog 13 := ⟨_, Tryd.func13, by kernel_rfl, rfl⟩
def awB : Ms := { zM with id := 2, op := 2 }
def awAb : Bs := [48, 12, 2, 1, 1, 96, 7, 2, 1, 3, 4, 0, 128, 0]
def awBb : Bs := [48, 5, 2, 1, 2, 66, 0]
theorem aw4 : writeM awB = (awBb, 0) := by kernel_rfl
theorem aw5 : writeM awN = (awAb, 0) := aw2
theorem aw6 : readM awAb = .ok awN := by
  have h := write_read (m := awN) (by rw [aw5])
  rw [aw5] at h
  exact h
theorem aw7 : readM awBb = .ok awB := by
  have h := write_read (m := awB) (by rw [aw4])
  rw [aw4] at h
  exact h
theorem awB_I : MsI awB := by
  constructor <;> first | (simp only [inR, awB, zM]; omega) | (intro x hx; cases hx)
theorem aw_cut1 : cutM (awAb ++ awBb ++ awAb) = (14, 0) := by kernel_rfl
theorem aw_cut2 : cutM (awBb ++ awAb) = (7, 0) := by kernel_rfl
theorem aw_cut3 : cutM awAb = (14, 0) := by kernel_rfl
theorem aw_cut4 : cutM [] = (0, 0) := by kernel_rfl
theorem aw_one1 : cnOne awAb = .ok awN := by
  unfold cnOne
  rw [aw6]; rfl
theorem aw_one2 : cnOne awBb = .error false := by
  unfold cnOne
  rw [aw7]; rfl
theorem aw_conn : connS (awAb ++ awBb ++ awAb) = ⟨[awN], false, true, awAb, 0⟩ := by
  have e1 : (awAb ++ awBb ++ awAb).take (cutM (awAb ++ awBb ++ awAb)).1.toNat = awAb := by rw [aw_cut1]; rfl
  have e2 : (awAb ++ awBb ++ awAb).drop (cutM (awAb ++ awBb ++ awAb)).1.toNat = awBb ++ awAb := by rw [aw_cut1]; rfl
  have e3 : (awBb ++ awAb).take (cutM (awBb ++ awAb)).1.toNat = awBb := by rw [aw_cut2]; rfl
  have e4 : (awBb ++ awAb).drop (cutM (awBb ++ awAb)).1.toNat = awAb := by rw [aw_cut2]; rfl
  rw [connS_msg (m := awN) (by rw [aw_cut1]) (by rw [aw_cut1]; decide) (by rw [e1, aw_one1]), e2, connS_stop (b := false) (by rw [aw_cut2]) (by rw [aw_cut2]; decide) (by rw [e3, aw_one2]), e4]
def awQ (x : Bs) : Prop := x = awAb ∨ x = awBb
theorem aw_all : ∀ n, rdAll awQ n (awAb ++ awBb ++ awAb) := by
  have e1 : (awAb ++ awBb ++ awAb).take (cutM (awAb ++ awBb ++ awAb)).1.toNat = awAb := by rw [aw_cut1]; rfl
  have e2 : (awAb ++ awBb ++ awAb).drop (cutM (awAb ++ awBb ++ awAb)).1.toNat = awBb ++ awAb := by rw [aw_cut1]; rfl
  have e3 : (awBb ++ awAb).take (cutM (awBb ++ awAb)).1.toNat = awBb := by rw [aw_cut2]; rfl
  have e4 : (awBb ++ awAb).drop (cutM (awBb ++ awAb)).1.toNat = awAb := by rw [aw_cut2]; rfl
  have e5 : awAb.take (cutM awAb).1.toNat = awAb := by rw [aw_cut3]; rfl
  have e6 : awAb.drop (cutM awAb).1.toNat = [] := by rw [aw_cut3]; rfl
  have r4 : ∀ n, rdAll awQ n [] := fun n => by
    cases n with
    | zero => trivial
    | succ n => exact fun _ h => absurd (by rw [aw_cut4]) h
  have r3 : ∀ n, rdAll awQ n awAb := fun n => by
    cases n with
    | zero => trivial
    | succ n => exact fun _ _ => by rw [e5, e6]; exact ⟨.inl rfl, r4 n⟩
  have r2 : ∀ n, rdAll awQ n (awBb ++ awAb) := fun n => by
    cases n with
    | zero => trivial
    | succ n => exact fun _ _ => by rw [e3, e4]; exact ⟨.inr rfl, r3 n⟩
  intro n
  cases n with
  | zero => trivial
  | succ n => exact fun _ _ => by rw [e1, e2]; exact ⟨.inl rfl, r2 n⟩
theorem aw_reads (x : Bs) (_ : x.length ≤ 100000000) (hx : awQ x) : ReadsM x := by
  intro h hT
  rcases hx with rfl | rfl
  · exact wire_ReadP awAb (by decide) (fun op o rest h1 h2 => by
      have e := write_op (m := awN) (by rw [aw5]) (by rw [aw5]; exact h1) h2
      subst e
      exact wire_op0) h hT
  · exact wire_ReadP awBb (by decide) (fun op o rest h1 h2 => by
      have e := write_op (m := awB) (by rw [aw4]) (by rw [aw4]; exact h1) h2
      subst e
      exact wire_op2) h hT
set_option maxRecDepth 8000 in
set_option maxHeartbeats 4000000 in
theorem law27_awake (h : Heap) (hT : TabW h) : Spec Tryd.prog 13 [] h [] (fun u _ H' => u = .bool true ∧ H' = []) := by
  have hWA := fun h => ref11_WriteP awN awN_I (fun _ => ref11_op0) (by decide) nilV nilV nilV nilV nilV nilV h (zV rfl rfl rfl rfl rfl)
  rw [aw5] at hWA
  have hWB := fun h => ref11_WriteP awB awB_I (fun _ => ref11_op2) (by decide) nilV nilV nilV nilV nilV nilV h (zV rfl rfl rfl rfl rfl)
  rw [aw4] at hWB
  have hF := fun gc gb wv v h hT hv => conn_FeedQ awQ aw_reads gc gb wv [] v [awAb ++ awBb, awAb] (by decide) aw_all h hT hv
  rw [show ([] : Bs) ++ [awAb ++ awBb, awAb].flatten = awAb ++ awBb ++ awAb from rfl, aw_conn] at hF
  dsimp only at hWA hWB
  have la : awAb.length = 14 := rfl
  have lb : awBb.length = 7 := rfl
  refine Spec.enter Tryd.func13 rfl rfl ?_; intro w0
  repeat' (first | (show G _ (.ops .seq _ (⟨some _, .call { callee := .value (.func 25), args := _, argTypes := _ }, _, _, _, none⟩ :: _) :: _) _ _ _; refine G.call callWrite11 rfl rfl (hWA _) (by solve | (repeat (first | apply Takes.nil | apply Take.hd | apply Take.tl | apply Takes.cons))) ?_; rintro _ h2 H2 ⟨rfl, rfl⟩ hle2) | (show G _ (.ops .seq _ (⟨some _, .call { callee := .value (.func 25), args := _, argTypes := _ }, _, _, _, none⟩ :: _) :: _) _ _ _; refine G.call callWrite11 rfl rfl (hWB _) (by solve | (repeat (first | apply Takes.nil | apply Take.hd | apply Take.tl | apply Takes.cons))) ?_; rintro _ h3 H3 ⟨rfl, rfl⟩ hle3) | (show G _ (.ops .seq _ (⟨some _, .call { callee := .value (.func 14), args := _, argTypes := _ }, _, _, _, none⟩ :: _) :: _) _ _ _; refine G.call callCnNew rfl rfl (conn_New _) (by solve | (repeat (first | apply Takes.nil | apply Take.hd | apply Take.tl | apply Takes.cons))) ?_; rintro _ h4 H4 ⟨gc, gb, rfl, rfl⟩ hle4) | (show G _ (.ops .seq _ (⟨some _, .call { callee := .value (.func 15), args := _, argTypes := _ }, _, _, _, none⟩ :: _) :: _) _ _ _; refine Hold.out ?_) | (refine G.atCode ?_; first | refine G.seq ?_ | refine G.region ?_) | refine G.endOps ?_ | (refine G.atBin ?_; first | (refine G.atAdd ?_; first | refine G.catStr rfl rfl rfl (by first | omega | (simp only [lens] at *; omega)) ?_)) | refine G.op rfl rfl ?_ | (refine G.atBld ?_; refine G.build (tyy rfl) rfl rfl rfl ?_) | (refine G.atBsl ?_; refine G.buildSlice (tyy rfl) (tyy rfl) rfl rfl rfl rfl ?_; intro _))
  all_goals first | (exfalso; omega) | (exfalso; simp_all; done) | skip
  refine ⟨?_⟩
  refine G.freezeBlk Take.hd ?_; intro hf1 hle1 hc1; have hs1 := HSl.ofBlk1 (rows := strsR [awAb ++ awBb, awAb]) (n := 2) hc1 (rowed_strs _) rfl (by decide); clear hc1
  show G _ (.ops .seq _ (⟨some _, .call { callee := .value (.func 15), args := _, argTypes := _ }, _, _, _, none⟩ :: _) :: _) _ _ _
  refine G.call callCnFeed rfl rfl (hF gc gb _ _ _ (hT.mono (by solve | (repeat (first | assumption | exact Heap.le_refl _ | (refine Heap.le_trans ?_ (by assumption)))))) hs1) (by solve | (repeat (first | apply Takes.nil | apply Take.hd | apply Take.tl | apply Takes.cons))) ?_
  rintro _ h6 H6 ⟨ov, rfl, hM, rfl⟩ hle6
  obtain ⟨A6, c6, rfl, _⟩ := hM.form
  obtain ⟨rows6, hs6, r6, rr, rfl, ⟨pv, kv, nv, av, mv, cv, rfl, hV⟩, rfl⟩ := hM
  obtain ⟨⟨pA, pn, pc, rfl⟩, ⟨kA, kn, kc, rfl⟩, ⟨nA, nn, nc, rfl⟩, ⟨aA, an, ac, rfl⟩, ⟨mA, mn, mc, rfl⟩, ⟨cA, cn, cc, rfl⟩⟩ := hV.forms
  have hl1 : (msR awN (.slice pA pn pc) (.slice kA kn kc) (.slice nA nn nc) (.slice aA an ac) (.slice mA mn mc) (.slice cA cn cc)).length = 32 := rfl
  repeat' (first | (refine G.atLoad ?_; refine G.loadImmAt1 rfl (tyy rfl) rfl rfl (by assumption) rfl rfl ?_) | (refine G.atIdx ?_; refine G.idxImm rfl rfl (tyy rfl) (tyy rfl) (hs6.mono (by solve | (repeat (first | assumption | exact Heap.le_refl _ | (refine Heap.le_trans ?_ (by assumption)))))) (by first | (simp only [Int.reduceToNat]; rfl) | with_reducible apply Int.toNat_natCast | exact Eq.refl _) rfl (by simp) ?_; intro p1 r1 hx1 hp1; (obtain rfl := Option.some.inj hx1)) | (show G _ (.ops .seq _ (⟨some _, .call { callee := .value (.func 17), args := _, argTypes := _ }, _, _, _, none⟩ :: _) :: _) _ _ _; refine G.call callCnClosed rfl rfl (conn_Closed gc _ _ true _) (by solve | (repeat (first | apply Takes.nil | apply Take.hd | apply Take.tl | apply Takes.cons))) ?_; rintro _ h7 H7 ⟨rfl, rfl⟩ hle7) | (refine G.atCode ?_; first | refine G.seq ?_ | refine G.region ?_ | refine G.ret ?_) | refine G.endOps ?_ | (refine G.atGd ?_; first | refine G.guardYes rfl rfl ?_) | (refine G.atBin ?_; first | (refine G.atEql ?_; first | refine G.op rfl rfl ?_)) | refine G.op rfl rfl ?_ | (refine G.atLen ?_; first | refine G.lenSlice rfl (tyy rfl) rfl ?_) | (refine G.atFld ?_; first | refine G.fieldAddrP rfl (tyy rfl) rfl rfl ?_))
  all_goals first | (exfalso; omega) | (exfalso; simp_all; done) | exact G.done1 rfl rfl [] (SubH.nil _) ⟨rfl, rfl⟩ | skip
  all_goals trace_state
end Go.Proofs.YtibkffoeioidlaaDoor
namespace Go.Proofs.YtibkffoeioidlaaDoor
set_option linter.all false
set_option maxRecDepth 4000
open Go.RowKit

theorem callCnReply : Callable Tryd.prog 37 := ⟨_, Tryd.func37, by kernel_rfl, rfl⟩
theorem callCnNotice : Callable Tryd.prog 36 := ⟨_, Tryd.func36, by kernel_rfl, rfl⟩
theorem callReply27 : Callable Tryd.prog 38 := ⟨_, Tryd.func38, by kernel_rfl, rfl⟩
theorem callNotice27 : Callable Tryd.prog 39 := ⟨_, Tryd.func39, by kernel_rfl, rfl⟩
theorem putM_nil {d : Int} : ∀ {a : Nd}, (putM d a).2 ≠ 0 → (putM d a).1 = []
  | .mk t data ks, h => by
    rw [putM] at h ⊢
    split
    · rfl
    split
    · rfl
    split
    · rfl
    split
    · rfl
    split
    · rfl
    · rename_i h1 h2 h3 h4 h5
      rw [if_neg h1, if_neg h2, if_neg h3, if_neg h4, if_neg h5] at h
      exact absurd rfl h
theorem write_max (m : Ms) : (writeM m).1.length ≤ 1048581 := by
  by_cases he : (writeM m).2 = 0
  · exact (write_len he).2.1
  · unfold writeM at he ⊢
    split
    · exact Nat.zero_le _
    split
    · exact Nat.zero_le _
    split
    · exact Nat.zero_le _
    · rename_i h1 h2 h3
      rw [if_neg h1, if_neg h2, if_neg h3] at he
      rw [putM_nil he]; exact Nat.zero_le _
def repM (l : List Ms) : Bs := (l.map fun m => (writeM m).1).flatten
theorem repM_snoc (l : List Ms) (m : Ms) : repM (l ++ [m]) = repM l ++ (writeM m).1 := by simp [repM]
theorem repM_len : ∀ l : List Ms, (repM l).length ≤ l.length * 1048581
  | [] => Nat.zero_le _
  | m :: l => by
    have := repM_len l
    have := write_max m
    have e : repM (m :: l) = (writeM m).1 ++ repM l := by simp [repM]
    rw [e, List.length_append, List.length_cons]; omega
set_option maxRecDepth 8000 in
set_option maxHeartbeats 4000000 in
theorem conn_Reply (l : List Ms) (hI : ∀ m ∈ l, MsI m) (hw : ∀ m ∈ l, m.wt ≤ 10000000) (hn : l.length ≤ 30) (v : Value) (h : Heap) (hT : TabW h) (hv : MssC h l v) :
    Spec Tryd.prog 37 [v] h [] (fun u _ H' => u = str (repM l) ∧ H' = []) := by
  obtain ⟨A, c, rfl, _, _⟩ := hv.form
  obtain ⟨rows, hs, hr⟩ := hv
  have hrl := hr.len
  refine Spec.enter Tryd.func37 rfl rfl ?_; intro w0
  repeat' (first | (refine G.atCode ?_; refine G.stopLoop ?_) | (refine G.atCode ?_; first | refine G.seq ?_ | refine G.region ?_ | refine G.block ?_) | refine G.endOps ?_ | refine G.op rfl rfl ?_ | (refine G.atLen ?_; first | refine G.lenSlice rfl (tyy rfl) rfl ?_))
  all_goals first | (exfalso; omega) | skip
  refine G.nilRow 5 1 ?_
  refine G.go ?_
  refine G.loop (σ := Nat × Value) (fun x => [(10, .int .i64 x.1), (9, .int .i64 l.length), (8, .slice A l.length c), (3, x.2)])
    (fun x => [.row x.2 5 1 (bytesR (repM (l.take x.1)))]) (fun x _ => x.1 ≤ l.length) (fun x => l.length - x.1) ⟨0, .slice none 0 0⟩ ⟨rfl, rfl, rfl, rfl, trivial⟩ (by solve | (apply Takes.sub; (repeat (first | apply Takes.nil | apply Take.hd | apply Take.tl | apply Takes.cons)))) (Nat.zero_le _) ?_
  rintro ⟨i, ov⟩ h3 hle3 hi
  simp only at hi
  refine G.norm (by (try dsimp only) <;> exact rfl) (by (try dsimp only) <;> exact rfl) ?_
  have hpl := repM_len (l.take i)
  rw [List.length_take] at hpl
  by_cases hlt : i < l.length
  · obtain ⟨m, ha⟩ : ∃ a, l[i]? = some a := ⟨l[i], List.getElem?_eq_getElem hlt⟩
    have hmem := List.mem_of_getElem? ha
    obtain ⟨r1, hget1, pv, kv, nv, av, mv, cv, rfl, hV⟩ := hr.get ha
    have hW := fun h hT hV => wire_Write m (hI m hmem) (hw m hmem) pv kv nv av mv cv h hT hV
    have hwl := write_max m
    have hn1 : repM (l.take (i + 1)) = repM (l.take i) ++ (writeM m).1 := by rw [take_get ha, repM_snoc]
    generalize repM (l.take i) = P at *
    generalize writeM m = w at *
    obtain ⟨w1, w2⟩ := w
    simp only at hwl hn1 hW
    obtain ⟨⟨pA, pn, pc, rfl⟩, ⟨kA, kn, kc, rfl⟩, ⟨nA, nn, nc, rfl⟩, ⟨aA, an, ac, rfl⟩, ⟨mA, mn, mc, rfl⟩, ⟨cA, cn, cc, rfl⟩⟩ := hV.forms
    have hl1 : (msR m (.slice pA pn pc) (.slice kA kn kc) (.slice nA nn nc) (.slice aA an ac) (.slice mA mn mc) (.slice cA cn cc)).length = 32 := rfl
    repeat' (first | (refine G.atIdx ?_; refine G.idxImm rfl rfl (tyy rfl) (tyy rfl) (hs.mono (by solve | (repeat (first | assumption | exact Heap.le_refl _ | (refine Heap.le_trans ?_ (by assumption)))))) (by first | (simp only [Int.reduceToNat]; rfl) | with_reducible apply Int.toNat_natCast | exact Eq.refl _) rfl (by omega) ?_; intro p1 r1 hx1 hp1; (rw [hget1] at hx1); (obtain rfl := Option.some.inj hx1)) | (show G _ (.ops .seq _ (⟨some _, .call { callee := .value (.func 24), args := _, argTypes := _ }, _, _, _, none⟩ :: _) :: _) _ _ _; refine G.call callWriteW rfl rfl (hW _ (hT.mono (by solve | (repeat (first | assumption | exact Heap.le_refl _ | (refine Heap.le_trans ?_ (by assumption)))))) (hV.mono (by solve | (repeat (first | assumption | exact Heap.le_refl _ | (refine Heap.le_trans ?_ (by assumption))))))) (by solve | (repeat (first | apply Takes.nil | apply Take.hd | apply Take.tl | apply Takes.cons))) ?_; rintro _ h4 H4 ⟨rfl, rfl⟩ hle4) | (refine G.atApp ?_; refine G.appendStr rfl rfl (tyy rfl) (tyy rfl) (tyy rfl) rfl rfl (by solve | (repeat (first | apply Take.hd | apply Take.tl))) rfl (by omega) ?_; intro _) | (refine G.atCode ?_; first | refine G.seq ?_ | refine G.region ?_ | refine G.block ?_ | refine G.skip ?_ | (refine G.cond rfl ?_ ?_ <;> intro hc <;> (try simp only [tests, reduceCtorEq] at hc) <;> (try (exfalso; first | omega | exact absurd hc (by with_reducible assumption) | exact absurd (by with_reducible assumption) hc | exact Bool.noConfusion hc | exact hc | exact hc trivial | fail)))) | refine G.endOps ?_ | refine G.endBlk ?_ | (refine G.atBin ?_; first | (refine G.atAdd ?_; first | refine G.arith rfl rfl rfl rfl rfl (by simp only [inR]; omega) ?_) | refine G.op rfl rfl ?_) | refine G.op rfl rfl ?_ | (refine G.atLoad ?_; first | refine G.loadOwnA rfl (tyy rfl) rfl rfl (by solve | (repeat (first | apply Take.hd | apply Take.tl))) rfl rfl ?_ | refine G.loadImmA rfl (tyy rfl) rfl rfl (by assumption) (by assumption) rfl ?_) | (refine G.atSto ?_; refine G.storeOwn rfl rfl (tyy rfl) (by solve | (repeat (first | apply Take.hd | apply Take.tl))) rfl rfl rfl rfl ?_) | (refine G.atAlc ?_; refine G.alloc (tyy rfl) rfl rfl ?_; intro _))
    all_goals first | (exfalso; omega) | (exfalso; simp_all; done) | skip
    rename_i ov'
    refine G.again ⟨i + 1, ov'⟩ ⟨sint (by simp only; omega), rfl, rfl, rfl, trivial⟩ ?_ (by simp only; omega) (by solve | (repeat (first | assumption | exact Heap.le_refl _ | (refine Heap.le_trans ?_ (by assumption))))) (by simp only; omega)
    simp only [hn1]
    exact (by solve | (apply Takes.sub; (repeat (first | apply Takes.nil | apply Take.hd | apply Take.tl | apply Takes.cons))))
  · obtain rfl : i = l.length := by omega
    rw [List.take_length]
    repeat' (first | (refine G.atCode ?_; first | refine G.seq ?_ | refine G.region ?_ | refine G.exit rfl ?_ | refine G.ret ?_ | (refine G.cond rfl ?_ ?_ <;> intro hc <;> (try simp only [tests, reduceCtorEq] at hc) <;> (try (exfalso; first | omega | exact absurd hc (by with_reducible assumption) | exact absurd (by with_reducible assumption) hc | exact Bool.noConfusion hc | exact hc | exact hc trivial | fail)))) | refine G.endOps ?_ | (refine G.atBin ?_; first | refine G.op rfl rfl ?_) | refine G.op rfl rfl ?_ | (refine G.atConv ?_; first | refine G.convStr rfl (tyy rfl) (tyy rfl) (tyy rfl) (by solve | (repeat (first | apply Take.hd | apply Take.tl))) rfl ?_))
    all_goals first | (exfalso; omega) | exact G.done1 rfl rfl [] (SubH.nil _) ⟨rfl, rfl⟩ | skip
    all_goals trace_state
set_option maxRecDepth 8000 in
set_option maxHeartbeats 4000000 in
theorem ref27_Reply (l : List Ms) (hI : ∀ m ∈ l, MsI m) (hw : ∀ m ∈ l, m.wt ≤ 10000000) (hn : l.length ≤ 30) (v : Value) (h : Heap) (hv : MssC h l v) :
    Spec Tryd.prog 38 [v] h [] (fun u _ H' => u = str (repM l) ∧ H' = []) := by
  obtain ⟨A, c, rfl, _, _⟩ := hv.form
  obtain ⟨rows, hs, hr⟩ := hv
  have hrl := hr.len
  refine Spec.enter Tryd.func38 rfl rfl ?_; intro w0
  repeat' (first | (refine G.atCode ?_; refine G.stopLoop ?_) | (refine G.atCode ?_; first | refine G.seq ?_ | refine G.region ?_ | refine G.block ?_) | refine G.endOps ?_ | refine G.op rfl rfl ?_ | (refine G.atLen ?_; first | refine G.lenSlice rfl (tyy rfl) rfl ?_))
  all_goals first | (exfalso; omega) | skip
  refine G.go ?_
  refine G.loop (σ := Nat) (fun i => [(10, .int .i64 i), (9, .int .i64 l.length), (8, .slice A l.length c), (3, str (repM (l.take i)))])
    (fun _ => []) (fun i _ => i ≤ l.length) (fun i => l.length - i) 0 ⟨rfl, rfl, rfl, rfl, trivial⟩ (SubH.nil _) (Nat.zero_le _) ?_
  rintro i h3 hle3 hi
  have hpl := repM_len (l.take i)
  rw [List.length_take] at hpl
  by_cases hlt : i < l.length
  · obtain ⟨m, ha⟩ : ∃ a, l[i]? = some a := ⟨l[i], List.getElem?_eq_getElem hlt⟩
    have hmem := List.mem_of_getElem? ha
    obtain ⟨r1, hget1, pv, kv, nv, av, mv, cv, rfl, hV⟩ := hr.get ha
    have hW := fun h hV => ref11_Write m (hI m hmem) (hw m hmem) pv kv nv av mv cv h hV
    have hwl := write_max m
    have hn1 : repM (l.take (i + 1)) = repM (l.take i) ++ (writeM m).1 := by rw [take_get ha, repM_snoc]
    generalize repM (l.take i) = P at *
    generalize writeM m = w at *
    obtain ⟨w1, w2⟩ := w
    simp only at hwl hn1 hW
    obtain ⟨⟨pA, pn, pc, rfl⟩, ⟨kA, kn, kc, rfl⟩, ⟨nA, nn, nc, rfl⟩, ⟨aA, an, ac, rfl⟩, ⟨mA, mn, mc, rfl⟩, ⟨cA, cn, cc, rfl⟩⟩ := hV.forms
    have hl1 : (msR m (.slice pA pn pc) (.slice kA kn kc) (.slice nA nn nc) (.slice aA an ac) (.slice mA mn mc) (.slice cA cn cc)).length = 32 := rfl
    repeat' (first | (refine G.atIdx ?_; refine G.idxImm rfl rfl (tyy rfl) (tyy rfl) (hs.mono (by solve | (repeat (first | assumption | exact Heap.le_refl _ | (refine Heap.le_trans ?_ (by assumption)))))) (by first | (simp only [Int.reduceToNat]; rfl) | with_reducible apply Int.toNat_natCast | exact Eq.refl _) rfl (by omega) ?_; intro p1 r1 hx1 hp1; (rw [hget1] at hx1); (obtain rfl := Option.some.inj hx1)) | (show G _ (.ops .seq _ (⟨some _, .call { callee := .value (.func 25), args := _, argTypes := _ }, _, _, _, none⟩ :: _) :: _) _ _ _; refine G.call callWrite11 rfl rfl (hW _ (hV.mono (by solve | (repeat (first | assumption | exact Heap.le_refl _ | (refine Heap.le_trans ?_ (by assumption))))))) (by solve | (repeat (first | apply Takes.nil | apply Take.hd | apply Take.tl | apply Takes.cons))) ?_; rintro _ h4 H4 ⟨rfl, rfl⟩ hle4) | (refine G.atCode ?_; first | refine G.seq ?_ | refine G.region ?_ | refine G.block ?_ | refine G.skip ?_ | (refine G.cond rfl ?_ ?_ <;> intro hc <;> (try simp only [tests, reduceCtorEq] at hc) <;> (try (exfalso; first | omega | exact absurd hc (by with_reducible assumption) | exact absurd (by with_reducible assumption) hc | exact Bool.noConfusion hc | exact hc | exact hc trivial | fail)))) | refine G.endOps ?_ | refine G.endBlk ?_ | (refine G.atBin ?_; first | (refine G.atAdd ?_; first | refine G.arith rfl rfl rfl rfl rfl (by simp only [inR]; omega) ?_ | refine G.catStr rfl rfl rfl (by first | omega | (simp only [lens] at *; omega)) ?_) | refine G.op rfl rfl ?_) | refine G.op rfl rfl ?_ | (refine G.atLoad ?_; first | refine G.loadOwnA rfl (tyy rfl) rfl rfl (by solve | (repeat (first | apply Take.hd | apply Take.tl))) rfl rfl ?_ | refine G.loadImmA rfl (tyy rfl) rfl rfl (by assumption) (by assumption) rfl ?_) | (refine G.atSto ?_; refine G.storeOwn rfl rfl (tyy rfl) (by solve | (repeat (first | apply Take.hd | apply Take.tl))) rfl rfl rfl rfl ?_) | (refine G.atAlc ?_; refine G.alloc (tyy rfl) rfl rfl ?_; intro _))
    all_goals first | (exfalso; omega) | (exfalso; simp_all; done) | skip
    exact G.again (i + 1) ⟨sint (by omega), rfl, rfl, by rw [hn1]; rfl, trivial⟩ (SubH.nil _) (by omega) (by solve | (repeat (first | assumption | exact Heap.le_refl _ | (refine Heap.le_trans ?_ (by assumption))))) (by omega)
  · obtain rfl : i = l.length := by omega
    rw [List.take_length]
    repeat' (first | (refine G.atCode ?_; first | refine G.seq ?_ | refine G.region ?_ | refine G.exit rfl ?_ | refine G.ret ?_ | (refine G.cond rfl ?_ ?_ <;> intro hc <;> (try simp only [tests, reduceCtorEq] at hc) <;> (try (exfalso; first | omega | exact absurd hc (by with_reducible assumption) | exact absurd (by with_reducible assumption) hc | exact Bool.noConfusion hc | exact hc | exact hc trivial | fail)))) | refine G.endOps ?_ | (refine G.atBin ?_; first | refine G.op rfl rfl ?_) | refine G.op rfl rfl ?_)
    all_goals first | (exfalso; omega) | exact G.done1 rfl rfl [] (SubH.nil _) ⟨rfl, rfl⟩ | skip
end Go.Proofs.YtibkffoeioidlaaDoor
