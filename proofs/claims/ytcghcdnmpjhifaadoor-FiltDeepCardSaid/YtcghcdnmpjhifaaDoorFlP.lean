/- Filters: as deep and as many as may be; FiltDeep. -/
import Derived.Test.YtcghcdnmpjhifaaDoorFlK
import Derived.Test.YtcghcdnmpjhifaaDoorFlH
namespace Go.Proofs.YtcghcdnmpjhifaaDoor
set_option linter.all false
set_option maxRecDepth 4000
open Go.RowKit

def dpF : Nat -> Fl
  | 0 => .mk 7 [97] [] [] []
  | i + 1 => .mk ((i % 3 : Nat) : Int) [] [] [] [dpF i]
theorem mod3 (i : Nat) : i % 3 = 0 \/ i % 3 = 1 \/ i % 3 = 2 := by omega
theorem dpF_ok : ∀ i, okF (dpF i)
  | 0 => by simp only [dpF, okF]; exact ⟨by decide, by decide, fun h => absurd h (by decide), fun _ => ⟨by decide, fun h => absurd h (by decide)⟩⟩
  | i + 1 => by
    have ih := dpF_ok i
    have h := Nat.mod_lt i (show 0 < 3 by omega)
    simp only [dpF, okF]
    exact ⟨by omega, by omega, fun _ => ⟨fun _ => rfl, ih, trivial⟩, fun h => absurd h (by omega)⟩
theorem dpF_chk : ∀ (i d n : Nat), n + i + 1 <= 1000 -> chkM d n (dpF i) = if i < d then .ok (n + i + 1) else .error 6
  | i, 0, n, _ => by rw [if_neg (by omega)]; cases i <;> rfl
  | 0, d + 1, n, h => by
    rw [if_pos (by omega), dpF, chkM, if_neg (by omega), if_neg (by omega), if_neg (by omega), if_neg (by omega), if_neg (by decide), if_neg (fun e => absurd e.1 (by decide))]
  | i + 1, d + 1, n, h => by
    have hm := Nat.mod_lt i (show 0 < 3 by omega)
    have ih := dpF_chk i d (n + 1) (by omega)
    rw [dpF, chkM, if_neg (by omega), if_neg (by omega), if_neg (by simp), if_pos (by omega), chkKs, ih]
    by_cases hi : i < d
    . rw [if_pos hi, if_pos (by omega)]
      simp only [chkKs]
      congr 1; omega
    . rw [if_neg hi, if_neg (by omega)]
def dpS (i : Nat) : List UInt8 := txF (dpF i)
theorem dpS_zero : dpS 0 = [40, 97, 61, 42, 41] := by decide
theorem opT_slice (i : Nat) : opT ((i % 3 : Nat) : Int) = ([38, 124, 33].drop (i % 3)).take 1 := by
  rcases mod3 i with h | h | h <;> rw [h] <;> rfl
theorem dpS_succ (i : Nat) : dpS (i + 1) = ([40] ++ ([38, 124, 33].drop (i % 3)).take 1 ++ dpS i) ++ [41] := by
  have hm := Nat.mod_lt i (show 0 < 3 by omega)
  rw [dpS, dpF, txF, if_pos (by omega), opT_slice]
  simp [txFs, dpS]
theorem dpS_len (i : Nat) : (dpS i).length = 5 + 3 * i := by
  induction i with
  | zero => rw [dpS_zero]; rfl
  | succ i ih =>
    have hm := Nat.mod_lt i (show 0 < 3 by omega)
    rw [dpS_succ]
    simp only [List.length_append, List.length_take, List.length_drop, List.length_cons, List.length_nil, ih]; omega
theorem parse_chk {f : Fl} (hf : okF f) (hl : (txF f).length <= 4096) : flParse (txF f) = (match chkM 64 0 f with | .error e => .error e | .ok _ => .ok (bareF f)) := by
  have := text_read 64 0 f [] hf
  rw [List.append_nil] at this
  unfold flParse
  rw [if_neg (by omega), this]
  cases chkM 64 0 f with
  | error e => rfl
  | ok n => simp [thenF]
def parE (s : List UInt8) : Int := match flParse s with
  | .error e => e
  | .ok _ => 0
theorem parE_chk {f : Fl} (hf : okF f) (hl : (txF f).length <= 4096) : parE (txF f) = chkE f := by
  unfold parE chkE
  rw [parse_chk hf hl]
  cases chkM 64 0 f <;> rfl
theorem filt_ParseE (s : List UInt8) (hs : s.length <= 9223372036854775807) (h : Heap) (hT : Tabs h) : Spec Tryd.prog 9 [str s] h [] (fun u h' H' => (∃ f c, FlC h' f c /\ u = .tuple #[.agg c.toArray, .int .i64 (parE s)]) /\ H' = []) := by
  refine (filt_Parse s hs h hT).mono ?_
  rintro u h' H' ⟨hp, rfl⟩ _
  unfold parE
  cases hm : flParse s with
  | error e => rw [hm] at hp; exact ⟨⟨zF, _, zF_C _, hp⟩, rfl⟩
  | ok f => rw [hm] at hp; obtain ⟨c, hc, he⟩ := hp; exact ⟨⟨f, c, hc, he⟩, rfl⟩
theorem dpE (i : Nat) (hi : i <= 69) : chkE (dpF i) = (if 64 < i + 1 then 6 else 0) /\ parE (dpS i) = chkE (dpF i) := by
  have h1 := dpF_chk i 64 0 (by omega)
  refine ⟨?_, parE_chk (dpF_ok i) (by have := dpS_len i; unfold dpS at this; omega)⟩
  unfold chkE
  rw [h1]
  by_cases h : i < 64
  . rw [if_pos h, if_neg (by omega)]
  . rw [if_neg h, if_pos (by omega)]
def wdF (n : Nat) : Fl := .mk 1 [] [] [] (List.replicate n (.mk 0 [] [] [] []))
def wdT (n : Nat) : List UInt8 := [40, 124] ++ (List.replicate n [40, 38, 41]).flatten
theorem wdT_succ (n : Nat) : wdT (n + 1) = wdT n ++ [40, 38, 41] := by
  unfold wdT
  rw [List.replicate_succ', List.flatten_append]; simp
theorem wdT_len (n : Nat) : (wdT n).length = 2 + 3 * n := by
  induction n with
  | zero => rfl
  | succ n ih => rw [wdT_succ, List.length_append, ih]; simp; omega
theorem wd_ok (n : Nat) : okF (wdF n) := by
  have : ∀ n, okFs (List.replicate n (.mk 0 [] [] [] [])) := by
    intro n
    induction n with
    | zero => trivial
    | succ n ih => rw [List.replicate_succ]; refine ⟨?_, ih⟩; simp only [okF]; exact ⟨by decide, by decide, fun _ => ⟨fun h => absurd h (by decide), trivial⟩, fun h => absurd h (by decide)⟩
  simp only [wdF, okF]
  exact ⟨by decide, by decide, fun _ => ⟨fun h => absurd h (by decide), this n⟩, fun h => absurd h (by decide)⟩
theorem wd_tx (n : Nat) : txF (wdF n) = wdT n ++ [41] := by
  have : ∀ n, txFs (List.replicate n (.mk 0 [] [] [] [])) = (List.replicate n [40, 38, 41]).flatten := by
    intro n
    induction n with
    | zero => rfl
    | succ n ih => rw [List.replicate_succ, List.replicate_succ, txFs, ih]; rfl
  unfold wdF wdT
  rw [txF, if_pos (by decide), this]; rfl
theorem wd_chk : ∀ (k d n : Nat), n <= 1000 -> chkKs (chkM (d + 1)) n (List.replicate k (.mk 0 [] [] [] [])) = if n + k <= 1000 then .ok (n + k) else .error 9
  | 0, d, n, h => by simp [chkKs, h]
  | k + 1, d, n, h => by
    rw [List.replicate_succ, chkKs, chkM]
    by_cases h1 : 1000 < n + 1
    . rw [if_pos h1, if_neg (by omega)]
    . rw [if_neg h1, if_neg (by decide), if_neg (by decide), if_pos (by decide)]
      simp only [chkKs]
      rw [wd_chk k d (n + 1) (by omega)]
      by_cases h2 : n + 1 + k <= 1000
      . rw [if_pos h2, if_pos (by omega)]; congr 1; omega
      . rw [if_neg h2, if_neg (by omega)]
theorem wdE (n : Nat) (hn : n <= 1009) : chkE (wdF n) = (if 1000 < n + 1 then 9 else 0) /\ parE (wdT n ++ [41]) = chkE (wdF n) := by
  refine ⟨?_, by rw [<- wd_tx]; exact parE_chk (wd_ok n) (by rw [wd_tx, List.length_append, wdT_len]; simp; omega)⟩
  unfold chkE wdF
  rw [chkM, if_neg (by decide), if_neg (by decide), if_neg (fun e => absurd e.1 (by decide)), if_pos (by decide), wd_chk n 62 1 (by omega)]
  by_cases h : 1 + n <= 1000
  . rw [if_pos h, if_neg (by omega)]
  . rw [if_neg h, if_pos (by omega)]
theorem wd_C (h : Heap) : ∀ n, FlsC h (List.replicate n (.mk 0 [] [] [] [])) (List.replicate n [.int .i64 0, str [], str [], .slice none 0 0, .slice none 0 0])
  | 0 => FlsC.nil h
  | n + 1 => by
    rw [List.replicate_succ, List.replicate_succ]
    simp only [FlsC]
    exact ⟨_, _, rfl, zF_C h, wd_C h n⟩
set_option maxRecDepth 8000 in
set_option maxHeartbeats 4000000 in
theorem law_FiltDeep (dp mo : Int) (h1 : inR .i64 dp) (h2 : inR .i64 mo) (h : Heap) (hT : Tabs h) : Spec Tryd.prog 4 [.int .i64 dp, .int .i64 mo] h [] (fun u _ _ => u = .bool true) := by
  refine Spec.enter Tryd.func4 rfl rfl ?_; intro w0
  repeat' (first | (refine G.atCode ?_; refine G.stopLoop ?_) | (refine G.atCode ?_; first | refine G.seq ?_ | refine G.region ?_ | refine G.block ?_) | refine G.endOps ?_ | (refine G.atBin ?_; first | (refine G.atAdd ?_; first | refine G.arith rfl rfl rfl rfl rfl Zi ?_) | (refine G.atSub ?_; first | refine G.arith rfl rfl rfl rfl rfl Zi ?_) | (refine G.atRem ?_; first | (refine G.rem rfl rfl rfl rfl Zo ?_; intro _ _ _))) | refine G.op rfl rfl ?_ | (refine G.atSto ?_; refine G.storeOwn rfl rfl (tyy rfl) Za rfl rfl rfl rfl ?_) | (refine G.atAlc ?_; refine G.alloc (tyy rfl) rfl rfl ?_; intro _) | (refine G.atBld ?_; refine G.build (tyy rfl) rfl rfl rfl ?_) | (refine G.atConv ?_; first | refine G.conv rfl (tyy rfl) (tyy rfl) rfl Zi ?_ | (refine G.convW rfl (tyy rfl) (tyy rfl) rfl ?_; intro hcw; (try simp only [inR] at hcw))))
  rename_i gf
  obtain ⟨K, hK, hK70⟩ : ∃ K : Nat, IntKind.u64.wrap dp % 70 = K /\ K < 70 := ⟨(IntKind.u64.wrap dp % 70).toNat, by omega, by omega⟩
  refine G.go ?_
  refine G.loop (σ := Nat × List Value) (fun x => [(25, .int .i64 x.1), (24, .int .i64 K), (7, str (dpS x.1)), (6, .pointer (some ⟨gf, 0, none⟩)), (5, .int .i64 ((K : Int) + 1)), (1, .int .i64 mo)])
    (fun x => [.blk gf x.2 25]) (fun x h' => x.1 <= K /\ FlC h' (dpF x.1) x.2) (fun x => K - x.1) ⟨0, [.int .i64 7, str [97], str [], .slice none 0 0, .slice none 0 0]⟩ ⟨rfl, sint (by omega), by rw [dpS_zero]; rfl, rfl, sint (by omega), rfl, trivial⟩ Zu ⟨Nat.zero_le _, FlC.mk_ (HSl.nil _ 2) (HSl.nil _ 5) (FlsC.nil _)⟩ ?_
  rintro ⟨i, c⟩ h3 hle3 ⟨hi, hc3⟩
  simp only at hi hc3
  have hk3 := hc3
  obtain ⟨k9, a9, v9, A9, m9, q9, B9, p9, r9, rfl⟩ := hc3.shp
  have hdl := dpS_len i
  refine G.norm (by (try dsimp only) <;> exact rfl) (by (try dsimp only) <;> exact rfl) ?_
  by_cases hlt : i < K
  . have hm := Nat.mod_lt i (show 0 < 3 by omega)
    have hsl : List.take (((i : Int) % 3 + 1).toNat - ((i : Int) % 3).toNat) (List.drop ((i : Int) % 3).toNat ([38, 124, 33] : List UInt8)) = (([38, 124, 33] : List UInt8).drop (i % 3)).take 1 := by
      rw [show ((i : Int) % 3 + 1).toNat - ((i : Int) % 3).toNat = 1 by omega, show ((i : Int) % 3).toNat = i % 3 by omega]
    repeat' (first | (refine G.atCode ?_; first | refine G.seq ?_ | refine G.region ?_ | refine G.block ?_ | refine G.skip ?_ | (refine G.cond rfl ?_ ?_ <;> intro hc <;> (try simp only [tests, reduceCtorEq] at hc) <;> (try exact Zf))) | refine G.endOps ?_ | refine G.endBlk ?_ | (refine G.atBin ?_; first | (refine G.atAdd ?_; first | refine G.arith rfl rfl rfl rfl rfl Zi ?_ | refine G.catStr rfl rfl rfl Zo ?_) | (refine G.atRem ?_; first | (refine G.rem rfl rfl rfl rfl Zo ?_; intro _ _ _)) | refine G.op rfl rfl ?_) | refine G.op rfl rfl ?_ | (refine G.atLoad ?_; first | refine G.loadOwnA rfl (tyy rfl) rfl rfl Za rfl rfl ?_) | (refine G.atSto ?_; refine G.storeOwn rfl rfl (tyy rfl) Za rfl rfl rfl rfl ?_) | (refine G.atBld ?_; refine G.build (tyy rfl) rfl rfl rfl ?_) | (refine G.atBsl ?_; refine G.buildSlice (tyy rfl) (tyy rfl) rfl rfl rfl rfl ?_; intro _) | (refine G.atSlc ?_; first | refine G.sliceStr rfl rfl rfl (tyy rfl) rfl Zj Zj Zo rfl ?_))
    all_goals first | (exfalso; omega) | skip
    rename_i gk _ _ _ _ _ _
    refine G.freezeBlk (g := gk) Za ?_
    intro h4 hle4 hc4
    have hs4 : HSl h4 (.slice (some ⟨gk, 0, none⟩) 1 1) 5 [[.int .i64 k9, str a9, str v9, .slice A9 m9 q9, .slice B9 p9 r9]] := HSl.ofBlk1 (n := 1) hc4 (by intro r hr; simp only [List.mem_cons, List.mem_nil_iff, or_false] at hr; subst hr; rfl) rfl (by decide)
    exact G.again ⟨i + 1, [.int .i64 ((i % 3 : Nat) : Int), str [], str [], .slice none 0 0, .slice (some ⟨gk, 0, none⟩) 1 1]⟩ ⟨sint (by simp), rfl, sstr (by rw [dpS_succ, ← hsl]), rfl, rfl, rfl, trivial⟩ Zu ⟨by simp only; omega, FlC.mk_ (HSl.nil _ 2) hs4 (FlsC.one (hk3.mono' hle4))⟩ (by solve | repeat first | assumption | exact Zr _ | refine Zq ?_ Zp) (by simp only; omega)
  . obtain rfl : i = K := by omega
    have hdE := dpE i (by omega)
    have hpe : parE (dpS i) = (if 64 < i + 1 then 6 else 0) := hdE.2.trans hdE.1
    have hpe : 64 < i + 1 /\ parE (dpS i) = 6 \/ ¬ 64 < i + 1 /\ parE (dpS i) = 0 := by
      by_cases hk : 64 < i + 1
      . rw [if_pos hk] at hpe; exact .inl ⟨hk, hpe⟩
      . rw [if_neg hk] at hpe; exact .inr ⟨hk, hpe⟩
    rcases hpe with ⟨hk, hpe⟩ | ⟨hk, hpe⟩
    all_goals
      have hcE := hdE.2.symm.trans hpe
      repeat' (first | (show G _ (.ops .seq _ (⟨some _, .call { callee := .value (.func 9), args := _, argTypes := _ }, _, _, _, none⟩ :: _) :: _) _ _ _; refine G.call callFParse rfl rfl (filt_ParseE _ (by omega) _ (hT.mono (by solve | repeat first | assumption | exact Zr _ | refine Zq ?_ Zp))) Ze ?_; rintro _ h5 H5 ⟨⟨f5, c5, hc5, rfl⟩, rfl⟩ hle5; rw [hpe]; obtain ⟨k5, a5, v5, A5, m5, q5, B5, p5, r5, rfl⟩ := hc5.shp) | (show G _ (.ops .seq _ (⟨some _, .call { callee := .value (.func 13), args := _, argTypes := _ }, _, _, _, none⟩ :: _) :: _) _ _ _; refine G.call callFCheck rfl rfl (filt_Check _ _ _ (hk3.mono' (by solve | repeat first | assumption | exact Zr _ | refine Zq ?_ Zp))) Ze ?_; rintro _ h6 H6 ⟨rfl, rfl⟩ hle6; rw [hcE]) | (refine G.atCode ?_; refine G.stopLoop ?_) | (refine G.atCode ?_; first | refine G.seq ?_ | refine G.region ?_ | refine G.block ?_ | refine G.skip ?_ | refine G.exit rfl ?_ | refine G.ret ?_ | (refine G.cond rfl ?_ ?_ <;> intro hc <;> (try simp only [tests, reduceCtorEq] at hc) <;> (try exact Zf))) | refine G.endOps ?_ | (refine G.atGd ?_; first | refine G.guardYes rfl rfl ?_ | refine G.guardNoS rfl rfl rfl ?_ | (refine G.guardS rfl rfl rfl ?_ ?_ <;> intro hc <;> (try simp only [tests, reduceCtorEq] at hc) <;> (try exact Zf))) | (refine G.atBin ?_; first | (refine G.atAdd ?_; first | refine G.arith rfl rfl rfl rfl rfl Zi ?_) | (refine G.atEql ?_; first | refine G.op rfl rfl ?_) | (refine G.atNeq ?_; first | refine G.op rfl rfl ?_ | refine G.neBool rfl rfl (tyy rfl) rfl ?_) | (refine G.atRem ?_; first | (refine G.rem rfl rfl rfl rfl Zo ?_; intro _ _ _)) | refine G.op rfl rfl ?_) | refine G.op rfl rfl ?_ | (refine G.atLoad ?_; first | refine G.loadOwnA rfl (tyy rfl) rfl rfl Za rfl rfl ?_) | (refine G.atSto ?_; refine G.storeOwn rfl rfl (tyy rfl) Za rfl rfl rfl rfl ?_) | (refine G.atAlc ?_; refine G.alloc (tyy rfl) rfl rfl ?_; intro _) | (refine G.atBld ?_; refine G.build (tyy rfl) rfl rfl rfl ?_) | (refine G.atConv ?_; first | refine G.conv rfl (tyy rfl) (tyy rfl) rfl Zi ?_ | (refine G.convW rfl (tyy rfl) (tyy rfl) rfl ?_; intro hcw; (try simp only [inR] at hcw))))
      all_goals first | (exfalso; omega) | (exfalso; rename_i q; exact q (decide_eq_decide.2 ⟨fun _ => by first | trivial | omega, fun _ => by omega⟩)) | skip
      rename_i gw
      obtain ⟨M, hM, hM20⟩ : ∃ M : Nat, IntKind.u64.wrap mo % 20 = M /\ M < 20 := ⟨(IntKind.u64.wrap mo % 20).toNat, by omega, by omega⟩
      refine G.nilRow 25 5 ?_
      refine G.go ?_
      refine G.loop (σ := Nat × Option Addr × Nat) (fun x => [(74, .int .i64 x.1), (73, .int .i64 (990 + M : Nat)), (13, str (wdT x.1)), (12, .pointer (some ⟨gw, 0, none⟩)), (11, .int .i64 (990 + M : Nat))])
        (fun x => [.blk gw [.int .i64 1, str [], str [], .slice none 0 0, .slice x.2.1 x.1 x.2.2] 25, .row (.slice x.2.1 x.1 x.2.2) 25 5 (List.replicate x.1 [.int .i64 0, str [], str [], .slice none 0 0, .slice none 0 0])])
        (fun x _ => x.1 <= 990 + M) (fun x => 990 + M - x.1) ⟨0, none, 0⟩ ⟨rfl, sint (by omega), rfl, rfl, sint (by omega), trivial⟩ Zu (Nat.zero_le _) ?_
      rintro ⟨j, A, c⟩ h7 hle7 hj
      simp only at hj
      have hwl := wdT_len j
      have hrl : (List.replicate j [Value.int .i64 0, str [], str [], .slice none 0 0, .slice none 0 0]).length = j := List.length_replicate
      refine G.norm (by (try dsimp only) <;> exact rfl) (by (try dsimp only) <;> exact rfl) ?_
      by_cases hlt : j < 990 + M
      . have hrep : List.replicate j [Value.int .i64 0, str [], str [], .slice none 0 0, .slice none 0 0] ++ [[Value.int .i64 0, .string ⟨#[]⟩, .string ⟨#[]⟩, .slice none 0 0, .slice none 0 0]] = List.replicate (j + 1) [Value.int .i64 0, str [], str [], .slice none 0 0, .slice none 0 0] := List.replicate_succ'.symm
        repeat' (first | (refine G.atCode ?_; first | refine G.seq ?_ | refine G.region ?_ | refine G.block ?_ | refine G.skip ?_ | (refine G.cond rfl ?_ ?_ <;> intro hc <;> (try simp only [tests, reduceCtorEq] at hc) <;> (try exact Zf))) | refine G.endOps ?_ | refine G.endBlk ?_ | (refine G.atBin ?_; first | (refine G.atAdd ?_; first | refine G.arith rfl rfl rfl rfl rfl Zi ?_ | refine G.catStr rfl rfl rfl Zo ?_) | refine G.op rfl rfl ?_) | refine G.op rfl rfl ?_ | (refine G.atLoad ?_; first | refine G.loadOwn1 rfl (tyy rfl) rfl rfl Za rfl rfl ?_) | (refine G.atFld ?_; first | refine G.fieldAddr rfl (tyy rfl) rfl rfl ?_) | (refine G.atSto ?_; refine G.storeOwn rfl rfl (tyy rfl) Za rfl rfl rfl rfl ?_) | (refine G.atBld ?_; refine G.build (tyy rfl) rfl rfl rfl ?_) | (refine G.atBsl ?_; refine G.buildSlice (tyy rfl) (tyy rfl) rfl rfl rfl rfl ?_; intro _) | (refine G.atApp ?_; first | (refine G.append1 rfl rfl (tyy rfl) (tyy rfl) rfl rfl Za Za rfl rfl rfl Zo ?_; intro _; refine G.rowForm Take.hd ?_; rintro _ _ rfl)))
        all_goals first | (exfalso; omega) | skip
        rename_i A' c'
        rw [hrep, List.length_replicate]
        exact G.again ⟨j + 1, A', c'⟩ ⟨sint (by simp), rfl, sstr (wdT_succ j).symm, rfl, rfl, trivial⟩ Zu (by simp only; omega) (by solve | repeat first | assumption | exact Zr _ | refine Zq ?_ Zp) (by simp only; omega)
      . obtain rfl : j = 990 + M := by omega
        have hwE := wdE (990 + M) (by omega)
        have hpw : 1000 < 990 + M + 1 /\ parE (wdT (990 + M) ++ [41]) = 9 \/ ¬ 1000 < 990 + M + 1 /\ parE (wdT (990 + M) ++ [41]) = 0 := by
          have hpe := hwE.2.trans hwE.1
          by_cases hk : 1000 < 990 + M + 1
          . rw [if_pos hk] at hpe; exact .inl ⟨hk, hpe⟩
          . rw [if_neg hk] at hpe; exact .inr ⟨hk, hpe⟩
        refine G.freezeRow (v := .slice A (990 + M) c) Za ?_
        intro h8 hle8 hs8
        have hwf : FlC h8 (wdF (990 + M)) [.int .i64 1, str [], str [], .slice none 0 0, .slice A (990 + M) c] := by
          have hl8 : (.slice A (990 + M) c : Value) = .slice A (List.replicate (990 + M) (Fl.mk 0 [] [] [] [])).length c := by rw [List.length_replicate]
          exact FlC.mk_ (HSl.nil _ 2) hs8 (wd_C h8 _)
        rcases hpw with ⟨hw, hpw⟩ | ⟨hw, hpw⟩
        all_goals
          have hcW := hwE.2.symm.trans hpw
          repeat' (first | (show G _ (.ops .seq _ (⟨some _, .call { callee := .value (.func 9), args := _, argTypes := _ }, _, _, _, none⟩ :: _) :: _) _ _ _; refine G.call callFParse rfl rfl (filt_ParseE _ (by simp only [List.length_append, List.length_cons, List.length_nil]; omega) _ (hT.mono (by solve | repeat first | assumption | exact Zr _ | refine Zq ?_ Zp))) Ze ?_; rintro _ h9 H9 ⟨⟨f9, c9, hc9, rfl⟩, rfl⟩ hle9; rw [hpw]; obtain ⟨k9, a9, v9, A9, m9, q9, B9, p9, r9, rfl⟩ := hc9.shp) | (show G _ (.ops .seq _ (⟨some _, .call { callee := .value (.func 13), args := _, argTypes := _ }, _, _, _, none⟩ :: _) :: _) _ _ _; refine G.call callFCheck rfl rfl (filt_Check _ _ _ (hwf.mono' (by solve | repeat first | assumption | exact Zr _ | refine Zq ?_ Zp))) Ze ?_; rintro _ h6 H6 ⟨rfl, rfl⟩ hle6; rw [hcW]) | (show G _ (.ops .seq _ (⟨some _, .call { callee := .value (.func 11), args := _, argTypes := _ }, _, _, _, none⟩ :: _) :: _) _ _ _; refine G.call callAwake10 rfl rfl (law10_awake _ (hT.mono (by solve | repeat first | assumption | exact Zr _ | refine Zq ?_ Zp))) Ze ?_; rintro _ h4 H4 ⟨rfl, rfl⟩ hle4) | (refine G.atCode ?_; first | refine G.seq ?_ | refine G.region ?_ | refine G.skip ?_ | refine G.exit rfl ?_ | refine G.ret ?_ | (refine G.cond rfl ?_ ?_ <;> intro hc <;> (try simp only [tests, reduceCtorEq] at hc) <;> (try exact Zf))) | refine G.endOps ?_ | (refine G.atGd ?_; first | refine G.guardYes rfl rfl ?_) | (refine G.atBin ?_; first | (refine G.atAdd ?_; first | refine G.arith rfl rfl rfl rfl rfl Zi ?_ | refine G.catStr rfl rfl rfl Zo ?_) | (refine G.atEql ?_; first | refine G.op rfl rfl ?_) | refine G.op rfl rfl ?_) | refine G.op rfl rfl ?_ | (refine G.atLoad ?_; first | refine G.loadOwnA rfl (tyy rfl) rfl rfl Za rfl rfl ?_) | (refine G.atSto ?_; refine G.storeOwn rfl rfl (tyy rfl) Za rfl rfl rfl rfl ?_) | (refine G.atAlc ?_; refine G.alloc (tyy rfl) rfl rfl ?_; intro _))
          all_goals first | (exfalso; omega) | exact G.done1 rfl rfl [] (SubH.nil _) (by solve | rfl | simp) | (exfalso; simp_all; done) | skip
end Go.Proofs.YtcghcdnmpjhifaaDoor
