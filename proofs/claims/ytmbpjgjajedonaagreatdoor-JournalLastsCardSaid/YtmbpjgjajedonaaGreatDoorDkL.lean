/- The document's disk: New, Lay, lose, fails. -/
import Derived.Test.YtmbpjgjajedonaaGreatDoorDkI
namespace Go.Proofs.YtmbpjgjajedonaaGreatDoor
set_option linter.all false
set_option maxRecDepth 4000
open Go.RowKit

set_option maxRecDepth 8000 in
set_option maxHeartbeats 1000000 in
theorem refd_New (n : Int) (h : Heap) : Spec Tryz.prog 8 [.int .i64 n] h [] (fun u _ H' => ∃ r lv wv, u = .pointer (some ⟨r, 0, none⟩) /\ H' = rkC r lv wv (.slice none 0 0) false 0 [] (newM n) (newM n).lasts (waitL (newM n))) := by
  have hd : newM n = ⟨layM (max 0 (min n 8192)).toNat [], [], 0, max 0 (min n 8192), false, 0, ⟨0, 0, 0⟩⟩ := rfl
  have hwl : waitL (newM n) = List.replicate (max 0 (min n 8192)).toNat [] := by
    apply List.ext_getElem
    . rw [waitL_len, hd]; simp [layM]
    . intro i h1 h2; simp [waitL, waitAt, hd, wGet]
  rw [hwl, hd]
  clear hwl hd
  have e128 : ∀ i, List.replicate 128 0 = layAt [] i := fun i => by simp [layAt]
  refine Spec.enter Tryz.func8 rfl rfl ?_; intro w0
  repeat' (first | (refine G.atCode ?_; refine G.stopLoop ?_) | (refine G.atCode ?_; first | refine G.seq ?_ | refine G.region ?_ | refine G.block ?_ | refine G.skip ?_ | refine G.drawAuto mixedOk rfl Zw ?_ | refine G.drawAll slB Zw mixedOk Zw ?_ | refine G.anyIn mixedOk ?_ | refine G.exit rfl ?_ | refine G.ret ?_ | (refine G.cond rfl ?_ ?_ <;> intro hc <;> (try simp only [tests, reduceCtorEq] at hc) <;> (try exact Zf))) | refine G.endOps ?_ | refine G.endStill ?_ | refine G.endHeld ?_ | refine G.back ?_ | refine G.endBlk ?_ | (refine G.atAny ?_; first | refine G.anyAutoX slB rfl rfl Zw Zg Zd ?_ | refine G.anyOne rfl Zw Zg Zu ?_ | refine G.anyAuto slB rfl Zw Zg Zu ?_ | refine G.anyEndX Zw ?_ | refine G.anyEnd Zw Zg Zu ?_ | refine G.anyTwo rfl Zw Zg Zu ?_ ?_) | (refine G.atGd ?_; first | refine G.guardYes rfl rfl ?_ | refine G.guardNoS rfl rfl rfl ?_ | refine G.guardU rfl rfl rfl ?_ | (refine G.guardS rfl rfl rfl ?_ ?_ <;> intro hc <;> (try simp only [tests, reduceCtorEq] at hc) <;> (try exact Zf)) | refine G.guardNo rfl rfl ?_ (by rintro i ⟨⟩; rfl) | (refine G.guard rfl rfl ?_ ?_ (by rintro i ⟨⟩; rfl) <;> intro hc <;> (try simp only [tests, reduceCtorEq] at hc) <;> (try exact Zf))) | (refine G.atBin ?_; first | (refine G.atAdd ?_; first | refine G.arith rfl rfl rfl rfl rfl Zi ?_ | refine G.catStr rfl rfl rfl Zo ?_ | refine G.op rfl rfl ?_) | refine G.op rfl rfl ?_ ) | refine G.op rfl rfl ?_ | (refine G.atLoad ?_; first | refine G.loadOwn1 rfl (tyy rfl) rfl rfl Za rfl rfl ?_ | refine G.loadOwnA rfl (tyy rfl) rfl rfl Za rfl rfl ?_ | refine G.loadImm1 rfl (tyy rfl) rfl rfl Zp rfl ?_ | refine G.loadImmA rfl (tyy rfl) rfl rfl Zp Zp rfl ?_ | refine G.loadRowS rfl (tyy rfl) Zp Za Zo rfl ?_ | (refine G.loadRowB rfl (tyy rfl) Zp Za Zo rfl ?_; intro _)) | (refine G.atFld ?_; first | refine G.fieldAddr rfl (tyy rfl) rfl rfl ?_ | refine G.fieldAddrP rfl (tyy rfl) rfl rfl ?_) | (refine G.atSto ?_; refine G.storeOwn rfl rfl (tyy rfl) Za rfl rfl rfl rfl ?_) | (refine G.atBox ?_; refine G.box rfl rfl rfl ?_; intro _) | (refine G.atBld ?_; refine G.build (tyy rfl) rfl rfl rfl ?_) | (refine G.atBsl ?_; refine G.buildSlice (tyy rfl) (tyy rfl) rfl rfl rfl rfl ?_; intro _) | (refine G.atApp ?_; first | (refine G.append1S rfl rfl (tyy rfl) (tyy rfl) rfl rfl Za Za rfl Zo ?_; intro _) | (refine G.appendImmS rfl rfl (tyy rfl) (tyy rfl) rfl rfl Za Zl rfl Zo ?_; intro _) | (refine G.append1B rfl rfl (tyy rfl) (tyy rfl) rfl rfl Za Za rfl Zo Zo ?_; intro _) | (refine G.appendStr rfl rfl (tyy rfl) (tyy rfl) (tyy rfl) rfl rfl Za rfl Zo ?_; intro _) | (refine G.append1 rfl rfl (tyy rfl) (tyy rfl) rfl rfl Za Za rfl rfl rfl Zo ?_; intro _; refine G.rowForm Take.hd ?_; rintro _ _ rfl))    )
  rename_i r
  refine G.nilRow 91 3 ?_
  refine G.nilRow 9 1 ?_
  refine G.nilRow 9 1 ?_
  refine G.go ?_
  refine G.loop (σ := Nat × Value × Value) (fun x => [(4, .int .i64 x.1), (3, .pointer (some ⟨r, 0, none⟩)), (0, .int .i64 n)])
    (fun x => [.blk r [x.2.1, x.2.2, .bool false, .int .i64 0, .bool false, .int .i64 0, .int .u64 0, .int .i64 0, .int .i64 0, .slice none 0 0] 68, .row x.2.1 9 1 (strsR ((List.range x.1).map (layAt []))), .row x.2.2 9 1 (strsR (List.replicate x.1 [])), .row (.slice none 0 0) 91 3 []])
    (fun x _ => x.1 <= 8192 /\ (x.1 : Int) <= max 0 n) (fun x => 8192 - x.1) ⟨0, .slice none 0 0, .slice none 0 0⟩ ⟨rfl, rfl, rfl, trivial⟩ Zu ⟨by omega, by simp only; omega⟩ ?_
  rintro ⟨i, lv, wv⟩ h1 hle1 ⟨hi, hi2⟩
  simp only at hi hi2
  refine G.norm (by (try dsimp only) <;> exact rfl) (by (try dsimp only) <;> exact rfl) ?_
  have hl9 : ((List.range i).map (layAt [])).length = i := by simp
  have hs9 : (List.range i).map (layAt []) ++ [List.replicate 128 0] = (List.range (i + 1)).map (layAt []) := by rw [List.range_succ, List.map_append, e128 i]; rfl
  generalize hL9 : (List.range i).map (layAt []) = L9 at *
  have hl8 : (List.replicate i ([] : List UInt8)).length = i := by simp
  have hs8 : List.replicate i ([] : List UInt8) ++ [[]] = List.replicate (i + 1) [] := by rw [List.replicate_succ']
  generalize hL8 : List.replicate i ([] : List UInt8) = L8 at *
  have hend : ¬ ((i : Int) < n /\ (i : Int) < 8192) -> (max 0 (min n 8192)).toNat = i := fun _ => by omega
  repeat' (first | (show G _ (.ops .seq _ (⟨some _, .call { callee := .value (.func 35), args := _, argTypes := _ }, _, _, _, none⟩ :: _) :: _) _ _ _; refine G.call callBlank rfl rfl (ref_Blank 128 (by omega) _) Ze ?_; rintro _ h2 H2 ⟨rfl, rfl⟩ hle2) | (refine G.atApp ?_; refine G.append1S rfl rfl (tyy rfl) (tyy rfl) rfl rfl Za Za rfl Zo ?_; intro _; refine G.rowForm Take.hd ?_; rintro _ _ rfl) | (refine G.atCode ?_; first | refine G.seq ?_ | refine G.region ?_ | refine G.block ?_ | refine G.skip ?_ | refine G.drawAuto mixedOk rfl Zw ?_ | refine G.drawAll slB Zw mixedOk Zw ?_ | refine G.anyIn mixedOk ?_ | refine G.exit rfl ?_ | refine G.ret ?_ | (refine G.cond rfl ?_ ?_ <;> intro hc <;> (try simp only [tests, reduceCtorEq] at hc) <;> (try exact Zf))) | refine G.endOps ?_ | refine G.endStill ?_ | refine G.endHeld ?_ | refine G.back ?_ | refine G.endBlk ?_ | (refine G.atAny ?_; first | refine G.anyAutoX slB rfl rfl Zw Zg Zd ?_ | refine G.anyOne rfl Zw Zg Zu ?_ | refine G.anyAuto slB rfl Zw Zg Zu ?_ | refine G.anyEndX Zw ?_ | refine G.anyEnd Zw Zg Zu ?_ | refine G.anyTwo rfl Zw Zg Zu ?_ ?_) | (refine G.atGd ?_; first | refine G.guardYes rfl rfl ?_ | refine G.guardNoS rfl rfl rfl ?_ | refine G.guardU rfl rfl rfl ?_ | (refine G.guardS rfl rfl rfl ?_ ?_ <;> intro hc <;> (try simp only [tests, reduceCtorEq] at hc) <;> (try exact Zf)) | refine G.guardNo rfl rfl ?_ (by rintro i ⟨⟩; rfl) | (refine G.guard rfl rfl ?_ ?_ (by rintro i ⟨⟩; rfl) <;> intro hc <;> (try simp only [tests, reduceCtorEq] at hc) <;> (try exact Zf))) | (refine G.atBin ?_; first | (refine G.atAdd ?_; first | refine G.arith rfl rfl rfl rfl rfl Zi ?_ | refine G.catStr rfl rfl rfl Zo ?_ | refine G.op rfl rfl ?_) | refine G.op rfl rfl ?_ ) | refine G.op rfl rfl ?_ | (refine G.atLoad ?_; first | refine G.loadOwn1 rfl (tyy rfl) rfl rfl Za rfl rfl ?_ | refine G.loadOwnA rfl (tyy rfl) rfl rfl Za rfl rfl ?_ | refine G.loadImm1 rfl (tyy rfl) rfl rfl Zp rfl ?_ | refine G.loadImmA rfl (tyy rfl) rfl rfl Zp Zp rfl ?_ | refine G.loadRowS rfl (tyy rfl) Zp Za Zo rfl ?_ | (refine G.loadRowB rfl (tyy rfl) Zp Za Zo rfl ?_; intro _)) | (refine G.atFld ?_; first | refine G.fieldAddr rfl (tyy rfl) rfl rfl ?_ | refine G.fieldAddrP rfl (tyy rfl) rfl rfl ?_) | (refine G.atSto ?_; refine G.storeOwn rfl rfl (tyy rfl) Za rfl rfl rfl rfl ?_) | (refine G.atBox ?_; refine G.box rfl rfl rfl ?_; intro _) | (refine G.atBld ?_; refine G.build (tyy rfl) rfl rfl rfl ?_) | (refine G.atBsl ?_; refine G.buildSlice (tyy rfl) (tyy rfl) rfl rfl rfl rfl ?_; intro _) | (refine G.atApp ?_; first | (refine G.append1S rfl rfl (tyy rfl) (tyy rfl) rfl rfl Za Za rfl Zo ?_; intro _) | (refine G.appendImmS rfl rfl (tyy rfl) (tyy rfl) rfl rfl Za Zl rfl Zo ?_; intro _) | (refine G.append1B rfl rfl (tyy rfl) (tyy rfl) rfl rfl Za Za rfl Zo Zo ?_; intro _) | (refine G.appendStr rfl rfl (tyy rfl) (tyy rfl) (tyy rfl) rfl rfl Za rfl Zo ?_; intro _) | (refine G.append1 rfl rfl (tyy rfl) (tyy rfl) rfl rfl Za Za rfl rfl rfl Zo ?_; intro _; refine G.rowForm Take.hd ?_; rintro _ _ rfl))    )
  . rw [hs9, hs8]
    exact G.again ⟨i + 1, _, _⟩ ⟨sint (by simp), rfl, rfl, trivial⟩ Zu ⟨by simp only; omega, by simp only; omega⟩ hle2 (by simp only; omega)
  all_goals (
    have hK := hend (by omega)
    unfold rkC
    simp only [layM]
    rw [hK, hL8, hL9]
    exact G.done1 rfl rfl _ Zu ⟨_, _, _, rfl, rfl⟩)

theorem ref_BlankI (n : Int) (hn : 0 <= n /\ n <= 1000000) (h : Heap) : Spec Tryz.prog 35 [.int .i64 n] h [] (fun u _ H' => u = str (List.replicate n.toNat 0) /\ H' = []) := by
  obtain ⟨k, rfl⟩ := Int.eq_ofNat_of_zero_le hn.1
  exact ref_Blank k (by omega) h
theorem strsR_put0 (L : List (List UInt8)) (i : Nat) : (strsR L).set i [Value.string ⟨#[]⟩] = strsR (L.set i []) := strsR_put L i []
theorem waitL_nil {D : Dk} (h : D.W = []) : waitL D = List.replicate D.lasts.length [] := by
  apply List.ext_getElem
  . simp [waitL]
  . intro i h1 h2; simp [waitL, waitAt, h, wGet]
theorem upTo_nils (L : List (List UInt8)) : upTo (fun _ => []) L L.length = List.replicate L.length [] := by
  rw [upTo_end]
  apply List.ext_getElem
  . simp
  . intro i h1 h2; simp
end Go.Proofs.YtmbpjgjajedonaaGreatDoor
namespace Go.Proofs.YtmbpjgjajedonaaGreatDoor
set_option linter.all false
set_option maxRecDepth 4000
open Go.RowKit

theorem waitL_put {D : Dk} {i : Nat} (hi : i < D.lasts.length) (s : List UInt8) : waitL (putD D (i : Nat) s) = (waitL D).set i s := by
  apply List.ext_getElem
  . simp [waitL, putD]
  . intro j h1 h2
    simp only [waitL, putD, waitAt, List.getElem_map, List.getElem_range, List.getElem_set, wPut_get]
    by_cases h : i = j
    . subst h; simp
    . rw [if_neg (by omega), if_neg h]
end Go.Proofs.YtmbpjgjajedonaaGreatDoor
namespace Go.Proofs.YtmbpjgjajedonaaGreatDoor
set_option linter.all false
set_option maxRecDepth 4000
open Go.RowKit

theorem Shp.lim {lim : Bool} {most : Int} {D D' : Dk} (h : Shp D D') (l : LimR lim most D) : LimR lim most D' := by
  unfold LimR at *
  rw [h.1, h.2]; exact l
structure AV where
  d : Int
  i : Int
  n : Int
  data : List UInt8
  loss : Ls
def AV.vals (a : AV) : List Value := [.int .i64 a.d, .int .i64 a.i, .int .i64 a.n, str a.data, .int .u64 a.loss.keep, .int .i64 a.loss.torn, .int .i64 a.loss.pos]
structure AV.Ok (a : AV) : Prop where
  n : a.n <= 9223372036854775807
  s : a.data.length <= 9223372036854775807
  l : a.loss.keep < 18446744073709551616 /\ inR .i64 a.loss.pos
structure DI (lim : Bool) (most : Int) (T : List (List Value)) (b : Nat) (D : Dk) : Prop where
  ok : D.Ok
  wk : D.Wk
  lr : LimR lim most D
  t : T.length <= b
end Go.Proofs.YtmbpjgjajedonaaGreatDoor
