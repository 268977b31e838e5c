/- Package page: the document's Take; the two agree. -/
import Derived.Test.YtpcfnhjeacahdaaPgM
namespace Go.Proofs.Ytpcfnhjeacahdaa
set_option linter.all false
open Go.RowKit

def hit (conn : Int) (ck : List UInt8) (p : Pl) : Bool := isC conn p && decide (putB p.num.toNat 8 = ck)
def rStep1 (conn : Int) (ck key : List UInt8) (ver : Int) (a : Int × Bool) (p : Pl) : Int × Bool := if hit conn ck p = true ∧ p.key = key ∧ p.ver = ver then (p.pos, true) else a
def rAns (L : List Pl) (conn : Int) (ck key : List UInt8) (ver : Int) : Int × Bool := L.foldl (rStep1 conn ck key ver) (0, false)
theorem rAns_take (L : List Pl) (conn : Int) (ck key : List UInt8) (ver : Int) {i : Nat} (h : i < L.length) : rAns (L.take (i + 1)) conn ck key ver = rStep1 conn ck key ver (rAns (L.take i) conn ck key ver) (L[i]'h) := by
  unfold rAns
  rw [List.take_succ_eq_append_getElem h, List.foldl_append]; rfl
def rLeft (L : List Pl) (conn : Int) (ck : List UInt8) : List Pl := L.filter fun p => !hit conn ck p

set_option maxRecDepth 8000 in
set_option maxHeartbeats 1000000 in
theorem ref26_Take (b : Nat) (last : Int) (v : Value) (L : List Pl) (conn : Int) (ck key : List UInt8) (ver : Int) (hL : L.length ≤ 1000) (hN : ∀ p ∈ L, 1 ≤ p.num ∧ p.num ≤ 4611686018427387904) (h : Heap) :
    Spec Try.prog 17 [.pointer (some ⟨b, 0, none⟩), .int .i64 conn, str ck, str key, .int .i64 ver] h [.blk b [.int .i64 last, v] 36, .row v 86 5 (plsQ L)]
      (fun u _ H' => u = .tuple #[.int .i64 (rAns L conn ck key ver).1, .bool (rAns L conn ck key ver).2] ∧ ∃ v', H' = [.blk b [.int .i64 last, v'] 36, .row v' 86 5 (plsQ (rLeft L conn ck))]) := by
  have hpl : (plsQ L).length = L.length := plsQ_length L
  refine Spec.enter Try.func17 rfl rfl ?_; intro w0
  repeat' (first | (refine G.atCode ?_; refine G.stopLoop ?_) | (refine G.atCode ?_; first | refine G.seq ?_ | refine G.region ?_ | refine G.block ?_ | refine G.skip ?_ | refine G.exit rfl ?_ | refine G.ret ?_ | (refine G.cond rfl ?_ ?_ <;> intro hc <;> (try simp only [tests, reduceCtorEq] at hc) <;> (try (exfalso; first | omega | exact absurd hc (by with_reducible assumption) | exact absurd (by with_reducible assumption) hc | exact Bool.noConfusion hc | exact hc | exact hc trivial | fail)))) | refine G.endOps ?_ | refine G.endStill ?_ | refine G.endHeld ?_ | refine G.back ?_ | refine G.endBlk ?_ | (refine G.atGd ?_; first | refine G.guardYes rfl rfl ?_ | refine G.guardNoS rfl rfl rfl ?_ | refine G.guardU rfl rfl rfl ?_ | (refine G.guardS rfl rfl rfl ?_ ?_ <;> intro hc <;> (try simp only [tests, reduceCtorEq] at hc) <;> (try (exfalso; first | omega | exact absurd hc (by with_reducible assumption) | exact absurd (by with_reducible assumption) hc | exact Bool.noConfusion hc | exact hc | exact hc trivial | fail))) | refine G.guardNo rfl rfl ?_ (by rintro i ⟨⟩; rfl) | (refine G.guard rfl rfl ?_ ?_ (by rintro i ⟨⟩; rfl) <;> intro hc <;> (try simp only [tests, reduceCtorEq] at hc) <;> (try (exfalso; first | omega | exact absurd hc (by with_reducible assumption) | exact absurd (by with_reducible assumption) hc | exact Bool.noConfusion hc | exact hc | exact hc trivial | fail)))) | (refine G.atBin ?_; first | (refine G.atAdd ?_; first | refine G.arith rfl rfl rfl rfl rfl (by simp only [inR]; omega) ?_ | refine G.catStr rfl rfl rfl (by first | omega | (simp only [lens] at *; omega)) ?_ | refine G.op rfl rfl ?_) | (refine G.atEql ?_; first | refine G.op rfl rfl ?_ | refine G.eqStr0 rfl rfl rfl ?_ | refine G.eqStr rfl rfl rfl ?_ | refine G.eqPtr rfl rfl (tyy rfl) rfl ?_ | refine G.eqBool rfl rfl (tyy rfl) rfl ?_) | (refine G.atNeq ?_; first | refine G.op rfl rfl ?_ | refine G.neStr0 rfl rfl rfl ?_ | refine G.neStr rfl rfl rfl ?_ | refine G.nePtr rfl rfl (tyy rfl) rfl ?_ | refine G.neBool rfl rfl (tyy rfl) rfl ?_) | refine G.op rfl rfl ?_ ) | refine G.op rfl rfl ?_ | (refine G.atLen ?_; first | refine G.lenStr rfl (tyy rfl) rfl ?_ | refine G.lenSlice rfl (tyy rfl) rfl ?_ | refine G.lenRowB rfl (tyy rfl) (by solve | (repeat (first | apply Take.hd | apply Take.tl))) rfl ?_ | refine G.lenRowS rfl (tyy rfl) (by solve | (repeat (first | apply Take.hd | apply Take.tl))) rfl ?_ | refine G.lenRow rfl (tyy rfl) (by solve | (repeat (first | apply Take.hd | apply Take.tl))) rfl ?_ | refine G.lenImmB rfl (tyy rfl) (by solve | (repeat (first | assumption | (apply HSl.mono; rotate_left; assumption)))) rfl ?_ | refine G.lenImmI rfl (tyy rfl) (by solve | (repeat (first | assumption | (apply HSl.mono; rotate_left; assumption)))) rfl ?_ | refine G.lenImmS rfl (tyy rfl) (by solve | (repeat (first | assumption | (apply HSl.mono; rotate_left; assumption)))) rfl ?_ | refine G.lenImm rfl (tyy rfl) (by solve | (repeat (first | assumption | (apply HSl.mono; rotate_left; assumption)))) rfl ?_) | (refine G.atLoad ?_; first | refine G.loadOwn1 rfl (tyy rfl) rfl rfl (by solve | (repeat (first | apply Take.hd | apply Take.tl))) rfl rfl ?_ | refine G.loadOwnA rfl (tyy rfl) rfl rfl (by solve | (repeat (first | apply Take.hd | apply Take.tl))) rfl rfl ?_ | refine G.loadImm1 rfl (tyy rfl) rfl rfl (by assumption) rfl ?_ | refine G.loadImmA rfl (tyy rfl) rfl rfl (by assumption) (by assumption) rfl ?_ | refine G.loadRowS rfl (tyy rfl) (by assumption) (by solve | (repeat (first | apply Take.hd | apply Take.tl))) (by first | omega | (simp only [lens] at *; omega)) rfl ?_ | (refine G.loadRowB rfl (tyy rfl) (by assumption) (by solve | (repeat (first | apply Take.hd | apply Take.tl))) (by first | omega | (simp only [lens] at *; omega)) rfl ?_; intro _)) | (refine G.atFld ?_; first | refine G.fieldAddr rfl (tyy rfl) rfl rfl ?_ | refine G.fieldAddrP rfl (tyy rfl) rfl rfl ?_) | (refine G.atSto ?_; refine G.storeOwn rfl rfl (tyy rfl) (by solve | (repeat (first | apply Take.hd | apply Take.tl))) rfl rfl rfl rfl ?_) | (refine G.atAlc ?_; refine G.alloc (tyy rfl) rfl rfl ?_; intro _) | (refine G.atBsl ?_; refine G.buildSlice (tyy rfl) (tyy rfl) rfl rfl rfl rfl ?_; intro _) | (refine G.atApp ?_; first | (refine G.append1S rfl rfl (tyy rfl) (tyy rfl) rfl rfl (by solve | (repeat (first | apply Take.hd | apply Take.tl))) (by solve | (repeat (first | apply Take.hd | apply Take.tl))) rfl (by first | omega | (simp only [lens] at *; omega)) ?_; intro _) | (refine G.appendImmS rfl rfl (tyy rfl) (tyy rfl) rfl rfl (by solve | (repeat (first | apply Take.hd | apply Take.tl))) (by solve | (repeat (first | assumption | (apply HSl.mono; rotate_left; assumption)))) rfl (by first | omega | (simp only [lens] at *; omega)) ?_; intro _) | (refine G.append1B rfl rfl (tyy rfl) (tyy rfl) rfl rfl (by solve | (repeat (first | apply Take.hd | apply Take.tl))) (by solve | (repeat (first | apply Take.hd | apply Take.tl))) rfl (by first | omega | (simp only [lens] at *; omega)) (by first | omega | (simp only [lens] at *; omega)) ?_; intro _) | (refine G.appendStr rfl rfl (tyy rfl) (tyy rfl) (tyy rfl) rfl rfl (by solve | (repeat (first | apply Take.hd | apply Take.tl))) rfl (by first | omega | (simp only [lens] at *; omega)) ?_; intro _) | (refine G.append1 rfl rfl (tyy rfl) (tyy rfl) rfl rfl (by solve | (repeat (first | apply Take.hd | apply Take.tl))) (by solve | (repeat (first | apply Take.hd | apply Take.tl))) rfl rfl rfl (by first | omega | (simp only [lens] at *; omega)) ?_; intro _; refine G.rowForm Take.hd ?_; rintro _ _ rfl)) | (refine G.atIdx ?_; first | (refine G.idxImmI rfl rfl (tyy rfl) (tyy rfl) (by solve | (repeat (first | assumption | (apply HSl.mono; rotate_left; assumption)))) (by assumption) (by first | (simp only [Int.reduceToNat]; rfl) | with_reducible apply Int.toNat_natCast | exact Eq.refl _) rfl (by first | omega | (simp only [lens] at *; omega)) ?_; intro _ _ _) | (refine G.idxImmS rfl rfl (tyy rfl) (tyy rfl) (by solve | (repeat (first | assumption | (apply HSl.mono; rotate_left; assumption)))) (by first | (simp only [Int.reduceToNat]; rfl) | with_reducible apply Int.toNat_natCast | exact Eq.refl _) rfl (by first | omega | (simp only [lens] at *; omega)) ?_; intro _ _) | (refine G.idxImmB rfl rfl (tyy rfl) (tyy rfl) (by solve | (repeat (first | assumption | (apply HSl.mono; rotate_left; assumption)))) (by first | (simp only [Int.reduceToNat]; rfl) | with_reducible apply Int.toNat_natCast | exact Eq.refl _) rfl (by first | omega | (simp only [lens] at *; omega)) ?_; intro _ _ _) | (refine G.idxRow' rfl rfl (tyy rfl) (tyy rfl) (by solve | (repeat (first | apply Take.hd | apply Take.tl))) (by first | (simp only [Int.reduceToNat]; rfl) | with_reducible apply Int.toNat_natCast | exact Eq.refl _) rfl (by first | omega | (simp only [lens] at *; omega)) ?_; intro _ _) | (refine G.idxImmN rfl rfl (tyy rfl) (tyy rfl) (by solve | (repeat (first | assumption | (apply HSl.mono; rotate_left; assumption)))) (by first | (simp only [Int.reduceToNat]; rfl) | with_reducible apply Int.toNat_natCast | exact Eq.refl _) rfl (by first | omega | (simp only [lens] at *; omega)) ?_; intro _ _ _ _ _)) | (refine G.atConv ?_; first | refine G.conv rfl (tyy rfl) (tyy rfl) rfl (by simp only [inR]; omega) ?_ | (refine G.convBytes rfl (tyy rfl) (tyy rfl) (tyy rfl) rfl (by first | omega | (simp only [lens] at *; omega)) ?_; intro _) | refine G.convStr rfl (tyy rfl) (tyy rfl) (tyy rfl) (by solve | (repeat (first | apply Take.hd | apply Take.tl))) rfl ?_ | refine G.convStrBlk1 rfl (tyy rfl) (tyy rfl) (tyy rfl) (by solve | (repeat (first | apply Take.hd | apply Take.tl))) (by first | omega | (simp only [lens] at *; omega)) rfl ?_ | refine G.convStrBlk2 rfl (tyy rfl) (tyy rfl) (tyy rfl) (by solve | (repeat (first | apply Take.hd | apply Take.tl))) (by first | omega | (simp only [lens] at *; omega)) (by first | omega | (simp only [lens] at *; omega)) rfl ?_ | (refine G.convW rfl (tyy rfl) (tyy rfl) rfl ?_; intro hcw; (try simp only [inR] at hcw))) )
  refine G.nilRow 86 5 ?_
  refine G.go ?_
  refine G.loop (σ := Nat × Value) (fun x => [(22, .int .i64 x.1), (21, .int .i64 (plsQ L).length), (20, v), (14, .bool (rAns (L.take x.1) conn ck key ver).2), (13, .int .i64 (rAns (L.take x.1) conn ck key ver).1), (12, x.2), (4, .int .i64 ver), (3, str key), (2, str ck), (1, .int .i64 conn), (0, .pointer (some ⟨b, 0, none⟩))])
    (fun x => [.row x.2 86 5 (plsQ (rLeft (L.take x.1) conn ck)), .blk b [.int .i64 last, v] 36, .row v 86 5 (plsQ L)])
    (fun x _ => x.1 ≤ L.length) (fun x => L.length - x.1) ⟨0, .slice none 0 0⟩ ⟨rfl, rfl, rfl, rfl, rfl, rfl, rfl, rfl, rfl, rfl, rfl, trivial⟩ (by solve | (apply Takes.sub; (repeat (first | apply Takes.nil | apply Take.hd | apply Take.tl | apply Takes.cons)))) (Nat.zero_le _) ?_
  rintro ⟨i, o⟩ h1 hle1 hi
  simp only at hi
  refine G.norm (by (try dsimp only) <;> exact rfl) (by (try dsimp only) <;> exact rfl) ?_
  by_cases hlt : i < L.length
  · have hdl : (rLeft (L.take i) conn ck).length ≤ 1000 := Nat.le_trans (List.length_filter_le _ _) (by simp; omega)
    have hdq : (plsQ (rLeft (L.take i) conn ck)).length ≤ 1000 := by rw [plsQ_length]; exact hdl
    have hr := plsQ_get hlt
    have hn := hN _ (List.getElem_mem hlt)
    have h1 := rAns_take L conn ck key ver hlt
    have h2 : rLeft (L.take (i + 1)) conn ck = rLeft (L.take i) conn ck ++ (if hit conn ck (L[i]'hlt) = true then [] else [L[i]'hlt]) := by
      unfold rLeft
      rw [filter_take _ _ hlt]
      cases hit conn ck (L[i]'hlt) <;> rfl
    generalize L[i]'hlt = p at *
    have hn1 := hn.1
    have hn2 := hn.2
    generalize hAn : rAns (L.take (i + 1)) conn ck key ver = an at *
    generalize rAns (L.take i) conn ck key ver = a0 at *
    generalize hL1 : rLeft (L.take (i + 1)) conn ck = L1 at *
    generalize rLeft (L.take i) conn ck = L0 at *
    obtain ⟨at0, ok0⟩ := a0
    refine G.norm (by (try dsimp only) <;> exact rfl) (by (try dsimp only) <;> exact rfl) ?_
    repeat' (first | (refine G.atIdx ?_; refine G.idxRow' rfl rfl (tyy rfl) (tyy rfl) (by solve | (repeat (first | apply Take.hd | apply Take.tl))) (by first | (simp only [Int.reduceToNat]; rfl) | with_reducible apply Int.toNat_natCast | exact Eq.refl _) rfl (by omega) ?_; intro p1 hp1) | (refine G.loadRowA rfl (tyy rfl) rfl rfl (by assumption) (by solve | (repeat (first | apply Take.hd | apply Take.tl))) hr rfl ?_) | (show G _ (.ops .seq _ (⟨some _, .call { callee := .value (.func 50), args := _, argTypes := _ }, _, _, _, none⟩ :: _) :: _) _ _ _; refine G.call callPut1 rfl rfl (ref01_PutI _ (by omega) _ (by omega) _) (by solve | (repeat (first | apply Takes.nil | apply Take.hd | apply Take.tl | apply Takes.cons))) ?_; rintro _ h4 H4 ⟨rfl, rfl⟩ hle4) | (refine G.atCode ?_; first | refine G.seq ?_ | refine G.region ?_ | refine G.block ?_ | refine G.skip ?_ | refine G.exit rfl ?_ | refine G.ret ?_ | (refine G.cond rfl ?_ ?_ <;> intro hc <;> (try simp only [tests, reduceCtorEq] at hc) <;> (try (exfalso; first | omega | exact absurd hc (by with_reducible assumption) | exact absurd (by with_reducible assumption) hc | exact Bool.noConfusion hc | exact hc | exact hc trivial | fail)))) | refine G.endOps ?_ | refine G.endStill ?_ | refine G.endHeld ?_ | refine G.back ?_ | refine G.endBlk ?_ | (refine G.atGd ?_; first | refine G.guardYes rfl rfl ?_ | refine G.guardNoS rfl rfl rfl ?_ | refine G.guardU rfl rfl rfl ?_ | (refine G.guardS rfl rfl rfl ?_ ?_ <;> intro hc <;> (try simp only [tests, reduceCtorEq] at hc) <;> (try (exfalso; first | omega | exact absurd hc (by with_reducible assumption) | exact absurd (by with_reducible assumption) hc | exact Bool.noConfusion hc | exact hc | exact hc trivial | fail))) | refine G.guardNo rfl rfl ?_ (by rintro i ⟨⟩; rfl) | (refine G.guard rfl rfl ?_ ?_ (by rintro i ⟨⟩; rfl) <;> intro hc <;> (try simp only [tests, reduceCtorEq] at hc) <;> (try (exfalso; first | omega | exact absurd hc (by with_reducible assumption) | exact absurd (by with_reducible assumption) hc | exact Bool.noConfusion hc | exact hc | exact hc trivial | fail)))) | (refine G.atBin ?_; first | (refine G.atAdd ?_; first | refine G.arith rfl rfl rfl rfl rfl (by simp only [inR]; omega) ?_ | refine G.catStr rfl rfl rfl (by first | omega | (simp only [lens] at *; omega)) ?_ | refine G.op rfl rfl ?_) | (refine G.atEql ?_; first | refine G.op rfl rfl ?_ | refine G.eqStr0 rfl rfl rfl ?_ | refine G.eqStr rfl rfl rfl ?_ | refine G.eqPtr rfl rfl (tyy rfl) rfl ?_ | refine G.eqBool rfl rfl (tyy rfl) rfl ?_) | (refine G.atNeq ?_; first | refine G.op rfl rfl ?_ | refine G.neStr0 rfl rfl rfl ?_ | refine G.neStr rfl rfl rfl ?_ | refine G.nePtr rfl rfl (tyy rfl) rfl ?_ | refine G.neBool rfl rfl (tyy rfl) rfl ?_) | refine G.op rfl rfl ?_ ) | refine G.op rfl rfl ?_ | (refine G.atLen ?_; first | refine G.lenStr rfl (tyy rfl) rfl ?_ | refine G.lenSlice rfl (tyy rfl) rfl ?_ | refine G.lenRowB rfl (tyy rfl) (by solve | (repeat (first | apply Take.hd | apply Take.tl))) rfl ?_ | refine G.lenRowS rfl (tyy rfl) (by solve | (repeat (first | apply Take.hd | apply Take.tl))) rfl ?_ | refine G.lenRow rfl (tyy rfl) (by solve | (repeat (first | apply Take.hd | apply Take.tl))) rfl ?_ | refine G.lenImmB rfl (tyy rfl) (by solve | (repeat (first | assumption | (apply HSl.mono; rotate_left; assumption)))) rfl ?_ | refine G.lenImmI rfl (tyy rfl) (by solve | (repeat (first | assumption | (apply HSl.mono; rotate_left; assumption)))) rfl ?_ | refine G.lenImmS rfl (tyy rfl) (by solve | (repeat (first | assumption | (apply HSl.mono; rotate_left; assumption)))) rfl ?_ | refine G.lenImm rfl (tyy rfl) (by solve | (repeat (first | assumption | (apply HSl.mono; rotate_left; assumption)))) rfl ?_) | (refine G.atLoad ?_; first | refine G.loadOwn1 rfl (tyy rfl) rfl rfl (by solve | (repeat (first | apply Take.hd | apply Take.tl))) rfl rfl ?_ | refine G.loadOwnA rfl (tyy rfl) rfl rfl (by solve | (repeat (first | apply Take.hd | apply Take.tl))) rfl rfl ?_ | refine G.loadImm1 rfl (tyy rfl) rfl rfl (by assumption) rfl ?_ | refine G.loadImmA rfl (tyy rfl) rfl rfl (by assumption) (by assumption) rfl ?_ | refine G.loadRowS rfl (tyy rfl) (by assumption) (by solve | (repeat (first | apply Take.hd | apply Take.tl))) (by first | omega | (simp only [lens] at *; omega)) rfl ?_ | (refine G.loadRowB rfl (tyy rfl) (by assumption) (by solve | (repeat (first | apply Take.hd | apply Take.tl))) (by first | omega | (simp only [lens] at *; omega)) rfl ?_; intro _)) | (refine G.atFld ?_; first | refine G.fieldAddr rfl (tyy rfl) rfl rfl ?_ | refine G.fieldAddrP rfl (tyy rfl) rfl rfl ?_) | (refine G.atSto ?_; refine G.storeOwn rfl rfl (tyy rfl) (by solve | (repeat (first | apply Take.hd | apply Take.tl))) rfl rfl rfl rfl ?_) | (refine G.atAlc ?_; refine G.alloc (tyy rfl) rfl rfl ?_; intro _) | (refine G.atBsl ?_; refine G.buildSlice (tyy rfl) (tyy rfl) rfl rfl rfl rfl ?_; intro _) | (refine G.atApp ?_; first | (refine G.append1S rfl rfl (tyy rfl) (tyy rfl) rfl rfl (by solve | (repeat (first | apply Take.hd | apply Take.tl))) (by solve | (repeat (first | apply Take.hd | apply Take.tl))) rfl (by first | omega | (simp only [lens] at *; omega)) ?_; intro _) | (refine G.appendImmS rfl rfl (tyy rfl) (tyy rfl) rfl rfl (by solve | (repeat (first | apply Take.hd | apply Take.tl))) (by solve | (repeat (first | assumption | (apply HSl.mono; rotate_left; assumption)))) rfl (by first | omega | (simp only [lens] at *; omega)) ?_; intro _) | (refine G.append1B rfl rfl (tyy rfl) (tyy rfl) rfl rfl (by solve | (repeat (first | apply Take.hd | apply Take.tl))) (by solve | (repeat (first | apply Take.hd | apply Take.tl))) rfl (by first | omega | (simp only [lens] at *; omega)) (by first | omega | (simp only [lens] at *; omega)) ?_; intro _) | (refine G.appendStr rfl rfl (tyy rfl) (tyy rfl) (tyy rfl) rfl rfl (by solve | (repeat (first | apply Take.hd | apply Take.tl))) rfl (by first | omega | (simp only [lens] at *; omega)) ?_; intro _) | (refine G.append1 rfl rfl (tyy rfl) (tyy rfl) rfl rfl (by solve | (repeat (first | apply Take.hd | apply Take.tl))) (by solve | (repeat (first | apply Take.hd | apply Take.tl))) rfl rfl rfl (by first | omega | (simp only [lens] at *; omega)) ?_; intro _; refine G.rowForm Take.hd ?_; rintro _ _ rfl)) | (refine G.atIdx ?_; first | (refine G.idxImmI rfl rfl (tyy rfl) (tyy rfl) (by solve | (repeat (first | assumption | (apply HSl.mono; rotate_left; assumption)))) (by assumption) (by first | (simp only [Int.reduceToNat]; rfl) | with_reducible apply Int.toNat_natCast | exact Eq.refl _) rfl (by first | omega | (simp only [lens] at *; omega)) ?_; intro _ _ _) | (refine G.idxImmS rfl rfl (tyy rfl) (tyy rfl) (by solve | (repeat (first | assumption | (apply HSl.mono; rotate_left; assumption)))) (by first | (simp only [Int.reduceToNat]; rfl) | with_reducible apply Int.toNat_natCast | exact Eq.refl _) rfl (by first | omega | (simp only [lens] at *; omega)) ?_; intro _ _) | (refine G.idxImmB rfl rfl (tyy rfl) (tyy rfl) (by solve | (repeat (first | assumption | (apply HSl.mono; rotate_left; assumption)))) (by first | (simp only [Int.reduceToNat]; rfl) | with_reducible apply Int.toNat_natCast | exact Eq.refl _) rfl (by first | omega | (simp only [lens] at *; omega)) ?_; intro _ _ _) | (refine G.idxRow' rfl rfl (tyy rfl) (tyy rfl) (by solve | (repeat (first | apply Take.hd | apply Take.tl))) (by first | (simp only [Int.reduceToNat]; rfl) | with_reducible apply Int.toNat_natCast | exact Eq.refl _) rfl (by first | omega | (simp only [lens] at *; omega)) ?_; intro _ _) | (refine G.idxImmN rfl rfl (tyy rfl) (tyy rfl) (by solve | (repeat (first | assumption | (apply HSl.mono; rotate_left; assumption)))) (by first | (simp only [Int.reduceToNat]; rfl) | with_reducible apply Int.toNat_natCast | exact Eq.refl _) rfl (by first | omega | (simp only [lens] at *; omega)) ?_; intro _ _ _ _ _)) | (refine G.atConv ?_; first | refine G.conv rfl (tyy rfl) (tyy rfl) rfl (by simp only [inR]; omega) ?_ | (refine G.convBytes rfl (tyy rfl) (tyy rfl) (tyy rfl) rfl (by first | omega | (simp only [lens] at *; omega)) ?_; intro _) | refine G.convStr rfl (tyy rfl) (tyy rfl) (tyy rfl) (by solve | (repeat (first | apply Take.hd | apply Take.tl))) rfl ?_ | refine G.convStrBlk1 rfl (tyy rfl) (tyy rfl) (tyy rfl) (by solve | (repeat (first | apply Take.hd | apply Take.tl))) (by first | omega | (simp only [lens] at *; omega)) rfl ?_ | refine G.convStrBlk2 rfl (tyy rfl) (tyy rfl) (tyy rfl) (by solve | (repeat (first | apply Take.hd | apply Take.tl))) (by first | omega | (simp only [lens] at *; omega)) (by first | omega | (simp only [lens] at *; omega)) rfl ?_ | (refine G.convW rfl (tyy rfl) (tyy rfl) rfl ?_; intro hcw; (try simp only [inR] at hcw))) )
    · rename_i A9 c9
      have hh : hit conn ck p = false := by unfold hit isC; have c2 : ¬ putB p.num.toNat 8 = ck := (by assumption); simp [c2]
      have e1 : an = (at0, ok0) := by rw [h1]; unfold rStep1; rw [hh, if_neg (fun x => absurd x.1 (by decide))]
      have e2 : plsQ L1 = plsQ L0 ++ [[.int .i64 p.num, .int .i64 p.conn, str p.key, .int .i64 p.ver, .int .i64 p.pos]] := by rw [h2, hh]; exact (plsQ_snoc L0 p).symm
      refine G.again ⟨i + 1, .slice A9 _ c9⟩ ⟨sint (by simp), rfl, rfl, by dsimp only; rw [hAn, e1]; rfl, by dsimp only; rw [hAn, e1]; rfl, rfl, rfl, rfl, rfl, rfl, rfl, trivial⟩ (by dsimp only; rw [hL1, e2]; exact (by solve | (apply Takes.sub; (repeat (first | apply Takes.nil | apply Take.hd | apply Take.tl | apply Takes.cons))))) (by simp only; omega) (by first | assumption | exact Heap.le_refl _) (by simp only; omega)
    · have hh : hit conn ck p = true := by
        unfold hit isC
        have c1 : p.conn = conn := by assumption
        have c2 : putB p.num.toNat 8 = ck := by assumption
        simp [c1, c2]
      have e1 : an = (p.pos, true) := by rw [h1]; unfold rStep1; rw [hh, if_pos ⟨rfl, by assumption, by assumption⟩]
      have e2 : L1 = L0 := by rw [h2, hh]; simp
      refine G.again ⟨i + 1, o⟩ ⟨sint (by simp), rfl, rfl, by dsimp only; rw [hAn, e1]; rfl, by dsimp only; rw [hAn, e1]; rfl, rfl, rfl, rfl, rfl, rfl, rfl, trivial⟩ (by dsimp only; rw [hL1, e2]; exact (by solve | (apply Takes.sub; (repeat (first | apply Takes.nil | apply Take.hd | apply Take.tl | apply Takes.cons))))) (by simp only; omega) (by assumption) (by simp only; omega)
    · have hh : hit conn ck p = true := by
        unfold hit isC
        have c1 : p.conn = conn := by assumption
        have c2 : putB p.num.toNat 8 = ck := by assumption
        simp [c1, c2]
      have e1 : an = (at0, ok0) := by rw [h1]; unfold rStep1; rw [hh, if_neg (fun x => absurd x.2.2 (by assumption))]
      have e2 : L1 = L0 := by rw [h2, hh]; simp
      refine G.again ⟨i + 1, o⟩ ⟨sint (by simp), rfl, rfl, by dsimp only; rw [hAn, e1]; rfl, by dsimp only; rw [hAn, e1]; rfl, rfl, rfl, rfl, rfl, rfl, rfl, trivial⟩ (by dsimp only; rw [hL1, e2]; exact (by solve | (apply Takes.sub; (repeat (first | apply Takes.nil | apply Take.hd | apply Take.tl | apply Takes.cons))))) (by simp only; omega) (by assumption) (by simp only; omega)
    · have hh : hit conn ck p = true := by
        unfold hit isC
        have c1 : p.conn = conn := by assumption
        have c2 : putB p.num.toNat 8 = ck := by assumption
        simp [c1, c2]
      have e1 : an = (at0, ok0) := by rw [h1]; unfold rStep1; rw [hh, if_neg (fun x => absurd x.2.1 (by assumption))]
      have e2 : L1 = L0 := by rw [h2, hh]; simp
      refine G.again ⟨i + 1, o⟩ ⟨sint (by simp), rfl, rfl, by dsimp only; rw [hAn, e1]; rfl, by dsimp only; rw [hAn, e1]; rfl, rfl, rfl, rfl, rfl, rfl, rfl, trivial⟩ (by dsimp only; rw [hL1, e2]; exact (by solve | (apply Takes.sub; (repeat (first | apply Takes.nil | apply Take.hd | apply Take.tl | apply Takes.cons))))) (by simp only; omega) (by assumption) (by simp only; omega)
    · rename_i A9 c9
      have hh : hit conn ck p = false := by unfold hit isC; have c2 : ¬ p.conn = conn := (by assumption); simp [c2]
      have e1 : an = (at0, ok0) := by rw [h1]; unfold rStep1; rw [hh, if_neg (fun x => absurd x.1 (by decide))]
      have e2 : plsQ L1 = plsQ L0 ++ [[.int .i64 p.num, .int .i64 p.conn, str p.key, .int .i64 p.ver, .int .i64 p.pos]] := by rw [h2, hh]; exact (plsQ_snoc L0 p).symm
      refine G.again ⟨i + 1, .slice A9 _ c9⟩ ⟨sint (by simp), rfl, rfl, by dsimp only; rw [hAn, e1]; rfl, by dsimp only; rw [hAn, e1]; rfl, rfl, rfl, rfl, rfl, rfl, rfl, trivial⟩ (by dsimp only; rw [hL1, e2]; exact (by solve | (apply Takes.sub; (repeat (first | apply Takes.nil | apply Take.hd | apply Take.tl | apply Takes.cons))))) (by simp only; omega) (by first | assumption | exact Heap.le_refl _) (by simp only; omega)
  · obtain rfl : i = L.length := by omega
    rw [List.take_length]
    refine G.rowForm Take.hd ?_
    rintro A9 c9 rfl
    repeat' (first | (refine G.atCode ?_; first | refine G.seq ?_ | refine G.region ?_ | refine G.block ?_ | refine G.skip ?_ | refine G.exit rfl ?_ | refine G.ret ?_ | (refine G.cond rfl ?_ ?_ <;> intro hc <;> (try simp only [tests, reduceCtorEq] at hc) <;> (try (exfalso; first | omega | exact absurd hc (by with_reducible assumption) | exact absurd (by with_reducible assumption) hc | exact Bool.noConfusion hc | exact hc | exact hc trivial | fail)))) | refine G.endOps ?_ | refine G.endStill ?_ | refine G.endHeld ?_ | refine G.back ?_ | refine G.endBlk ?_ | (refine G.atGd ?_; first | refine G.guardYes rfl rfl ?_ | refine G.guardNoS rfl rfl rfl ?_ | refine G.guardU rfl rfl rfl ?_ | (refine G.guardS rfl rfl rfl ?_ ?_ <;> intro hc <;> (try simp only [tests, reduceCtorEq] at hc) <;> (try (exfalso; first | omega | exact absurd hc (by with_reducible assumption) | exact absurd (by with_reducible assumption) hc | exact Bool.noConfusion hc | exact hc | exact hc trivial | fail))) | refine G.guardNo rfl rfl ?_ (by rintro i ⟨⟩; rfl) | (refine G.guard rfl rfl ?_ ?_ (by rintro i ⟨⟩; rfl) <;> intro hc <;> (try simp only [tests, reduceCtorEq] at hc) <;> (try (exfalso; first | omega | exact absurd hc (by with_reducible assumption) | exact absurd (by with_reducible assumption) hc | exact Bool.noConfusion hc | exact hc | exact hc trivial | fail)))) | (refine G.atBin ?_; first | (refine G.atAdd ?_; first | refine G.arith rfl rfl rfl rfl rfl (by simp only [inR]; omega) ?_ | refine G.catStr rfl rfl rfl (by first | omega | (simp only [lens] at *; omega)) ?_ | refine G.op rfl rfl ?_) | (refine G.atEql ?_; first | refine G.op rfl rfl ?_ | refine G.eqStr0 rfl rfl rfl ?_ | refine G.eqStr rfl rfl rfl ?_ | refine G.eqPtr rfl rfl (tyy rfl) rfl ?_ | refine G.eqBool rfl rfl (tyy rfl) rfl ?_) | (refine G.atNeq ?_; first | refine G.op rfl rfl ?_ | refine G.neStr0 rfl rfl rfl ?_ | refine G.neStr rfl rfl rfl ?_ | refine G.nePtr rfl rfl (tyy rfl) rfl ?_ | refine G.neBool rfl rfl (tyy rfl) rfl ?_) | refine G.op rfl rfl ?_ ) | refine G.op rfl rfl ?_ | (refine G.atLen ?_; first | refine G.lenStr rfl (tyy rfl) rfl ?_ | refine G.lenSlice rfl (tyy rfl) rfl ?_ | refine G.lenRowB rfl (tyy rfl) (by solve | (repeat (first | apply Take.hd | apply Take.tl))) rfl ?_ | refine G.lenRowS rfl (tyy rfl) (by solve | (repeat (first | apply Take.hd | apply Take.tl))) rfl ?_ | refine G.lenRow rfl (tyy rfl) (by solve | (repeat (first | apply Take.hd | apply Take.tl))) rfl ?_ | refine G.lenImmB rfl (tyy rfl) (by solve | (repeat (first | assumption | (apply HSl.mono; rotate_left; assumption)))) rfl ?_ | refine G.lenImmI rfl (tyy rfl) (by solve | (repeat (first | assumption | (apply HSl.mono; rotate_left; assumption)))) rfl ?_ | refine G.lenImmS rfl (tyy rfl) (by solve | (repeat (first | assumption | (apply HSl.mono; rotate_left; assumption)))) rfl ?_ | refine G.lenImm rfl (tyy rfl) (by solve | (repeat (first | assumption | (apply HSl.mono; rotate_left; assumption)))) rfl ?_) | (refine G.atLoad ?_; first | refine G.loadOwn1 rfl (tyy rfl) rfl rfl (by solve | (repeat (first | apply Take.hd | apply Take.tl))) rfl rfl ?_ | refine G.loadOwnA rfl (tyy rfl) rfl rfl (by solve | (repeat (first | apply Take.hd | apply Take.tl))) rfl rfl ?_ | refine G.loadImm1 rfl (tyy rfl) rfl rfl (by assumption) rfl ?_ | refine G.loadImmA rfl (tyy rfl) rfl rfl (by assumption) (by assumption) rfl ?_ | refine G.loadRowS rfl (tyy rfl) (by assumption) (by solve | (repeat (first | apply Take.hd | apply Take.tl))) (by first | omega | (simp only [lens] at *; omega)) rfl ?_ | (refine G.loadRowB rfl (tyy rfl) (by assumption) (by solve | (repeat (first | apply Take.hd | apply Take.tl))) (by first | omega | (simp only [lens] at *; omega)) rfl ?_; intro _)) | (refine G.atFld ?_; first | refine G.fieldAddr rfl (tyy rfl) rfl rfl ?_ | refine G.fieldAddrP rfl (tyy rfl) rfl rfl ?_) | (refine G.atSto ?_; refine G.storeOwn rfl rfl (tyy rfl) (by solve | (repeat (first | apply Take.hd | apply Take.tl))) rfl rfl rfl rfl ?_) | (refine G.atAlc ?_; refine G.alloc (tyy rfl) rfl rfl ?_; intro _) | (refine G.atBsl ?_; refine G.buildSlice (tyy rfl) (tyy rfl) rfl rfl rfl rfl ?_; intro _) | (refine G.atApp ?_; first | (refine G.append1S rfl rfl (tyy rfl) (tyy rfl) rfl rfl (by solve | (repeat (first | apply Take.hd | apply Take.tl))) (by solve | (repeat (first | apply Take.hd | apply Take.tl))) rfl (by first | omega | (simp only [lens] at *; omega)) ?_; intro _) | (refine G.appendImmS rfl rfl (tyy rfl) (tyy rfl) rfl rfl (by solve | (repeat (first | apply Take.hd | apply Take.tl))) (by solve | (repeat (first | assumption | (apply HSl.mono; rotate_left; assumption)))) rfl (by first | omega | (simp only [lens] at *; omega)) ?_; intro _) | (refine G.append1B rfl rfl (tyy rfl) (tyy rfl) rfl rfl (by solve | (repeat (first | apply Take.hd | apply Take.tl))) (by solve | (repeat (first | apply Take.hd | apply Take.tl))) rfl (by first | omega | (simp only [lens] at *; omega)) (by first | omega | (simp only [lens] at *; omega)) ?_; intro _) | (refine G.appendStr rfl rfl (tyy rfl) (tyy rfl) (tyy rfl) rfl rfl (by solve | (repeat (first | apply Take.hd | apply Take.tl))) rfl (by first | omega | (simp only [lens] at *; omega)) ?_; intro _) | (refine G.append1 rfl rfl (tyy rfl) (tyy rfl) rfl rfl (by solve | (repeat (first | apply Take.hd | apply Take.tl))) (by solve | (repeat (first | apply Take.hd | apply Take.tl))) rfl rfl rfl (by first | omega | (simp only [lens] at *; omega)) ?_; intro _; refine G.rowForm Take.hd ?_; rintro _ _ rfl)) | (refine G.atIdx ?_; first | (refine G.idxImmI rfl rfl (tyy rfl) (tyy rfl) (by solve | (repeat (first | assumption | (apply HSl.mono; rotate_left; assumption)))) (by assumption) (by first | (simp only [Int.reduceToNat]; rfl) | with_reducible apply Int.toNat_natCast | exact Eq.refl _) rfl (by first | omega | (simp only [lens] at *; omega)) ?_; intro _ _ _) | (refine G.idxImmS rfl rfl (tyy rfl) (tyy rfl) (by solve | (repeat (first | assumption | (apply HSl.mono; rotate_left; assumption)))) (by first | (simp only [Int.reduceToNat]; rfl) | with_reducible apply Int.toNat_natCast | exact Eq.refl _) rfl (by first | omega | (simp only [lens] at *; omega)) ?_; intro _ _) | (refine G.idxImmB rfl rfl (tyy rfl) (tyy rfl) (by solve | (repeat (first | assumption | (apply HSl.mono; rotate_left; assumption)))) (by first | (simp only [Int.reduceToNat]; rfl) | with_reducible apply Int.toNat_natCast | exact Eq.refl _) rfl (by first | omega | (simp only [lens] at *; omega)) ?_; intro _ _ _) | (refine G.idxRow' rfl rfl (tyy rfl) (tyy rfl) (by solve | (repeat (first | apply Take.hd | apply Take.tl))) (by first | (simp only [Int.reduceToNat]; rfl) | with_reducible apply Int.toNat_natCast | exact Eq.refl _) rfl (by first | omega | (simp only [lens] at *; omega)) ?_; intro _ _) | (refine G.idxImmN rfl rfl (tyy rfl) (tyy rfl) (by solve | (repeat (first | assumption | (apply HSl.mono; rotate_left; assumption)))) (by first | (simp only [Int.reduceToNat]; rfl) | with_reducible apply Int.toNat_natCast | exact Eq.refl _) rfl (by first | omega | (simp only [lens] at *; omega)) ?_; intro _ _ _ _ _)) | (refine G.atConv ?_; first | refine G.conv rfl (tyy rfl) (tyy rfl) rfl (by simp only [inR]; omega) ?_ | (refine G.convBytes rfl (tyy rfl) (tyy rfl) (tyy rfl) rfl (by first | omega | (simp only [lens] at *; omega)) ?_; intro _) | refine G.convStr rfl (tyy rfl) (tyy rfl) (tyy rfl) (by solve | (repeat (first | apply Take.hd | apply Take.tl))) rfl ?_ | refine G.convStrBlk1 rfl (tyy rfl) (tyy rfl) (tyy rfl) (by solve | (repeat (first | apply Take.hd | apply Take.tl))) (by first | omega | (simp only [lens] at *; omega)) rfl ?_ | refine G.convStrBlk2 rfl (tyy rfl) (tyy rfl) (tyy rfl) (by solve | (repeat (first | apply Take.hd | apply Take.tl))) (by first | omega | (simp only [lens] at *; omega)) (by first | omega | (simp only [lens] at *; omega)) rfl ?_ | (refine G.convW rfl (tyy rfl) (tyy rfl) rfl ?_; intro hcw; (try simp only [inR] at hcw))) )
    exact G.done2 rfl rfl rfl _ (by solve | (apply Takes.sub; (repeat (first | apply Takes.nil | apply Take.hd | apply Take.tl | apply Takes.cons)))) ⟨rfl, _, rfl⟩

/-- The places' numbers: each its own, from 1 to the last. -/
def NumsOk (L : List Pl) (last : Int) : Prop := (L.map Pl.num).Nodup ∧ ∀ p ∈ L, 1 ≤ p.num ∧ p.num ≤ last
theorem NumsOk.sub {A B : List Pl} {last : Int} (h : NumsOk B last) (s : A.Sublist B) : NumsOk A last :=
  ⟨h.1.sublist (s.map _), fun p hp => h.2 p (s.subset hp)⟩
theorem cut_sub (L : List Pl) (i : Nat) : (cutAt L i).Sublist L := by
  unfold cutAt
  rw [← List.eraseIdx_eq_take_drop_succ]
  exact List.eraseIdx_sublist _ _
theorem NumsOk.keep {L : List Pl} {last : Int} (h : NumsOk L last) (h0 : 0 ≤ last) (key : List UInt8) (ver conn pos : Int) : NumsOk (keepL L ⟨key, ver, last + 1, conn, pos⟩) (last + 1) := by
  have h1 : NumsOk (L ++ [⟨key, ver, last + 1, conn, pos⟩]) (last + 1) := by
    refine ⟨?_, fun p hp => ?_⟩
    · rw [List.map_append, List.nodup_append]
      refine ⟨h.1, by simp, ?_⟩
      intro a ha b hb hab
      simp only [List.mem_map, List.map_cons, List.map_nil, List.mem_singleton] at ha hb
      obtain ⟨p, hp, rfl⟩ := ha
      have := (h.2 p hp).2
      omega
    · rcases List.mem_append.1 hp with hp | hp
      · have := h.2 p hp; omega
      · simp only [List.mem_singleton] at hp
        subst hp
        simp only
        omega
  unfold keepL
  split
  · exact h1.sub (cut_sub _ _)
  · exact h1
theorem putB_add (b x m : Nat) : ∀ k, k ≤ m → putB (b * 256 ^ m + x) k = putB x k
  | 0, _ => rfl
  | k + 1, h => by
    rw [putB, putB, putB_add b x m k (by omega)]
    congr 1
    apply UInt8.toNat_inj.1
    rw [UInt8.toNat_ofNat', UInt8.toNat_ofNat']
    obtain ⟨d, rfl⟩ : ∃ d, m = k + (d + 1) := ⟨m - k - 1, by omega⟩
    have e : b * 256 ^ (k + (d + 1)) + x = x + 256 ^ k * (b * 256 ^ d * 256) := by
      rw [Nat.pow_add, Nat.pow_succ, Nat.add_comm]
      congr 1
      simp only [Nat.mul_comm, Nat.mul_left_comm]
    rw [e, Nat.add_mul_div_left _ _ (Nat.pos_of_ne_zero (by simp))]
    omega
theorem putB_beN : ∀ (n : Nat) (l : List UInt8), l.length = n → putB (beN l) n = l
  | 0, l, h => by
    have : l = [] := List.eq_nil_of_length_eq_zero h
    subst this; rfl
  | n + 1, [], h => by simp at h
  | n + 1, b :: l, h => by
    have hl : l.length = n := by simpa using h
    have hlt := beN_lt l
    have hb := b.toNat_lt
    rw [hl] at hlt
    rw [beN_cons, hl, putB, putB_add b.toNat (beN l) n n (Nat.le_refl _), putB_beN n l hl]
    congr 1
    apply UInt8.toNat_inj.1
    rw [UInt8.toNat_ofNat', Nat.add_comm, Nat.mul_comm, Nat.add_mul_div_left _ _ (Nat.pos_of_ne_zero (by simp)), Nat.div_eq_of_lt hlt]
    omega
theorem hit_isN {p : Pl} {conn : Int} {ck : List UInt8} (hn : 1 ≤ p.num ∧ p.num ≤ 4611686018427387904) (h8 : ck.length = 8) : hit conn ck p = isN (beN ck) conn p := by
  have hw : IntKind.u64.wrap p.num = p.num := wrap_in (by simp only [inR]; omega)
  unfold hit isN isC
  rw [hw]
  have e : (putB p.num.toNat 8 = ck) ↔ (p.num = ((beN ck : Nat) : Int)) := by
    constructor
    · rintro rfl
      rw [beN_putB]
      have : p.num.toNat < 256 ^ 8 := by have : (256 : Nat) ^ 8 = 18446744073709551616 := by decide
                                         omega
      rw [Nat.mod_eq_of_lt this]; omega
    · intro e
      rw [e, Int.toNat_natCast]
      exact putB_beN 8 ck h8
  have e' : decide (putB p.num.toNat 8 = ck) = decide (p.num = ((beN ck : Nat) : Int)) := by simp only [decide_eq_decide]; exact e
  rw [e', Bool.and_comm]
theorem filter_not_all {α : Type} {q : α → Bool} {L : List α} (h : ∀ p ∈ L, q p = false) : L.filter (fun p => !q p) = L := by
  rw [List.filter_eq_self]
  intro p hp; simp [h p hp]
theorem fold_none {conn : Int} {ck key : List UInt8} {ver : Int} : ∀ (L : List Pl) (a : Int × Bool), (∀ p ∈ L, hit conn ck p = false) → L.foldl (rStep1 conn ck key ver) a = a
  | [], _, _ => rfl
  | p :: L, a, h => by
    have h1 : rStep1 conn ck key ver a p = a := by unfold rStep1; rw [h p (by simp), if_neg (fun x => absurd x.1 (by decide))]
    rw [List.foldl_cons, h1, fold_none L a (fun x hx => h x (by simp [hx]))]
/-- Both ways to take are one. -/
theorem take_same {L : List Pl} {last : Int} (hN : NumsOk L last) (hl : last ≤ 4611686018427387904) (conn : Int) (ck key : List UInt8) (ver : Int) : takeL L conn ck key ver = (rLeft L conn ck, rAns L conn ck key ver) := by
  unfold takeL
  by_cases h8 : ck.length = 8
  · rw [if_pos h8]
    have hi : ∀ p ∈ L, hit conn ck p = isN (beN ck) conn p := fun p hp => hit_isN (by have := hN.2 p hp; omega) h8
    by_cases hj : L.findIdx (isN (beN ck) conn) < L.length
    · rw [List.getElem?_eq_getElem hj]
      have hat := fun i h => findIdx_at (isN (beN ck) conn) L i h
      generalize L.findIdx (isN (beN ck) conn) = j at *
      have hL : L = L.take j ++ L[j] :: L.drop (j + 1) := by rw [← List.drop_eq_getElem_cons hj, List.take_append_drop]
      have hp : isN (beN ck) conn L[j] = true := (hat j hj).2 rfl
      have hA : ∀ p ∈ L.take j, hit conn ck p = false := by
        intro p hp
        obtain ⟨i, h1, rfl⟩ := List.mem_iff_getElem.1 hp
        rw [List.length_take] at h1
        rw [List.getElem_take]
        rw [hi _ (List.getElem_mem _)]
        exact (hat i (by omega)).1 (by omega)
      have hB : ∀ p ∈ L.drop (j + 1), hit conn ck p = false := by
        intro p hpB
        rw [hi p (List.mem_of_mem_drop hpB)]
        cases hq : isN (beN ck) conn p with
        | false => rfl
        | true =>
          exfalso
          have hnd := hN.1
          rw [hL, List.map_append, List.nodup_append] at hnd
          have h2 := hnd.2.1
          rw [List.map_cons, List.nodup_cons] at h2
          refine h2.1 (List.mem_map.2 ⟨p, hpB, ?_⟩)
          unfold isN at hp hq
          simp only [Bool.and_eq_true, decide_eq_true_eq] at hp hq
          have w1 : IntKind.u64.wrap p.num = p.num := wrap_in (by have := hN.2 p (List.mem_of_mem_drop hpB); simp only [inR]; omega)
          have w2 : IntKind.u64.wrap L[j].num = L[j].num := wrap_in (by have := hN.2 _ (List.getElem_mem hj); simp only [inR]; omega)
          rw [w1] at hq; rw [w2] at hp
          omega
      have hh : hit conn ck L[j] = true := by rw [hi _ (List.getElem_mem hj)]; exact hp
      have e1 : rLeft L conn ck = cutAt L j := by
        unfold rLeft cutAt
        conv => lhs; rw [hL]
        rw [List.filter_append, List.filter_cons_of_neg (by simp [hh]), filter_not_all hA, filter_not_all hB]
      have e2 : rAns L conn ck key ver = if L[j].key = key ∧ L[j].ver = ver then (L[j].pos, true) else (0, false) := by
        unfold rAns
        conv => lhs; rw [hL]
        rw [List.foldl_append, List.foldl_cons, fold_none _ _ hA, fold_none _ _ hB]
        unfold rStep1
        by_cases hk : L[j].key = key ∧ L[j].ver = ver
        · rw [if_pos ⟨hh, hk.1, hk.2⟩, if_pos hk]
        · rw [if_neg (fun x => hk x.2), if_neg hk]
      rw [e1, e2]
    · rw [List.getElem?_eq_none (by omega)]
      have hA : ∀ p ∈ L, hit conn ck p = false := by
        intro p hp
        rw [hi p hp]
        obtain ⟨i, h1, rfl⟩ := List.mem_iff_getElem.1 hp
        exact (findIdx_at (isN (beN ck) conn) L i h1).1 (by omega)
      unfold rLeft rAns
      rw [filter_not_all hA, fold_none _ _ hA]
  · rw [if_neg h8]
    have hA : ∀ p ∈ L, hit conn ck p = false := by
      intro p _
      unfold hit
      have : ¬ putB p.num.toNat 8 = ck := fun e => h8 (by rw [← e, putB_length])
      simp [this]
    unfold rLeft rAns
    rw [filter_not_all hA, fold_none _ _ hA]
end Go.Proofs.Ytpcfnhjeacahdaa
