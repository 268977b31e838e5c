/- Package page: the law's own test; a cookie that was taken; a book that is none. -/
import Derived.Test.YtpcfnhjeacahdaaPgE
import Derived.Test.YtpcfnhjeacahdaaPgF
namespace Go.Proofs.Ytpcfnhjeacahdaa
set_option linter.all false
open Go.RowKit

theorem callAwake26 : Callable Try.prog 16 := ⟨_, Try.func16, by kernel_rfl, rfl⟩
theorem beN18 : beN (putB 1 8) = 1 := by decide +kernel
theorem wrap1 : IntKind.u64.wrap 1 = 1 := by decide +kernel
theorem isN_one (key : List UInt8) (ver conn pos c : Int) : isN 1 c ⟨key, ver, 1, conn, pos⟩ = decide (conn = c) := by
  unfold isN
  simp only [wrap1]
  rfl
theorem take_one (key : List UInt8) (ver conn pos c : Int) (key' : List UInt8) (ver' : Int) : takeL [⟨key, ver, 1, conn, pos⟩] c (putB 1 8) key' ver' =
    if conn = c then ([], if key = key' ∧ ver = ver' then (pos, true) else (0, false)) else ([⟨key, ver, 1, conn, pos⟩], 0, false) := by
  unfold takeL
  rw [if_pos (by rw [putB_length]), beN18]
  by_cases hc : conn = c
  · have e : isN 1 c ⟨key, ver, 1, conn, pos⟩ = true := by rw [isN_one]; simp [hc]
    rw [if_pos hc, List.findIdx_cons, e]
    rfl
  · have e : isN 1 c ⟨key, ver, 1, conn, pos⟩ = false := by rw [isN_one]; simp [hc]
    simp [List.findIdx_cons, e, hc]
theorem page_Keep0 (b : Nat) (conn : Int) (key : List UInt8) (ver pos : Int) (h : Heap) :
    Spec Try.prog 13 [.pointer (some ⟨b, 0, none⟩), .int .i64 conn, str key, .int .i64 ver, .int .i64 pos] h [.blk b [.int .i64 0, .slice none 0 0] 74, .row (.slice none 0 0) 78 5 (plsR [])]
      (fun u _ H' => u = str (putB 1 8) ∧ ∃ v', H' = [.blk b [.int .i64 1, v'] 74, .row v' 78 5 (plsR [⟨key, ver, 1, conn, pos⟩])]) := by
  refine (page_Keep b 0 (.slice none 0 0) [] conn key ver pos (by omega) (by simp) h).mono ?_
  rintro v h' H' ⟨rfl, v', rfl⟩ _
  refine ⟨rfl, v', ?_⟩
  have e : keepL [] ⟨key, ver, 0 + 1, conn, pos⟩ = [⟨key, ver, 1, conn, pos⟩] := by
    unfold keepL
    rw [if_neg]
    · rfl
    · exact fun h9 => absurd (Nat.lt_of_lt_of_le h9 List.countP_le_length) (by simp)
  rw [e]; rfl
theorem page_TakeOne (b : Nat) (last : Int) (v : Value) (conn : Int) (key : List UInt8) (ver pos : Int) (c : Int) (key' : List UInt8) (ver' : Int) (h : Heap) (L' : List Pl) (n : Int) (ok : Bool)
    (he : (if conn = c then (([] : List Pl), if key = key' ∧ ver = ver' then (pos, true) else (0, false)) else ([⟨key, ver, 1, conn, pos⟩], 0, false)) = (L', n, ok)) :
    Spec Try.prog 14 [.pointer (some ⟨b, 0, none⟩), .int .i64 c, str (putB 1 8), str key', .int .i64 ver'] h [.blk b [.int .i64 last, v] 74, .row v 78 5 (plsR [⟨key, ver, 1, conn, pos⟩])]
      (fun u _ H' => u = .tuple #[.int .i64 n, .bool ok] ∧ ∃ v', H' = [.blk b [.int .i64 last, v'] 74, .row v' 78 5 (plsR L')]) := by
  have := page_Take b last v [⟨key, ver, 1, conn, pos⟩] c (putB 1 8) key' ver' (by rw [putB_length]; omega) h
  rw [take_one, he] at this
  exact this

set_option maxRecDepth 8000 in
theorem law26_awake (h : Heap) : Spec Try.prog 16 [] h [] (fun u _ H' => H' = [] ∧ u = .bool true) := by
  refine Spec.enter Try.func16 rfl rfl ?_; intro w0
  have hp8 : (putB 1 8).length = 8 := putB_length 1 8
  repeat' (first | (show G _ (.ops .seq _ (⟨some _, .call { callee := .value (.func 12), args := _, argTypes := _ }, _, _, _, none⟩ :: _) :: _) _ _ _; refine G.call callNewP rfl rfl (page_New _) (by solve | (repeat (first | apply Takes.nil | apply Take.hd | apply Take.tl | apply Takes.cons))) ?_; rintro _ h2 H2 ⟨b, rfl, rfl⟩ hle2) | (show G _ (.ops .seq _ (⟨some _, .call { callee := .value (.func 13), args := _, argTypes := _ }, _, _, _, none⟩ :: _) :: _) _ _ _; refine G.call callKeep rfl rfl (page_Keep0 b 1 [107] 2 3 _) (by solve | (repeat (first | apply Takes.nil | apply Take.hd | apply Take.tl | apply Takes.cons))) ?_; rintro _ h3 H3 ⟨rfl, v3, rfl⟩ hle3) | (show G _ (.ops .seq _ (⟨some _, .call { callee := .value (.func 14), args := _, argTypes := _ }, _, _, _, none⟩ :: _) :: _) _ _ _; refine G.call callTake rfl rfl (page_TakeOne b 1 v3 1 [107] 2 3 1 [107] 2 _ [] 3 true (by simp)) (by solve | (repeat (first | apply Takes.nil | apply Take.hd | apply Take.tl | apply Takes.cons))) ?_; rintro _ h4 H4 ⟨rfl, v4, rfl⟩ hle4) | (show G _ (.ops .seq _ (⟨some _, .call { callee := .value (.func 42), args := _, argTypes := _ }, _, _, _, none⟩ :: _) :: _) _ _ _; refine G.call callAnswer rfl rfl (page_Answer 5 (by simp only [inR]; omega) [] (by simp) _) (by solve | (repeat (first | apply Takes.nil | apply Take.hd | apply Take.tl | apply Takes.cons))) ?_; rintro _ h5 H5 ⟨rfl, rfl⟩ hle5; rw [ans5]) | (show G _ (.ops .seq _ (⟨some _, .call { callee := .value (.func 15), args := _, argTypes := _ }, _, _, _, none⟩ :: _) :: _) _ _ _; refine G.call callLenP rfl rfl (page_Len b 1 v4 [] _) (by solve | (repeat (first | apply Takes.nil | apply Take.hd | apply Take.tl | apply Takes.cons))) ?_; rintro _ h6 H6 ⟨rfl, rfl⟩ hle6) | (refine G.atCode ?_; first | refine G.seq ?_ | refine G.region ?_ | refine G.block ?_ | refine G.skip ?_ | refine G.exit rfl ?_ | refine G.ret ?_ | (refine G.cond rfl ?_ ?_ <;> intro hc <;> (try simp only [tests, reduceCtorEq] at hc) <;> (try (exfalso; first | omega | exact absurd hc (by with_reducible assumption) | exact absurd (by with_reducible assumption) hc | exact Bool.noConfusion hc | exact hc | exact hc trivial | fail)))) | refine G.endOps ?_ | refine G.endStill ?_ | refine G.endHeld ?_ | refine G.back ?_ | refine G.endBlk ?_ | (refine G.atGd ?_; first | refine G.guardYes rfl rfl ?_ | refine G.guardNoS rfl rfl rfl ?_ | refine G.guardU rfl rfl rfl ?_ | (refine G.guardS rfl rfl rfl ?_ ?_ <;> intro hc <;> (try simp only [tests, reduceCtorEq] at hc) <;> (try (exfalso; first | omega | exact absurd hc (by with_reducible assumption) | exact absurd (by with_reducible assumption) hc | exact Bool.noConfusion hc | exact hc | exact hc trivial | fail))) | refine G.guardNo rfl rfl ?_ (by rintro i ⟨⟩; rfl) | (refine G.guard rfl rfl ?_ ?_ (by rintro i ⟨⟩; rfl) <;> intro hc <;> (try simp only [tests, reduceCtorEq] at hc) <;> (try (exfalso; first | omega | exact absurd hc (by with_reducible assumption) | exact absurd (by with_reducible assumption) hc | exact Bool.noConfusion hc | exact hc | exact hc trivial | fail)))) | (refine G.atBin ?_; first | (refine G.atEql ?_; first | refine G.op rfl rfl ?_ | refine G.eqStr0 rfl rfl rfl ?_ | refine G.eqStr rfl rfl rfl ?_ | refine G.eqPtr rfl rfl (tyy rfl) rfl ?_ | refine G.eqBool rfl rfl (tyy rfl) rfl ?_) | refine G.op rfl rfl ?_ ) | refine G.op rfl rfl ?_ | (refine G.atLen ?_; first | refine G.lenStr rfl (tyy rfl) rfl ?_ | refine G.lenSlice rfl (tyy rfl) rfl ?_ | refine G.lenRowB rfl (tyy rfl) (by solve | (repeat (first | apply Take.hd | apply Take.tl))) rfl ?_ | refine G.lenRowS rfl (tyy rfl) (by solve | (repeat (first | apply Take.hd | apply Take.tl))) rfl ?_ | refine G.lenRow rfl (tyy rfl) (by solve | (repeat (first | apply Take.hd | apply Take.tl))) rfl ?_ | refine G.lenImmB rfl (tyy rfl) (by solve | (repeat (first | assumption | (apply HSl.mono; rotate_left; assumption)))) rfl ?_ | refine G.lenImmI rfl (tyy rfl) (by solve | (repeat (first | assumption | (apply HSl.mono; rotate_left; assumption)))) rfl ?_ | refine G.lenImmS rfl (tyy rfl) (by solve | (repeat (first | assumption | (apply HSl.mono; rotate_left; assumption)))) rfl ?_ | refine G.lenImm rfl (tyy rfl) (by solve | (repeat (first | assumption | (apply HSl.mono; rotate_left; assumption)))) rfl ?_)             )
  exact G.done1 rfl rfl _ (SubH.nil _) ⟨rfl, rfl⟩

end Go.Proofs.Ytpcfnhjeacahdaa
