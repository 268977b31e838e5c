/- What filters take of the library: strings.HasPrefix, CutPrefix, IndexRune among four signs, IndexAny of these, Count, Index, Split at one byte. -/
import Derived.Test.YtcghcdnmpjhifaaDoorLib
import Derived.Test.YtcghcdnmpjhifaaDoorOcA
import Derived.Test.YtcghcdnmpjhifaaDoorShA
import Derived.Test.YtcghcdnmpjhifaaDoorShN
import Derived.Test.YtcghcdnmpjhifaaDoorLtQ
import Derived.Test.YtcghcdnmpjhifaaDoorLtU
import Derived.Laws.Runes
namespace Go.Proofs.YtcghcdnmpjhifaaDoor
set_option linter.all false
set_option maxRecDepth 4000
open Go.RowKit

theorem callHasP0 : Callable Tryd.prog 39 := ⟨_, Tryd.func39, by kernel_rfl, rfl⟩
theorem callHasP : Callable Tryd.prog 28 := ⟨_, Tryd.func28, by kernel_rfl, rfl⟩
theorem callCutP0 : Callable Tryd.prog 51 := ⟨_, Tryd.func51, by kernel_rfl, rfl⟩
theorem callCutP : Callable Tryd.prog 38 := ⟨_, Tryd.func38, by kernel_rfl, rfl⟩
theorem callIdxR : Callable Tryd.prog 52 := ⟨_, Tryd.func52, by kernel_rfl, rfl⟩
theorem callVRune : Callable Tryd.prog 61 := ⟨_, Tryd.func61, by kernel_rfl, rfl⟩
theorem callUseA : Callable Tryd.prog 53 := ⟨_, Tryd.func53, by kernel_rfl, rfl⟩
theorem callIdxA : Callable Tryd.prog 40 := ⟨_, Tryd.func40, by kernel_rfl, rfl⟩
theorem callCount : Callable Tryd.prog 66 := ⟨_, Tryd.func66, by kernel_rfl, rfl⟩
theorem callIndex : Callable Tryd.prog 67 := ⟨_, Tryd.func67, by kernel_rfl, rfl⟩
theorem callGenS : Callable Tryd.prog 57 := ⟨_, Tryd.func57, by kernel_rfl, rfl⟩
theorem callSplit : Callable Tryd.prog 42 := ⟨_, Tryd.func42, by kernel_rfl, rfl⟩
def preM (p s : List UInt8) : Bool := decide (s.take p.length = p)
theorem preM_short {p s : List UInt8} (h : ¬ p.length <= s.length) : preM p s = false := by
  unfold preM
  rw [decide_eq_false]
  intro e
  have := congrArg List.length e
  rw [List.length_take] at this
  omega
theorem sl_HasPrefix (s p : List UInt8) (hs : s.length <= 1000000000) (hp : p.length <= 1000000000) (h : Heap) : Spec Tryd.prog 39 [str s, str p] h [] (fun u _ H' => u = .bool (preM p s) /\ H' = []) := by
  by_cases hle : p.length <= s.length
  . unfold preM
    refine Spec.enter Tryd.func39 rfl rfl ?_; intro w0
    repeat' (first | (refine G.atCode ?_; first | refine G.seq ?_ | refine G.region ?_ | refine G.ret ?_) | refine G.endOps ?_ | (refine G.atGd ?_; first | refine G.guardYes rfl rfl ?_ | (refine G.guardS rfl rfl rfl ?_ ?_ <;> intro hc <;> (try simp only [tests, reduceCtorEq] at hc) <;> (try exact Zf))) | (refine G.atBin ?_; first | (refine G.atEql ?_; first | refine G.eqStr rfl rfl rfl ?_) | refine G.op rfl rfl ?_) | refine G.op rfl rfl ?_ | (refine G.atLen ?_; first | refine G.lenStr rfl (tyy rfl) rfl ?_) | (refine G.atSlc ?_; first | refine G.takeStr rfl rfl (tyy rfl) rfl Zj Zo ?_))
    all_goals first | (exfalso; omega) | exact G.done1 rfl rfl _ (SubH.nil _) ⟨rfl, rfl⟩
  . rw [preM_short hle]
    refine Spec.enter Tryd.func39 rfl rfl ?_; intro w0
    repeat' (first | (refine G.atCode ?_; first | refine G.seq ?_ | refine G.region ?_ | refine G.ret ?_) | refine G.endOps ?_ | (refine G.atGd ?_; first | refine G.guardNoS rfl rfl rfl ?_ | (refine G.guardS rfl rfl rfl ?_ ?_ <;> intro hc <;> (try simp only [tests, reduceCtorEq] at hc) <;> (try exact Zf))) | (refine G.atBin ?_; first | refine G.op rfl rfl ?_) | refine G.op rfl rfl ?_ | (refine G.atLen ?_; first | refine G.lenStr rfl (tyy rfl) rfl ?_))
    all_goals first | (exfalso; omega) | exact G.done1 rfl rfl _ (SubH.nil _) ⟨rfl, rfl⟩
theorem str_HasPrefix (s p : List UInt8) (hs : s.length <= 1000000000) (hp : p.length <= 1000000000) (h : Heap) : Spec Tryd.prog 28 [str s, str p] h [] (fun u _ H' => u = .bool (preM p s) /\ H' = []) := by
  refine Spec.enter Tryd.func28 rfl rfl ?_; intro w0
  repeat' (first | (show G _ (.ops .seq _ (⟨some _, .call { callee := .value (.func 39), args := _, argTypes := _ }, _, _, _, none⟩ :: _) :: _) _ _ _; refine G.call callHasP0 rfl rfl (sl_HasPrefix s p hs hp _) Ze ?_; rintro _ h2 H2 ⟨rfl, rfl⟩ hle2) | (refine G.atCode ?_; first | refine G.seq ?_ | refine G.region ?_ | refine G.ret ?_) | refine G.endOps ?_ | refine G.op rfl rfl ?_)
  exact G.done1 rfl rfl _ (SubH.nil _) ⟨rfl, rfl⟩
def cutP (p s : List UInt8) : List UInt8 := if preM p s = true then s.drop p.length else s
theorem preM_le {p s : List UInt8} (h : preM p s = true) : p.length <= s.length := by
  by_cases hle : p.length <= s.length
  . exact hle
  . rw [preM_short hle] at h; cases h
theorem sl_CutPrefix (s p : List UInt8) (hs : s.length <= 1000000000) (hp : p.length <= 1000000000) (h : Heap) : Spec Tryd.prog 51 [str s, str p] h [] (fun u _ H' => u = .tuple #[str (cutP p s), .bool (preM p s)] /\ H' = []) := by
  unfold cutP
  cases hm : preM p s with
  | false =>
    rw [if_neg (by simp)]
    refine Spec.enter Tryd.func51 rfl rfl ?_; intro w0
    repeat' (first | (show G _ (.ops .seq _ (⟨some _, .call { callee := .value (.func 39), args := _, argTypes := _ }, _, _, _, none⟩ :: _) :: _) _ _ _; refine G.call callHasP0 rfl rfl (sl_HasPrefix s p hs hp _) Ze ?_; rintro _ h2 H2 ⟨rfl, rfl⟩ hle2; rw [hm]) | (refine G.atCode ?_; first | refine G.seq ?_ | refine G.region ?_ | refine G.ret ?_ | (refine G.cond rfl ?_ ?_ <;> intro hc <;> (try simp only [tests, reduceCtorEq] at hc) <;> (try exact Zf))) | refine G.endOps ?_ | refine G.op rfl rfl ?_)
    all_goals exact G.done2 rfl rfl rfl _ (SubH.nil _) ⟨rfl, rfl⟩
  | true =>
    rw [if_pos rfl]
    have hle := preM_le hm
    refine Spec.enter Tryd.func51 rfl rfl ?_; intro w0
    repeat' (first | (show G _ (.ops .seq _ (⟨some _, .call { callee := .value (.func 39), args := _, argTypes := _ }, _, _, _, none⟩ :: _) :: _) _ _ _; refine G.call callHasP0 rfl rfl (sl_HasPrefix s p hs hp _) Ze ?_; rintro _ h2 H2 ⟨rfl, rfl⟩ hle2; rw [hm]) | (refine G.atCode ?_; first | refine G.seq ?_ | refine G.region ?_ | refine G.skip ?_ | refine G.ret ?_ | (refine G.cond rfl ?_ ?_ <;> intro hc <;> (try simp only [tests, reduceCtorEq] at hc) <;> (try exact Zf))) | refine G.endOps ?_ | refine G.op rfl rfl ?_ | (refine G.atLen ?_; first | refine G.lenStr rfl (tyy rfl) rfl ?_) | (refine G.atSlc ?_; first | refine G.dropStr rfl rfl (tyy rfl) rfl Zj Zo ?_))
    all_goals exact G.done2 rfl rfl rfl _ (SubH.nil _) ⟨rfl, rfl⟩
theorem str_CutPrefix (s p : List UInt8) (hs : s.length <= 1000000000) (hp : p.length <= 1000000000) (h : Heap) : Spec Tryd.prog 38 [str s, str p] h [] (fun u _ H' => u = .tuple #[str (cutP p s), .bool (preM p s)] /\ H' = []) := by
  refine Spec.enter Tryd.func38 rfl rfl ?_; intro w0
  repeat' (first | (show G _ (.ops .seq _ (⟨some _, .call { callee := .value (.func 51), args := _, argTypes := _ }, _, _, _, none⟩ :: _) :: _) _ _ _; refine G.call callCutP0 rfl rfl (sl_CutPrefix s p hs hp _) Ze ?_; rintro _ h2 H2 ⟨rfl, rfl⟩ hle2) | (refine G.atCode ?_; first | refine G.seq ?_ | refine G.region ?_ | refine G.ret ?_) | refine G.endOps ?_ | refine G.op rfl rfl ?_)
  exact G.done2 rfl rfl rfl _ (SubH.nil _) ⟨rfl, rfl⟩

def sgn : List UInt8 := [61, 60, 62, 126]
def isSg (b : UInt8) : Bool := sgn.contains b
theorem isSg_low {b : UInt8} (h : isSg b = true) : b.toNat < 128 := by
  unfold isSg sgn at h
  simp only [List.contains_eq_mem, List.mem_cons, List.not_mem_nil, or_false, decide_eq_true_eq] at h
  rcases h with rfl | rfl | rfl | rfl <;> decide
def stpQ : List UInt8 -> Nat
  | [] => 0
  | b :: l => if isSg b = true \/ 128 <= b.toNat then 0 else stpQ l + 1
theorem stpQ_le : ∀ s : List UInt8, stpQ s <= s.length
  | [] => Nat.le_refl _
  | b :: l => by have := stpQ_le l; unfold stpQ; split <;> simp only [List.length_cons] <;> omega
theorem stpQ_low : ∀ {s : List UInt8} {i : Nat} (_ : i < stpQ s) (h : i < s.length), isSg s[i] = false /\ (s[i]).toNat < 128
  | [], i, hi, h => absurd h (by simp)
  | b :: l, i, hi, h => by
    unfold stpQ at hi
    split at hi
    . omega
    . rename_i hn
      cases i with
      | zero => simp only [List.getElem_cons_zero]; exact ⟨by cases hx : isSg b with | false => rfl | true => exact absurd (.inl hx) hn, by omega⟩
      | succ i => simp only [List.getElem_cons_succ]; exact stpQ_low (s := l) (by omega) (by simpa using h)
theorem stpQ_at : ∀ {s : List UInt8} (h : stpQ s < s.length), isSg s[stpQ s] = true \/ 128 <= (s[stpQ s]).toNat
  | [], h => absurd h (by simp)
  | b :: l, h => by
    by_cases hb : isSg b = true \/ 128 <= b.toNat
    . have e : stpQ (b :: l) = 0 := by rw [stpQ, if_pos hb]
      simp only [e, List.getElem_cons_zero]; exact hb
    . have e : stpQ (b :: l) = stpQ l + 1 := by rw [stpQ, if_neg hb]
      simp only [e, List.getElem_cons_succ]
      exact stpQ_at (s := l) (by rw [e] at h; simpa using h)
def hitQ (s : List UInt8) : Prop := ∃ b, s[stpQ s]? = some b /\ isSg b = true
def AnyR (s : List UInt8) (a : Int) : Prop := -1 <= a /\ a < s.length /\ (hitQ s -> a = stpQ s) /\ (¬ hitQ s -> a = -1 \/ (0 <= a /\ stpQ s < a.toNat /\ stpQ s < s.length))
theorem indexAny_R : ∀ s : List UInt8, AnyR s (Lib.indexAny s sgn)
  | [] => ⟨Int.le_refl _, by show (-1 : Int) < 0; omega, fun ⟨b, h, _⟩ => by simp at h, fun _ => .inl rfl⟩
  | b :: l => by
    have hge := Lib.indexAny_ge sgn l
    obtain ⟨i1, i2, i3, i4⟩ := indexAny_R l
    have hl : ((b :: l).length : Int) = l.length + 1 := by simp
    by_cases hc : isSg b = true
    . have e0 : Lib.indexAny (b :: l) sgn = 0 := by rw [Lib.indexAny]; exact if_pos hc
      have e1 : stpQ (b :: l) = 0 := by rw [stpQ, if_pos (.inl hc)]
      rw [e0]
      refine ⟨by omega, by omega, fun _ => by rw [e1]; rfl, fun hn => absurd ⟨b, by rw [e1]; rfl, hc⟩ hn⟩
    . have e0 : Lib.indexAny (b :: l) sgn = if Lib.indexAny l sgn == -1 then -1 else Lib.indexAny l sgn + 1 := by rw [Lib.indexAny]; exact if_neg hc
      rw [e0]
      by_cases hh : 128 <= b.toNat
      . have e1 : stpQ (b :: l) = 0 := by rw [stpQ, if_pos (.inr hh)]
        have hn : ¬ hitQ (b :: l) := by
          rintro ⟨x, h1, h2⟩
          rw [e1] at h1
          simp at h1
          subst h1
          exact hc h2
        refine ⟨by split <;> omega, ?_, fun h => absurd h hn, fun _ => ?_⟩
        . split <;> omega
        . split
          . exact .inl rfl
          . rename_i h1
            have : ¬ Lib.indexAny l sgn = -1 := fun e => h1 (beq_iff_eq.2 e)
            exact .inr ⟨by omega, by rw [e1]; omega, by rw [e1]; simp⟩
      . have e1 : stpQ (b :: l) = stpQ l + 1 := by rw [stpQ, if_neg (fun h => h.elim hc hh)]
        have hh' : hitQ (b :: l) ↔ hitQ l := by unfold hitQ; rw [e1]; simp
        refine ⟨by split <;> omega, by split <;> omega, fun h => ?_, fun h => ?_⟩
        . have := i3 (hh'.1 h)
          rw [if_neg (fun e => by have := beq_iff_eq.1 e; omega), e1]; omega
        . rcases i4 (fun x => h (hh'.2 x)) with h1 | ⟨h1, h2, h3⟩
          . rw [h1]; exact .inl rfl
          . rw [if_neg (fun e => by have := beq_iff_eq.1 e; omega)]
            refine .inr ⟨by omega, by rw [e1]; omega, by rw [e1]; simpa using h3⟩
theorem AnyR.typ {s : List UInt8} {a : Int} (h : AnyR s a) (hn : ¬ hitQ s) (ha : 0 <= a) : ∃ i, i < a.toNat /\ i < s.length /\ 128 <= byteAt s i := by
  obtain ⟨_, h2, _, h4⟩ := h
  rcases h4 hn with h | ⟨_, h5, h6⟩
  . omega
  . refine ⟨stpQ s, h5, h6, ?_⟩
    rw [byteAt_eq h6]
    rcases stpQ_at h6 with h7 | h7
    . exact absurd ⟨_, List.getElem?_eq_getElem h6, h7⟩ hn
    . exact h7
theorem utf8_ValidRune (r : Int) (h : Heap) : Spec Tryd.prog 61 [.int .i32 r] h [] (fun u _ H' => u = .bool (validRune r) /\ H' = []) := by
  unfold validRune
  refine Spec.enter Tryd.func61 rfl rfl ?_; intro w0
  repeat' (first | (refine G.atCode ?_; first | refine G.seq ?_ | refine G.region ?_ | refine G.block ?_ | refine G.skip ?_ | refine G.ret ?_ | (refine G.cond rfl ?_ ?_ <;> intro hc <;> (try simp only [tests, reduceCtorEq] at hc) <;> (try exact Zf))) | refine G.endOps ?_ | refine G.endBlk ?_ | (refine G.atGd ?_; first | refine G.guardYes rfl rfl ?_ | refine G.guardNoS rfl rfl rfl ?_ | (refine G.guardS rfl rfl rfl ?_ ?_ <;> intro hc <;> (try simp only [tests, reduceCtorEq] at hc) <;> (try exact Zf))) | (refine G.atBin ?_; first | refine G.op rfl rfl ?_) | refine G.op rfl rfl ?_)
  all_goals exact G.done1 rfl rfl _ (SubH.nil _) ⟨(by first | exact congrArg Value.bool (decide_eq_decide.2 (by omega)) | exact congrArg Value.bool (decide_eq_true (by omega)).symm | exact congrArg Value.bool (decide_eq_false (by omega)).symm), rfl⟩
section
variable {E : Env} {k : List It} {f : Fr} {h : Heap} {H : List Chunk} {st : Md} [hmd : OkMd st h H] {all : Array Oper} {rest : List Oper} {d : Nat} {ty : TypeId} {pos : String} {aft : Array Edge}
theorem G.convRune {s t : TypeId} {x : Operand} {kd ks : IntKind} {a : Int} {sz by_ ss sb : Nat} {z sv : Value} (hx : ev f x = some (.int kd a)) (hs : Ty E.P s (.int ks) ss sb sv) (ht : Ty E.P t .str sz by_ z) (hd : Nat.blt d E.n = true)
    (g : G E (.ops st all rest :: k) ((d, str (Utf8.encode a).data.toList) :: f) h H) :
    G E (.ops st all (⟨some d, .convert s t x, ty, pos, aft, none⟩ :: rest) :: k) f h H := by
  refine G.opVal hd (fun _ b w ha _ => ?_) g
  have hu := hs.fits
  have := ht.fits
  simp only [TD.fits] at this hu
  simp only [execOp, ev_eq ha hx]
  have h9 := run_convert_int_string (P := E.P) w s t kd a (by rw [hu]; rfl) this
  simp only [Sem.run_bind, h9]
  rfl
end
end Go.Proofs.YtcghcdnmpjhifaaDoor
