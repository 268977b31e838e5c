/- tlv.Parse, tlv.Whole; the reference's Same, Twin. -/
import Derived.Test.YtibkffoeioidlaaDoorTlvP
namespace Go.Proofs.YtibkffoeioidlaaDoor
set_option linter.all false
set_option maxRecDepth 4000
open Go.RowKit

def par (s : List UInt8) : Nd × List UInt8 × Int := parM 64 s
def who (s : List UInt8) : Nd × Int := if (par s).2.2 ≠ 0 then (zN, (par s).2.2) else if (par s).2.1.length ≠ 0 then (zN, 4) else ((par s).1, 0)
theorem par_eq (s : List UInt8) : par s = parM 64 s := rfl
attribute [irreducible] par

theorem callParse1 : Callable Tryd.prog 86 := ⟨_, Tryd.func86, by kernel_rfl, rfl⟩
theorem callWhole : Callable Tryd.prog 59 := ⟨_, Tryd.func59, by kernel_rfl, rfl⟩
theorem tlv_parse1 (s : List UInt8) (hs : s.length <= 9223372036854775807) (h : Heap) :
    Spec Tryd.prog 105 [str s, .int .i64 1] h [] (fun v h' H' => H' = [] /\ ∃ r, NodeC h' (par s).1 r /\ v = .tuple #[.agg r.toArray, str (par s).2.1, .int .i64 (par s).2.2]) := by
  rw [par_eq]; exact tlv_parse 64 s hs 1 (by omega) (by omega) h

theorem tlv_Parse (s : List UInt8) (hs : s.length <= 9223372036854775807) (h : Heap) :
    Spec Tryd.prog 86 [str s] h [] (fun v h' H' => H' = [] /\ ∃ r, NodeC h' (par s).1 r /\ v = .tuple #[.agg r.toArray, str (par s).2.1, .int .i64 (par s).2.2]) := by
  refine Spec.enter Tryd.func86 rfl rfl ?_; intro w0
  repeat' (first | (show G _ (.ops .seq _ (⟨some _, .call { callee := .value (.func 105), args := _, argTypes := _ }, _, _, _, none⟩ :: _) :: _) _ _ _; refine G.call callParse rfl rfl (tlv_parse1 _ hs _) (by solve | repeat first | apply Zn | apply Zh | apply Zt | apply Zc) ?_; rintro _ h1 H1 ⟨rfl, rr, hn, rfl⟩ hle; obtain ⟨nt, nd, nA, nm, nc, rfl⟩ := NodeC.shape hn) | (refine G.atCode ?_; first | refine G.seq ?_ | refine G.region ?_ | refine G.ret ?_) | refine G.endOps ?_ | refine G.op rfl rfl ?_ | (refine G.atSto ?_; refine G.storeOwn rfl rfl (tyy rfl) (by solve | repeat first | apply Zh | apply Zt) rfl rfl rfl rfl ?_) | (refine G.atAlc ?_; refine G.alloc (tyy rfl) rfl rfl ?_; intro _))
  exact G.done (rs := [.cell 2 90, .tmp 3, .tmp 4]) rfl (.cellA rfl (tyy rfl) rfl rfl (by solve | repeat first | apply Zh | apply Zt) rfl (.tmp rfl (.tmp rfl .nil))) rfl [] (SubH.nil _) ⟨rfl, _, hn, rfl⟩

theorem tlv_Whole (s : List UInt8) (hs : s.length <= 9223372036854775807) (h : Heap) :
    Spec Tryd.prog 59 [str s] h [] (fun v h' H' => H' = [] /\ ∃ r, NodeC h' (who s).1 r /\ v = .tuple #[.agg r.toArray, .int .i64 (who s).2]) := by
  refine Spec.enter Tryd.func59 rfl rfl ?_; intro w0
  repeat' (first | (show G _ (.ops .seq _ (⟨some _, .call { callee := .value (.func 86), args := _, argTypes := _ }, _, _, _, none⟩ :: _) :: _) _ _ _; refine G.call callParse1 rfl rfl (tlv_Parse _ hs _) (by solve | repeat first | apply Zn | apply Zh | apply Zt | apply Zc) ?_; rintro _ h1 H1 ⟨rfl, rr, hn, rfl⟩ hle; obtain ⟨nt, nd, nA, nm, nc, rfl⟩ := NodeC.shape hn) | (refine G.atCode ?_; first | refine G.seq ?_ | refine G.region ?_ | refine G.skip ?_ | refine G.ret ?_ | (refine G.cond rfl ?_ ?_ <;> intro hc <;> (try simp only [tests, reduceCtorEq] at hc) <;> (try (exfalso; first | omega | exact Zx hc | exact Zy hc | exact Zb hc | exact hc | exact hc trivial)))) | refine G.endOps ?_ | (refine G.atGd ?_; first | refine G.guardYes rfl rfl ?_ | refine G.guardNoS rfl rfl rfl ?_ | (refine G.guardS rfl rfl rfl ?_ ?_ <;> intro hc <;> (try simp only [tests, reduceCtorEq] at hc) <;> (try (exfalso; first | omega | exact Zx hc | exact Zy hc | exact Zb hc | exact hc | exact hc trivial)))) | (refine G.atBin ?_; first | (refine G.atEql ?_; first | refine G.op rfl rfl ?_) | (refine G.atNeq ?_; first | refine G.op rfl rfl ?_ | refine G.neStr0 rfl rfl rfl ?_)) | refine G.op rfl rfl ?_ | (refine G.atLoad ?_; first | refine G.loadOwnA rfl (tyy rfl) rfl rfl (by solve | repeat first | apply Zh | apply Zt) rfl rfl ?_) | (refine G.atSto ?_; refine G.storeOwn rfl rfl (tyy rfl) (by solve | repeat first | apply Zh | apply Zt) rfl rfl rfl rfl ?_) | (refine G.atAlc ?_; refine G.alloc (tyy rfl) rfl rfl ?_; intro _) | (refine G.atBld ?_; refine G.build (tyy rfl) rfl rfl rfl ?_))
  . have e : who s = (zN, 4) := by unfold who; repeat (first | rw [if_pos (by omega)] | rw [if_neg (by omega)] | rw [if_pos (by assumption)] | rw [if_neg (by assumption)] | rw [if_neg (by simp only [*]; decide)] | rw [if_neg (show ¬ (true = false) from fun e => by cases e)])
    refine G.done (rs := [.cell 2 90, .tmp 3]) rfl (.cellA rfl (tyy rfl) rfl rfl (by solve | repeat first | apply Zh | apply Zt) rfl (.tmp rfl .nil)) rfl [] (SubH.nil _) ?_
    rw [e]; exact ⟨rfl, _, zN_C _, rfl⟩
  . have e : who s = ((par s).1, 0) := by unfold who; repeat (first | rw [if_pos (by omega)] | rw [if_neg (by omega)] | rw [if_pos (by assumption)] | rw [if_neg (by assumption)] | rw [if_neg (by simp only [*]; decide)] | rw [if_neg (show ¬ (true = false) from fun e => by cases e)])
    refine G.done (rs := [.cell 2 90, .tmp 3]) rfl (.cellA rfl (tyy rfl) rfl rfl (by solve | repeat first | apply Zh | apply Zt) rfl (.tmp rfl .nil)) rfl [] (SubH.nil _) ?_
    rw [e]; exact ⟨rfl, _, hn, rfl⟩
  all_goals
    have e : who s = (zN, (par s).2.2) := by unfold who; repeat (first | rw [if_pos (by omega)] | rw [if_neg (by omega)] | rw [if_pos (by assumption)] | rw [if_neg (by assumption)] | rw [if_neg (by simp only [*]; decide)] | rw [if_neg (show ¬ (true = false) from fun e => by cases e)])
    refine G.done (rs := [.cell 2 90, .tmp 3]) rfl (.cellA rfl (tyy rfl) rfl rfl (by solve | repeat first | apply Zh | apply Zt) rfl (.tmp rfl .nil)) rfl [] (SubH.nil _) ?_
    rw [e]; exact ⟨rfl, _, zN_C _, rfl⟩

theorem NodeC.box {h : Heap} {n : Nd} {r : List Value} (hn : NodeC h n r) : ∃ t d ks A m c rows, n = .mk t d ks /\ r = [.int .i64 t, str d, .slice A m c] /\ HSl h (.slice A m c) 3 rows /\ KidsC h ks rows := by
  cases n with
  | mk t d ks =>
    obtain ⟨v, rows, rfl, hs, hk⟩ := NodeC.open_ hn
    obtain ⟨A, c, rfl, _⟩ := hs.form
    exact ⟨t, d, ks, A, _, c, rows, rfl, rfl, hs, hk⟩

mutual
def Nd.sz : Nd -> Nat
  | .mk _ _ ks => 1 + szs ks
def szs : List Nd -> Nat
  | [] => 0
  | k :: ks => Nd.sz k + szs ks
end
theorem sz_mem : ∀ {ks : List Nd} {k : Nd}, k ∈ ks -> k.sz <= szs ks
  | [], _, h => by cases h
  | q :: ks, k, h => by
    simp only [szs]
    rcases List.mem_cons.1 h with rfl | h
    . omega
    . have := sz_mem h; omega
theorem sz_kid {t : Int} {d : List UInt8} {ks : List Nd} {i : Nat} {k : Nd} (h : ks[i]? = some k) : k.sz < (Nd.mk t d ks).sz := by
  have := sz_mem (List.mem_of_getElem? h)
  simp only [Nd.sz]; omega

def Few : Nd -> Prop := fun n => n.sz <= 1073741824

end Go.Proofs.YtibkffoeioidlaaDoor
