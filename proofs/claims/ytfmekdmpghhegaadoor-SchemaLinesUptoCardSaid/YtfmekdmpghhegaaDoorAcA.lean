/- Rules of access, in plain Lean. -/
import Derived.Test.YtfmekdmpghhegaaDoorDnV
import Derived.Test.YtfmekdmpghhegaaDoorLtP
namespace Go.Proofs.YtfmekdmpghhegaaDoor
set_option linter.all false
set_option maxRecDepth 4000
open Go.RowKit

/-- A rule: whom it speaks of, a name, where, of which attribute, which rights, whether they are given. -/
structure Rl where
  who : Int
  dn : List UInt8
  wh : List UInt8
  attr : List UInt8
  rights : Int
  allow : Bool
def okRight (right : Int) : Prop := right = 1 ∨ right = 2 ∨ right = 4 ∨ right = 8
instance (right : Int) : Decidable (okRight right) := by unfold okRight; infer_instance
/-- Who and which entry, and the right, may be asked for. -/
def askM (who entry : Dn) (right : Int) : Prop := (printM who).2 = 0 ∧ (printM entry).2 = 0 ∧ okRight right
instance (who entry : Dn) (right : Int) : Decidable (askM who entry right) := by unfold askM; infer_instance
end Go.Proofs.YtfmekdmpghhegaaDoor
namespace Go.Proofs.YtfmekdmpghhegaaDoor
set_option linter.all false
set_option maxRecDepth 4000
open Go.RowKit

abbrev Ty4 := List UInt8 × Int × Bool × Bool
def tyR (l : List Ty4) : List (List Value) := l.map fun t => [str t.1, .int .i64 t.2.1, .bool t.2.2.1, .bool t.2.2.2]
theorem tyR_length (l : List Ty4) : (tyR l).length = l.length := by simp [tyR]
theorem tyR_app (a b : List Ty4) : tyR (a ++ b) = tyR a ++ tyR b := by simp [tyR]
theorem tyR_get {l : List Ty4} {i : Nat} {t : Ty4} (h : l[i]? = some t) : (tyR l)[i]? = some [str t.1, .int .i64 t.2.1, .bool t.2.2.1, .bool t.2.2.2] := by simp [tyR, h]
/-- Names that are short enough. -/
def TyOk4 (l : List Ty4) : Prop := ∀ t ∈ l, t.1.length ≤ 100000000
theorem callLike : Callable Tryd.prog 30 := ⟨_, Tryd.func30, by kernel_rfl, rfl⟩
theorem callKind1 : Callable Tryd.prog 35 := ⟨_, Tryd.func35, by kernel_rfl, rfl⟩
theorem callIdxTy : Callable Tryd.prog 34 := ⟨_, Tryd.func34, by kernel_rfl, rfl⟩
theorem callKind : Callable Tryd.prog 23 := ⟨_, Tryd.func23, by kernel_rfl, rfl⟩
theorem schema_like (a b : List UInt8) (ha : a.length ≤ 100000000) (hb : b.length ≤ 100000000) (h : Heap) : Spec Tryd.prog 30 [str a, str b] h [] (fun u _ H' => u = .bool (sameT a b) ∧ H' = []) := by
  unfold sameT
  refine Spec.enter Tryd.func30 rfl rfl ?_; intro w0
  repeat' (first | (show G _ (.ops .seq _ (⟨some _, .call { callee := .value (.func 21), args := _, argTypes := _ }, _, _, _, none⟩ :: _) :: _) _ _ _; refine G.call callFold rfl rfl (octet_Fold a ha _) (by solve | (repeat (first | apply Takes.nil | apply Take.hd | apply Take.tl | apply Takes.cons))) ?_; rintro _ h2 H2 ⟨rfl, rfl⟩ hle2) | (show G _ (.ops .seq _ (⟨some _, .call { callee := .value (.func 21), args := _, argTypes := _ }, _, _, _, none⟩ :: _) :: _) _ _ _; refine G.call callFold rfl rfl (octet_Fold b hb _) (by solve | (repeat (first | apply Takes.nil | apply Take.hd | apply Take.tl | apply Takes.cons))) ?_; rintro _ h3 H3 ⟨rfl, rfl⟩ hle3) | (refine G.atCode ?_; first | refine G.seq ?_ | refine G.region ?_ | refine G.ret ?_) | refine G.endOps ?_ | (refine G.atBin ?_; first | (refine G.atEql ?_; first | refine G.eqStr rfl rfl rfl ?_)) | refine G.op rfl rfl ?_)
  all_goals exact G.done1 rfl rfl [] (SubH.nil _) ⟨rfl, rfl⟩
theorem schema_kind1 (t : Ty4) (w : List UInt8) (ht : t.1.length ≤ 100000000) (hw : w.length ≤ 100000000) (g : Nat) (h : Heap) :
    Spec Tryd.prog 35 [.agg #[str t.1, .int .i64 t.2.1, .bool t.2.2.1, .bool t.2.2.2], .pointer (some ⟨g, 0, none⟩)] h [.blk g [str w] 9] (fun u _ H' => u = .bool (sameT t.1 w) ∧ H' = [.blk g [str w] 9]) := by
  refine Spec.enter Tryd.func35 rfl rfl ?_; intro w0
  repeat' (first | (show G _ (.ops .seq _ (⟨some _, .call { callee := .value (.func 30), args := _, argTypes := _ }, _, _, _, none⟩ :: _) :: _) _ _ _; refine G.call callLike rfl rfl (schema_like t.1 w ht hw _) (by solve | (repeat (first | apply Takes.nil | apply Take.hd | apply Take.tl | apply Takes.cons))) ?_; rintro _ h2 H2 ⟨rfl, rfl⟩ hle2) | (refine G.atCode ?_; first | refine G.seq ?_ | refine G.region ?_ | refine G.ret ?_) | refine G.endOps ?_ | refine G.op rfl rfl ?_ | (refine G.atLoad ?_; first | refine G.loadOwn1 rfl (tyy rfl) rfl rfl (by solve | (repeat (first | apply Take.hd | apply Take.tl))) rfl rfl ?_) | (refine G.atFld ?_; first | refine G.fieldAddr rfl (tyy rfl) rfl rfl ?_) | (refine G.atBox ?_; refine G.box rfl rfl rfl ?_; intro _))
  all_goals (refine G.done1 rfl rfl _ ?_ ⟨rfl, rfl⟩; solve | (apply Takes.sub; (repeat (first | apply Takes.nil | apply Take.hd | apply Take.tl | apply Takes.cons))))
def tyB (syn : Int) (names : List (List UInt8)) : List Ty4 := names.map fun n => (n, syn, false, false)
end Go.Proofs.YtfmekdmpghhegaaDoor
