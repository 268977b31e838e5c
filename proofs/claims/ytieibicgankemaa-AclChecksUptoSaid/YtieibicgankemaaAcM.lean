/- Rules of access, in plain Lean. -/
import Derived.Test.YtieibicgankemaaDnV
namespace Go.Proofs.Ytieibicgankemaa
set_option linter.all false
set_option maxRecDepth 4000
open Go.RowKit

/-- A rule: whom it speaks of, a name, where, of which attribute, which rights, whether they are given. -/
structure Rl where
  who : Int
  dn : List UInt8
  wh : List UInt8
  attr : List UInt8
  rights : Int
  allow : Bool
def Rl.vals (r : Rl) : List Value := [.int .i64 r.who, str r.dn, str r.wh, str r.attr, .int .i64 r.rights, .bool r.allow]
/-- A rule whose names are read. -/
abbrev RlD := Rl × Dn × Dn
def typM (T : List (List UInt8)) (a : List UInt8) : Bool := T.any fun t => sameT t a
/-- One rule: its names, or what is wrong with it first. -/
def ruM (T : List (List UInt8)) (r : Rl) : Except Int (Dn × Dn) :=
  if r.who < 0 ∨ 4 < r.who then .error 24 else match parseM r.dn with
  | .error e => .error e
  | .ok d => if r.who < 3 ∧ d.length ≠ 0 then .error 2 else match parseM r.wh with
    | .error e => .error e
    | .ok w => if r.attr.length ≠ 0 ∧ typM T r.attr = false then .error 20 else if r.rights < 1 ∨ 15 < r.rights then .error 23 else .ok (d, w)
def rusM (T : List (List UInt8)) : List Rl → Except Int (List RlD)
  | [] => .ok []
  | r :: rs => match ruM T r with
    | .error e => .error e
    | .ok x => match rusM T rs with
      | .error e => .error e
      | .ok l => .ok ((r, x) :: l)
def newM (T : List (List UInt8)) (admin : Dn) (rs : List Rl) : Except Int (List RlD) := if (printM admin).2 ≠ 0 then .error (printM admin).2 else rusM T rs
def sameD (a b : Dn) : Bool := decide (a.length = b.length) && underM a b
def speakM (who entry : Dn) (x : RlD) : Bool :=
  if x.1.who = 1 then decide (0 < who.length) else if x.1.who = 2 then sameD who entry else if x.1.who = 3 then sameD who x.2.1 else if x.1.who = 4 then decide (0 < who.length) && underM who x.2.1 else true
def rightM (rights right : Int) : Bool := decide (((rights % 18446744073709551616).toNat &&& right.toNat : Nat) ≠ 0)
def hitM (who entry : Dn) (attr : List UInt8) (right : Int) (x : RlD) : Bool :=
  rightM x.1.rights right && (decide (x.1.attr.length = 0) || sameT x.1.attr attr) && underM entry x.2.2 && speakM who entry x
def firstM (who entry : Dn) (attr : List UInt8) (right : Int) : List RlD → Bool
  | [] => false
  | x :: l => if hitM who entry attr right x = true then x.1.allow else firstM who entry attr right l
def okRight (right : Int) : Prop := right = 1 ∨ right = 2 ∨ right = 4 ∨ right = 8
instance (right : Int) : Decidable (okRight right) := by unfold okRight; infer_instance
/-- Who and which entry, and the right, may be asked for. -/
def askM (who entry : Dn) (right : Int) : Prop := (printM who).2 = 0 ∧ (printM entry).2 = 0 ∧ okRight right
instance (who entry : Dn) (right : Int) : Decidable (askM who entry right) := by unfold askM; infer_instance
def mayM (admin : Dn) (rs : List RlD) (who entry : Dn) (attr : List UInt8) (right : Int) : Bool :=
  if askM who entry right then (if 0 < who.length ∧ sameD who admin = true then true else firstM who entry attr right rs) else false
theorem norm_print {d : Dn} (h : (printM d).2 = 0) : normM d = (txt true d, 0) := by
  obtain ⟨h1, h2, _⟩ := print_ok h
  exact norm_of h1 h2
theorem under_same {a b : Dn} (hl : a.length = b.length) (ha : (printM a).2 = 0) (hb : (printM b).2 = 0) : underM a b = decide (txt true a = txt true b) := by
  unfold underM
  rw [norm_print hb, if_neg (by simp only [ha]; omega), hl, Nat.sub_self, List.drop_zero]
theorem parM_ne : ∀ (n : Nat) (out : Dn) (now : Rdn) (s : List UInt8) (d : Dn), parM n out now s = .ok d → d ≠ []
  | 0, out, now, s, d, h => by simp [parM] at h
  | n + 1, out, now, s, d, h => by
    rw [parM] at h
    split at h
    · cases h
    · split at h
      · cases h
      · split at h
        · cases h
        · split at h
          · cases h
          · injection h with h; subst h; simp
          · split at h
            · exact parM_ne n _ _ _ _ h
            · exact parM_ne n _ _ _ _ h
theorem parse_nil {s : List UInt8} {d : Dn} (h : parseM s = .ok d) : d.length = 0 ↔ s.length = 0 := by
  constructor
  · intro hd
    have hd : d = [] := List.eq_nil_of_length_eq_zero hd
    subst hd
    by_cases hs : s = []
    · rw [hs]; rfl
    · exfalso
      unfold parseM at h
      split at h
      · cases h
      · first
          | exact parM_ne _ _ _ _ _ h rfl
          | (rw [if_neg hs] at h; exact parM_ne _ _ _ _ _ h rfl)
  · intro hs
    have hs : s = [] := List.eq_nil_of_length_eq_zero hs
    subst hs
    simp [parseM] at h
    subst h; rfl
end Go.Proofs.Ytieibicgankemaa
