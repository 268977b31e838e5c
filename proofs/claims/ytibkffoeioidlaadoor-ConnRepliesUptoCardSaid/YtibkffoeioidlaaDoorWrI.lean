/- Elements that can be written, but for their size; those that were read are such. -/
import Derived.Test.YtibkffoeioidlaaDoorTlvS
import Derived.Test.YtibkffoeioidlaaDoorTlvQ
import Derived.Test.YtibkffoeioidlaaDoorWrG
import Derived.Test.YtibkffoeioidlaaDoorFlK
namespace Go.Proofs.YtibkffoeioidlaaDoor
set_option linter.all false
set_option maxRecDepth 4000
open Go.RowKit

mutual
def WfN : Nd → Nat → Prop
  | .mk t d ks, f => 0 < f ∧ 0 ≤ t ∧ t ≤ 255 ∧ ((t.toNat &&& 31 : Nat) : Int) ≠ 31 ∧ (((t.toNat &&& 32 : Nat) : Int) ≠ 0 → d.length = 0) ∧ (((t.toNat &&& 32 : Nat) : Int) = 0 → ks.length = 0) ∧ WfKs ks (f - 1)
def WfKs : List Nd → Nat → Prop
  | [], _ => True
  | k :: ks, f => WfN k f ∧ WfKs ks f
end
mutual
theorem WfN.mono : ∀ (a : Nd) {f g : Nat}, WfN a f → f ≤ g → WfN a g
  | .mk t d ks, f, g, h, hl => by
    rw [WfN] at h ⊢
    obtain ⟨h1, h2, h3, h4, h5, h6, h7⟩ := h
    exact ⟨by omega, h2, h3, h4, h5, h6, WfKs.mono ks h7 (by omega)⟩
theorem WfKs.mono : ∀ (l : List Nd) {f g : Nat}, WfKs l f → f ≤ g → WfKs l g
  | [], _, _, _, _ => by rw [WfKs]; trivial
  | k :: ks, f, g, h, hl => by
    rw [WfKs] at h ⊢
    exact ⟨WfN.mono k h.1 hl, WfKs.mono ks h.2 hl⟩
end
theorem WfKs.mem : ∀ {l : List Nd} {f : Nat}, WfKs l f → ∀ n ∈ l, WfN n f
  | [], _, _, n, hn => by simp at hn
  | k :: ks, f, h, n, hn => by
    rw [WfKs] at h
    rcases List.mem_cons.1 hn with rfl | hn
    · exact h.1
    · exact WfKs.mem h.2 n hn
theorem WfKs.of : ∀ {l : List Nd} {f : Nat}, (∀ n ∈ l, WfN n f) → WfKs l f
  | [], _, _ => by rw [WfKs]; trivial
  | k :: ks, f, h => by
    rw [WfKs]
    exact ⟨h k (List.mem_cons_self ..), WfKs.of fun n hn => h n (List.mem_cons_of_mem _ hn)⟩
theorem kids_wf {p : List UInt8 → Nd × List UInt8 × Int} {f : Nat} (hp : ∀ s, (p s).2.2 = 0 → WfN (p s).1 f) : ∀ (n : Nat) (s : List UInt8), WfKs (kidsM p n s).1 f
  | 0, s => by rw [kidsM, WfKs]; trivial
  | n + 1, s => by
    have ih := kids_wf hp n (p s).2.1
    by_cases h0 : s.length = 0
    · rw [kidsM_nil h0, WfKs]; trivial
    · by_cases h1 : (p s).2.2 = 0
      · rw [kidsM_ok1 h0 h1]
        split
        · rw [WfKs]; trivial
        · rw [WfKs]; exact ⟨hp s h1, ih⟩
      · rw [kidsM_err1 h0 h1, WfKs]; trivial
theorem parM_wf : ∀ (f : Nat) (s : List UInt8), (parM f s).2.2 = 0 → WfN (parM f s).1 f
  | 0, s, h => by simp [parM] at h
  | f + 1, s, h => by
    have hb := byteAt_lt s 0
    rw [parM] at h ⊢
    split at h
    · cases h
    rename_i h0
    rw [if_neg h0]
    split at h
    · cases h
    rename_i h1
    rw [if_neg h1]
    split at h
    · rename_i h2; exact absurd h h2
    rename_i h2
    rw [if_neg h2]
    split at h
    · rename_i h3
      rw [if_pos h3, WfN]
      exact ⟨by omega, by omega, by omega, by rw [Int.toNat_natCast]; exact h1, fun h => absurd h3 (by rw [Int.toNat_natCast] at h; exact h), fun _ => rfl, by rw [WfKs]; trivial⟩
    rename_i h3
    rw [if_neg h3]
    split at h
    · rename_i h4; exact absurd h h4
    rename_i h4
    rw [if_neg h4, WfN]
    exact ⟨by omega, by omega, by omega, by rw [Int.toNat_natCast]; exact h1, fun _ => rfl, fun h => absurd (by rw [Int.toNat_natCast] at h; exact h) h3, kids_wf (parM_wf f) _ _⟩
theorem who_wf {s : List UInt8} (h : (who s).2 = 0) : WfN (who s).1 64 := by
  unfold who at h ⊢
  split at h
  · rename_i hc; exact absurd h hc
  · rename_i hc
    rw [if_neg hc]
    split at h
    · cases h
    · rename_i hc2
      rw [if_neg hc2, par_eq]
      exact parM_wf 64 s (by rw [← par_eq]; simpa using hc)
theorem kids_wt {p : List UInt8 → Nd × List UInt8 × Int} (hp : ∀ s, (p s).2.2 = 0 → (p s).1.wt + (p s).2.1.length ≤ s.length) : ∀ (n : Nat) (s : List UInt8), wts (kidsM p n s).1 ≤ s.length
  | 0, s => by rw [kidsM, wts]; exact Nat.zero_le _
  | n + 1, s => by
    have ih := kids_wt hp n (p s).2.1
    by_cases h0 : s.length = 0
    · rw [kidsM_nil h0, wts]; exact Nat.zero_le _
    · by_cases h1 : (p s).2.2 = 0
      · rw [kidsM_ok1 h0 h1]
        have := hp s h1
        split
        · rw [wts]; exact Nat.zero_le _
        · rw [wts]; omega
      · rw [kidsM_err1 h0 h1, wts]; exact Nat.zero_le _
theorem parM_wt : ∀ (f : Nat) (s : List UInt8), (parM f s).2.2 = 0 → (parM f s).1.wt + (parM f s).2.1.length ≤ s.length
  | 0, s, h => by simp [parM] at h
  | f + 1, s, h => by
    have key : lenE s = 0 → ¬ s.length = 0 → 2 + (innM s).length + (restM s).length ≤ s.length := fun h1 h2 => by
      have := lenE_ok h1
      have := innM_len h1
      unfold restM
      rw [List.length_drop]; omega
    have hk := kids_wt (parM_wt f) (innM s).length (innM s)
    rw [parM] at h ⊢
    split at h
    · cases h
    rename_i h0
    rw [if_neg h0]
    split at h
    · cases h
    rename_i h1
    rw [if_neg h1]
    split at h
    · rename_i h2; exact absurd h h2
    rename_i h2
    have h2' : lenE s = 0 := by simpa using h2
    have := key h2' h0
    rw [if_neg h2]
    split at h
    · rename_i h3
      rw [if_pos h3]
      simp only [Nd.wt, wts]; omega
    rename_i h3
    rw [if_neg h3]
    split at h
    · rename_i h4; exact absurd h h4
    rename_i h4
    rw [if_neg h4]
    simp only [Nd.wt, List.length_nil]; omega
theorem who_wt {s : List UInt8} (h : (who s).2 = 0) : (who s).1.wt ≤ s.length := by
  unfold who at h ⊢
  split at h
  · rename_i hc; exact absurd h hc
  · rename_i hc
    rw [if_neg hc]
    split at h
    · cases h
    · rename_i hc2
      rw [if_neg hc2]
      have := parM_wt 64 s (by rw [← par_eq]; simpa using hc)
      rw [← par_eq] at this
      simp only; omega
end Go.Proofs.YtibkffoeioidlaaDoor
namespace Go.Proofs.YtibkffoeioidlaaDoor
set_option linter.all false
set_option maxRecDepth 4000
open Go.RowKit

theorem chkE_pc (ps : Pcs) : chkE (.mk 4 [97] [] ps []) = if pcsOk ps = true then 0 else 4 := by
  unfold chkE
  rw [chkM, if_neg (by omega), if_neg (by omega), if_neg (by omega), if_neg (by omega), if_neg (by decide)]
  cases pcsOk ps
  · rw [if_pos ⟨rfl, rfl⟩, if_neg (by simp)]
  · rw [if_neg (by simp), if_pos rfl]
def RfR (gc : Nat) (o : Option (Fl × Nat)) (u : Value) (h' : Heap) (H' : List Chunk) : Prop := ∃ (k : Int) (a v : Bs) (A : Option Addr) (m1 c : Nat) (B : Option Addr) (m2 d n' : Nat) (b : Bool),
  u = .tuple #[.agg #[.int .i64 k, str a, str v, .slice A m1 c, .slice B m2 d], .bool b] ∧ H' = [.blk gc [.int .i64 n'] 3] ∧
  ((b = true ∧ ∃ fl, o = some (fl, n') ∧ FlC h' fl [.int .i64 k, str a, str v, .slice A m1 c, .slice B m2 d]) ∨ (b = false ∧ o = none))
theorem RfR.ok {gc : Nat} {o : Option (Fl × Nat)} {h' : Heap} {k : Int} {a v : Bs} {A : Option Addr} {m1 c : Nat} {B : Option Addr} {m2 d n' : Nat} {fl : Fl} (ho : o = some (fl, n')) (hf : FlC h' fl [.int .i64 k, str a, str v, .slice A m1 c, .slice B m2 d]) :
    RfR gc o (.tuple #[.agg #[.int .i64 k, str a, str v, .slice A m1 c, .slice B m2 d], .bool true]) h' [.blk gc [.int .i64 n'] 3] := ⟨k, a, v, A, m1, c, B, m2, d, n', true, rfl, rfl, .inl ⟨rfl, fl, ho, hf⟩⟩
theorem RfR.no {gc : Nat} {o : Option (Fl × Nat)} {h' : Heap} {k : Int} {a v : Bs} {A : Option Addr} {m1 c : Nat} {B : Option Addr} {m2 d n' : Nat} (ho : o = none) :
    RfR gc o (.tuple #[.agg #[.int .i64 k, str a, str v, .slice A m1 c, .slice B m2 d], .bool false]) h' [.blk gc [.int .i64 n'] 3] := ⟨k, a, v, A, m1, c, B, m2, d, n', false, rfl, rfl, .inr ⟨rfl, ho⟩⟩
theorem RfR.ofB {gc : Nat} {o : Option (Fl × Nat)} {h' : Heap} {k : Int} {a v : Bs} {A : Option Addr} {m1 c : Nat} {B : Option Addr} {m2 d n' : Nat} {fl : Fl} (P : Bool) (ho : o = if P = true then some (fl, n') else none) (hf : FlC h' fl [.int .i64 k, str a, str v, .slice A m1 c, .slice B m2 d]) :
    RfR gc o (.tuple #[.agg #[.int .i64 k, str a, str v, .slice A m1 c, .slice B m2 d], .bool P]) h' [.blk gc [.int .i64 n'] 3] := by
  cases P with
  | true => exact RfR.ok (by rw [ho, if_pos rfl]) hf
  | false => exact RfR.no (by rw [ho, if_neg Bool.false_ne_true])
def PsWf (s : PS) (w : Nat) : Prop := ∀ l, s = some l → WfKs l w
theorem PsWf.nxt {s : PS} {w : Nat} (h : PsWf s w) (t : Int) : PsWf (nxt t s) w := by
  intro l hl
  rcases psW_cases t s with ⟨e, _⟩ | ⟨n, l', e0, e, _⟩
  · rw [e] at hl; cases hl
  · rw [e] at hl
    injection hl with hl
    subst hl
    have := h _ e0
    rw [WfKs] at this
    exact this.2
theorem PsWf.nxN {s : PS} {w : Nat} (h : PsWf s w) (t : Int) (hn : Go.Proofs.YtibkffoeioidlaaDoor.nxt t s ≠ none) : WfN (nxN t s) w := by
  rcases psW_cases t s with ⟨e, _⟩ | ⟨n, l', e0, e, e1, _⟩
  · exact absurd e hn
  · rw [e1]
    have := h _ e0
    rw [WfKs] at this
    exact this.1
theorem wi_some {t : Int} {s : PS} {l : List Nd} (h : wiS t s = some l) : l = (nxN t s).kids ∧ nxt t s ≠ none := by
  unfold wiS at h
  split at h
  · rename_i hc
    injection h with h
    exact ⟨h.symm, fun e => by rw [e] at hc; cases hc⟩
  · cases h
theorem WfN.kids : ∀ {n : Nd} {w : Nat}, WfN n w → WfKs n.kids (w - 1)
  | .mk t d ks, w, h => by rw [WfN] at h; exact h.2.2.2.2.2.2
theorem WfN.tag : ∀ {n : Nd} {w : Nat}, WfN n w → 0 ≤ n.tag ∧ n.tag ≤ 255
  | .mk t d ks, w, h => by rw [WfN] at h; exact ⟨h.2.1, h.2.2.1⟩
theorem PsWf.wi {s : PS} {w : Nat} (h : PsWf s w) (t : Int) : PsWf (wiS t s) (w - 1) := by
  intro l hl
  obtain ⟨rfl, hn⟩ := wi_some hl
  exact (h.nxN t hn).kids
end Go.Proofs.YtibkffoeioidlaaDoor
namespace Go.Proofs.YtibkffoeioidlaaDoor
set_option linter.all false
set_option maxRecDepth 4000
open Go.RowKit

theorem callBindW : Callable Tryd.prog 89 := ⟨_, Tryd.func89, by kernel_rfl, rfl⟩
abbrev nilV : Value := .slice none 0 0
abbrev msB (gm : Nat) (m : Ms) (pv kv nv av mv cv : Value) : Chunk := .blk gm (msR m pv kv nv av mv cv) 51
theorem MsV.forms {h : Heap} {m : Ms} {pv kv nv av mv cv : Value} (s : MsV h m pv kv nv av mv cv) : (∃ A n c, pv = .slice A n c) ∧ (∃ A n c, kv = .slice A n c) ∧ (∃ A n c, nv = .slice A n c) ∧ (∃ A n c, av = .slice A n c) ∧ (∃ A n c, mv = .slice A n c) ∧ (∃ A n c, cv = .slice A n c) := by
  obtain ⟨k, a, v, ps, ks, A, c, B, d, rows, _, e, _⟩ := s.fl.box
  injection e with _ e
  injection e with _ e
  injection e with _ e
  injection e with e1 e
  injection e with e2 e
  obtain ⟨A3, c3, e3, _⟩ := s.names.form
  obtain ⟨A4, c4, e4, _⟩ := s.attrs.form
  obtain ⟨A5, c5, e5, _⟩ := s.mods.form
  obtain ⟨A6, c6, e6, _⟩ := s.ctls.form
  exact ⟨⟨_, _, _, e1⟩, ⟨_, _, _, e2⟩, ⟨_, _, _, e3⟩, ⟨_, _, _, e4⟩, ⟨_, _, _, e5⟩, ⟨_, _, _, e6⟩⟩
def OpR (gm : Nat) (o : Option Ms) (u : Value) (h' : Heap) (H' : List Chunk) : Prop := ∃ (m' : Ms) (pv kv nv av mv : Value) (b : Bool), u = .bool b ∧ H' = [msB gm m' pv kv nv av mv nilV] ∧
  ((b = true ∧ o = some m' ∧ MsV h' m' pv kv nv av mv nilV) ∨ (b = false ∧ o = none))
theorem OpR.ofB {gm : Nat} {o : Option Ms} {h' : Heap} {m' : Ms} {pv kv nv av mv : Value} (P : Bool) (ho : o = if P = true then some m' else none) (hV : MsV h' m' pv kv nv av mv nilV) : OpR gm o (.bool P) h' [msB gm m' pv kv nv av mv nilV] := by
  refine ⟨m', pv, kv, nv, av, mv, P, rfl, rfl, ?_⟩
  cases P with
  | true => exact .inl ⟨rfl, by rw [ho, if_pos rfl], hV⟩
  | false => exact .inr ⟨rfl, by rw [ho, if_neg Bool.false_ne_true]⟩
theorem OpR.no {gm : Nat} {o : Option Ms} {h' : Heap} {m' : Ms} {pv kv nv av mv : Value} (ho : o = none) : OpR gm o (.bool false) h' [msB gm m' pv kv nv av mv nilV] := ⟨m', pv, kv, nv, av, mv, false, rfl, rfl, .inr ⟨rfl, ho⟩⟩
theorem wire_maybe' {b : Bool} (g : Nat) (t : Int) (s : PS) (v : Value) (bad : Bool) (hb : myB t s = b) (h : Heap) (hp : PtC h s v bad) :
    Spec Tryd.prog 95 [.pointer (some ⟨g, 0, none⟩), .int .i64 t] h [prt g v bad] (fun u h' H' => (∃ v' bad', H' = [prt g v' bad'] ∧ PtC h' (myS t s) v' bad') ∧ u = .tuple #[str (nxN t s).data, .bool b]) := by
  rw [← hb]
  exact wire_maybe g t s v bad h hp
set_option maxRecDepth 8000 in
set_option maxHeartbeats 4000000 in
theorem wire_bind (gm g : Nat) (id : Int) (p : PS) (hW : psW p ≤ 100000000) (v : Value) (bad : Bool) (h : Heap) (hp : PtC h p v bad) :
    Spec Tryd.prog 89 [.pointer (some ⟨gm, 0, none⟩), .pointer (some ⟨g, 0, none⟩)] h [msB gm { zM with id := id, op := 0 } nilV nilV nilV nilV nilV nilV, prt g v bad] (fun u h' H' => OpR gm (bindR { zM with id := id, op := 0 } p) u h' H') := by
  have hd := psW_data 2 p
  have hN := wire_number g 2 1 127 (by simp only [inR]; omega) (by simp only [inR]; omega) p v bad
  unfold bindR
  simp only
  generalize nmS 2 1 127 p = p1 at *
  generalize nmV 2 1 127 p = ver at *
  generalize hp2e : nxt 4 p1 = p2 at *
  have hT := fun v b => wire_text g p1 v b
  rw [hp2e] at hT
  cases hb : myB 128 p2 with
  | true =>
    rw [if_pos rfl]
    have hM := fun v b => wire_maybe' g 128 p2 v b hb
    have hS : myS 128 p2 = nxt 128 p2 := by unfold myS; rw [if_pos hb]
    rw [hS] at hM
    refine Spec.enter Tryd.func89 rfl rfl ?_; intro w0
    repeat' (first | (show G _ (.ops .seq _ (⟨some _, .call { callee := .value (.func 61), args := _, argTypes := _ }, _, _, _, none⟩ :: _) :: _) _ _ _; refine G.call callNumberP rfl rfl (hN _ (hp.mono (by solve | (repeat (first | assumption | exact Heap.le_refl _ | (refine Heap.le_trans ?_ (by assumption)))))) (by omega)) (by solve | (repeat (first | apply Takes.nil | apply Take.hd | apply Take.tl | apply Takes.cons))) ?_; rintro _ h2 H2 ⟨⟨v2, b2, rfl, hp2⟩, rfl⟩ hle2) | (show G _ (.ops .seq _ (⟨some _, .call { callee := .value (.func 91), args := _, argTypes := _ }, _, _, _, none⟩ :: _) :: _) _ _ _; refine G.call callTextW rfl rfl (hT _ _ _ (hp2.mono (by solve | (repeat (first | assumption | exact Heap.le_refl _ | (refine Heap.le_trans ?_ (by assumption))))))) (by solve | (repeat (first | apply Takes.nil | apply Take.hd | apply Take.tl | apply Takes.cons))) ?_; rintro _ h3 H3 ⟨⟨v3, b3, rfl, hp3⟩, rfl⟩ hle3) | (show G _ (.ops .seq _ (⟨some _, .call { callee := .value (.func 95), args := _, argTypes := _ }, _, _, _, none⟩ :: _) :: _) _ _ _; refine G.call callMaybe rfl rfl (hM _ _ _ (hp3.mono (by solve | (repeat (first | assumption | exact Heap.le_refl _ | (refine Heap.le_trans ?_ (by assumption))))))) (by solve | (repeat (first | apply Takes.nil | apply Take.hd | apply Take.tl | apply Takes.cons))) ?_; rintro _ h4 H4 ⟨⟨v4, b4, rfl, hp4⟩, rfl⟩ hle4) | (show G _ (.ops .seq _ (⟨some _, .call { callee := .value (.func 93), args := _, argTypes := _ }, _, _, _, none⟩ :: _) :: _) _ _ _; refine G.call callEnd rfl rfl (wire_end0 g _ _ _ _ (hp4.mono (by solve | (repeat (first | assumption | exact Heap.le_refl _ | (refine Heap.le_trans ?_ (by assumption))))))) (by solve | (repeat (first | apply Takes.nil | apply Take.hd | apply Take.tl | apply Takes.cons))) ?_; rintro _ h5 H5 ⟨rfl, rfl⟩ hle5) | (refine G.atCode ?_; first | refine G.seq ?_ | refine G.region ?_ | refine G.ret ?_ | (refine G.cond rfl ?_ ?_ <;> intro hc <;> (try simp only [tests, reduceCtorEq] at hc) <;> (try (exfalso; first | omega | exact absurd hc (by with_reducible assumption) | exact absurd (by with_reducible assumption) hc | exact Bool.noConfusion hc | exact hc | exact hc trivial | fail)))) | refine G.endOps ?_ | refine G.op rfl rfl ?_ | (refine G.atFld ?_; first | refine G.fieldAddr rfl (tyy rfl) rfl rfl ?_) | (refine G.atSto ?_; refine G.storeOwn rfl rfl (tyy rfl) (by solve | (repeat (first | apply Take.hd | apply Take.tl))) rfl rfl rfl rfl ?_))
    all_goals first | (exfalso; omega) | (exfalso; simp_all; done) | skip
    all_goals exact G.done1 rfl rfl [msB gm _ _ _ _ _ _ _] (by solve | (apply Takes.sub; (repeat (first | apply Takes.nil | apply Take.hd | apply Take.tl | apply Takes.cons)))) (OpR.ofB (m' := { zM with id := id, op := 0, ver := ver, dn := txV p1, text := (nxN 128 p2).data }) _ rfl ⟨zF_C _, HSl.nil _ 1, SC.nil _ 2 _, SC.nil _ 3 _, HSl.nil _ 4⟩)
  | false =>
    rw [if_neg Bool.false_ne_true]
    have hM := fun v b => wire_maybe' g 128 p2 v b hb
    have hS : myS 128 p2 = p2 := by unfold myS; rw [if_neg (by rw [hb]; exact Bool.false_ne_true)]
    have hnn : (nxN 128 p2).data = [] := by
      have : nxt 128 p2 = none := by
        unfold myB at hb
        cases hq : nxt 128 p2 with
        | none => rfl
        | some l => rw [hq] at hb; cases hb
      rw [nxN_of_none this]; rfl
    rw [hS, hnn] at hM
    have hWi := fun v b h (hp : PtC h p2 v b) => wire_within g 163 p2 v b h hp
    unfold WiR at hWi
    generalize wiS 163 p2 = x at *
    generalize nxt 163 p2 = p3 at *
    generalize hx1e : nxt 4 x = x1 at *
    have hT2 := fun q v b => wire_text q x v b
    rw [hx1e] at hT2
    have hM2 := fun q v b => wire_maybe q 4 x1 v b
    refine Spec.enter Tryd.func89 rfl rfl ?_; intro w0
    repeat' (first | (show G _ (.ops .seq _ (⟨some _, .call { callee := .value (.func 61), args := _, argTypes := _ }, _, _, _, none⟩ :: _) :: _) _ _ _; refine G.call callNumberP rfl rfl (hN _ (hp.mono (by solve | (repeat (first | assumption | exact Heap.le_refl _ | (refine Heap.le_trans ?_ (by assumption)))))) (by omega)) (by solve | (repeat (first | apply Takes.nil | apply Take.hd | apply Take.tl | apply Takes.cons))) ?_; rintro _ h2 H2 ⟨⟨v2, b2, rfl, hp2⟩, rfl⟩ hle2) | (show G _ (.ops .seq _ (⟨some _, .call { callee := .value (.func 91), args := _, argTypes := _ }, _, _, _, none⟩ :: _) :: _) _ _ _; refine G.call callTextW rfl rfl (hT _ _ _ (hp2.mono (by solve | (repeat (first | assumption | exact Heap.le_refl _ | (refine Heap.le_trans ?_ (by assumption))))))) (by solve | (repeat (first | apply Takes.nil | apply Take.hd | apply Take.tl | apply Takes.cons))) ?_; rintro _ h3 H3 ⟨⟨v3, b3, rfl, hp3⟩, rfl⟩ hle3) | (show G _ (.ops .seq _ (⟨some _, .call { callee := .value (.func 95), args := _, argTypes := _ }, _, _, _, none⟩ :: _) :: _) _ _ _; refine G.call callMaybe rfl rfl (hM _ _ _ (hp3.mono (by solve | (repeat (first | assumption | exact Heap.le_refl _ | (refine Heap.le_trans ?_ (by assumption))))))) (by solve | (repeat (first | apply Takes.nil | apply Take.hd | apply Take.tl | apply Takes.cons))) ?_; rintro _ h4 H4 ⟨⟨v4, b4, rfl, hp4⟩, rfl⟩ hle4) | (show G _ (.ops .seq _ (⟨some _, .call { callee := .value (.func 60), args := _, argTypes := _ }, _, _, _, none⟩ :: _) :: _) _ _ _; refine G.call callWithin rfl rfl (hWi _ _ _ (hp4.mono (by solve | (repeat (first | assumption | exact Heap.le_refl _ | (refine Heap.le_trans ?_ (by assumption))))))) (by solve | (repeat (first | apply Takes.nil | apply Take.hd | apply Take.tl | apply Takes.cons))) ?_; rintro _ h5 H5 ⟨v5, b5, q, w5, bq, rfl, hp5, rfl, hq5, hqn⟩ hle5) | (show G _ (.ops .seq _ (⟨some _, .call { callee := .value (.func 91), args := _, argTypes := _ }, _, _, _, none⟩ :: _) :: _) _ _ _; refine G.call callTextW rfl rfl (hT2 q _ _ _ (hq5.mono (by solve | (repeat (first | assumption | exact Heap.le_refl _ | (refine Heap.le_trans ?_ (by assumption))))))) (by solve | (repeat (first | apply Takes.nil | apply Take.hd | apply Take.tl | apply Takes.cons))) ?_; rintro _ h6 H6 ⟨⟨v6, b6, rfl, hp6⟩, rfl⟩ hle6) | (show G _ (.ops .seq _ (⟨some _, .call { callee := .value (.func 95), args := _, argTypes := _ }, _, _, _, none⟩ :: _) :: _) _ _ _; refine G.call callMaybe rfl rfl (hM2 q _ _ _ (hp6.mono (by solve | (repeat (first | assumption | exact Heap.le_refl _ | (refine Heap.le_trans ?_ (by assumption))))))) (by solve | (repeat (first | apply Takes.nil | apply Take.hd | apply Take.tl | apply Takes.cons))) ?_; rintro _ h7 H7 ⟨⟨v7, b7, rfl, hp7⟩, rfl⟩ hle7) | (show G _ (.ops .seq _ (⟨some _, .call { callee := .value (.func 93), args := _, argTypes := _ }, _, _, _, none⟩ :: _) :: _) _ _ _; refine G.call callEnd rfl rfl (wire_end1 g q _ p3 (myS 4 x1) _ _ _ _ _ (hp5.mono (by solve | (repeat (first | assumption | exact Heap.le_refl _ | (refine Heap.le_trans ?_ (by assumption)))))) (hp7.mono (by solve | (repeat (first | assumption | exact Heap.le_refl _ | (refine Heap.le_trans ?_ (by assumption))))))) (by solve | (repeat (first | apply Takes.nil | apply Take.hd | apply Take.tl | apply Takes.cons))) ?_; rintro _ h8 H8 ⟨rfl, rfl⟩ hle8) | (refine G.atCode ?_; first | refine G.seq ?_ | refine G.region ?_ | refine G.skip ?_ | refine G.ret ?_ | (refine G.cond rfl ?_ ?_ <;> intro hc <;> (try simp only [tests, reduceCtorEq] at hc) <;> (try (exfalso; first | omega | exact absurd hc (by with_reducible assumption) | exact absurd (by with_reducible assumption) hc | exact Bool.noConfusion hc | exact hc | exact hc trivial | fail)))) | refine G.endOps ?_ | refine G.op rfl rfl ?_ | (refine G.atFld ?_; first | refine G.fieldAddr rfl (tyy rfl) rfl rfl ?_) | (refine G.atSto ?_; refine G.storeOwn rfl rfl (tyy rfl) (by solve | (repeat (first | apply Take.hd | apply Take.tl))) rfl rfl rfl rfl ?_) | (refine G.atBsl ?_; refine G.buildSlice (tyy rfl) (tyy rfl) rfl rfl rfl rfl ?_; intro _))
    all_goals first | (exfalso; omega) | (exfalso; simp_all; done) | skip
    all_goals exact G.done1 rfl rfl [msB gm _ _ _ _ _ _ _] (by solve | (apply Takes.sub; (repeat (first | apply Takes.nil | apply Take.hd | apply Take.tl | apply Takes.cons)))) (OpR.ofB (m' := { zM with id := id, op := 0, ver := ver, dn := txV p1, sasl := true, mech := txV x, has := myB 4 x1, value := (nxN 4 x1).data }) _ (by simp only [Bool.and_eq_true]) ⟨zF_C _, HSl.nil _ 1, SC.nil _ 2 _, SC.nil _ 3 _, HSl.nil _ 4⟩)
theorem PsWf.bd {s : PS} {w : Nat} (h : PsWf s w) (d : Bs) (lo hi : Int) : PsWf (bdS s d lo hi) w := by
  intro l hl
  unfold bdS at hl
  split at hl
  · exact h l hl
  · cases hl
theorem PsWf.nm {s : PS} {w : Nat} (h : PsWf s w) (t lo hi : Int) : PsWf (nmS t lo hi s) w := (h.nxt t).bd _ _ _
end Go.Proofs.YtibkffoeioidlaaDoor
