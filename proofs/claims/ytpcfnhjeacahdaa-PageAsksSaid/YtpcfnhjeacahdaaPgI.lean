/- Package page: what was read is well formed; the two ways to read a control agree. -/
import Derived.Test.YtpcfnhjeacahdaaPgH
namespace Go.Proofs.Ytpcfnhjeacahdaa
set_option linter.all false
open Go.RowKit

/-- A tag that is a byte; data or kids, as the tag says; the data is of this length at most. -/
def Nd.okIn (m : Nat) : Nd → Prop
  | .mk t d ks => ∃ b : Nat, t = b ∧ (b &&& 32 = 0 → ks = []) ∧ (b &&& 32 ≠ 0 → d = []) ∧ d.length ≤ m
theorem Nd.okIn_mono {m m' : Nat} (h : m ≤ m') : ∀ {n : Nd}, n.okIn m → n.okIn m'
  | .mk _ _ _, ⟨b, h1, h2, h3, h4⟩ => ⟨b, h1, h2, h3, Nat.le_trans h4 h⟩
theorem innM_le (s : List UInt8) : (innM s).length ≤ s.length := by
  unfold innM
  rw [List.length_take, List.length_drop]; omega
theorem kidsM_from {p : List UInt8 → Nd × List UInt8 × Int} (hp : ∀ s, (p s).2.2 = 0 → (p s).2.1.length ≤ s.length) {Q : Nat → Nd → Prop} (hQ : ∀ {m m' : Nat} {n : Nd}, m ≤ m' → Q m n → Q m' n) (hq : ∀ s, (p s).2.2 = 0 → Q s.length (p s).1) :
    ∀ (n : Nat) (s : List UInt8), (kidsM p n s).2 = 0 → ∀ k ∈ (kidsM p n s).1, Q s.length k
  | 0, s, _, k, hk => by simp [kidsM] at hk
  | n + 1, s, h, k, hk => by
    simp only [kidsM] at h hk
    split at h
    · rename_i c; rw [if_pos c] at hk; simp at hk
    · rename_i c1
      rw [if_neg c1] at hk
      split at h
      · rename_i c; exact absurd h c
      · rename_i c2
        rw [if_neg c2] at hk
        split at h
        · rename_i c; exact absurd h c
        · rename_i c3
          rw [if_neg c3] at hk
          have c2' : (p s).2.2 = 0 := by simpa using c2
          rcases List.mem_cons.1 hk with e | hk
          · rw [e]; exact hq s c2'
          · exact hQ (hp s c2') (kidsM_from (Q := Q) hp hQ hq n _ (by simpa using c3) k hk)
theorem parM_okIn : ∀ (f : Nat) (s : List UInt8), (parM f s).2.2 = 0 → (parM f s).1.okIn s.length
  | 0, s, h => by simp [parM] at h
  | f + 1, s, h => by
    rw [parM] at h ⊢
    split at h
    · cases h
    · rename_i c1
      rw [if_neg c1]
      split at h
      · cases h
      · rename_i c2
        rw [if_neg c2]
        split at h
        · rename_i c; exact absurd h c
        · rename_i c3
          rw [if_neg c3]
          split at h
          · rename_i c4
            rw [if_pos c4]
            exact ⟨byteAt s 0, rfl, fun _ => rfl, fun h9 => absurd (by omega) h9, innM_le s⟩
          · rename_i c4
            rw [if_neg c4]
            split at h
            · rename_i c; exact absurd h c
            · rename_i c5
              rw [if_neg c5]
              exact ⟨byteAt s 0, rfl, fun h9 => absurd (by omega) c4, fun _ => rfl, Nat.zero_le _⟩
theorem parM_kidsIn : ∀ (f : Nat) (s : List UInt8) (t : Int) (d : List UInt8) (ks : List Nd), (parM f s).2.2 = 0 → (parM f s).1 = .mk t d ks → ∀ k ∈ ks, k.okIn s.length
  | 0, s, _, _, _, h, _ => by simp [parM] at h
  | f + 1, s, t, d, ks, h, e => by
    rw [parM] at h e
    split at h
    · cases h
    · rename_i c1
      rw [if_neg c1] at e
      split at h
      · cases h
      · rename_i c2
        rw [if_neg c2] at e
        split at h
        · rename_i c; exact absurd h c
        · rename_i c3
          rw [if_neg c3] at e
          split at h
          · rename_i c4
            rw [if_pos c4] at e
            injection e with _ _ e
            subst e
            intro k hk
            simp at hk
          · rename_i c4
            rw [if_neg c4] at e
            split at h
            · rename_i c; exact absurd h c
            · rename_i c5
              rw [if_neg c5] at e
              injection e with _ _ e
              subst e
              intro k hk
              exact Nd.okIn_mono (innM_le s) (kidsM_from (Q := Nd.okIn) (fun s' h' => Nat.le_of_lt (parM_lt f s' h')) (fun h1 h2 => Nd.okIn_mono h1 h2) (fun s' h' => parM_okIn f s' h') _ _ (by simpa using c5) k hk)
theorem kidsM_wt {p : List UInt8 → Nd × List UInt8 × Int} (hp : ∀ s, (p s).2.2 = 0 → (p s).1.wt + (p s).2.1.length ≤ s.length) : ∀ (n : Nat) (s : List UInt8), (kidsM p n s).2 = 0 → wts (kidsM p n s).1 ≤ s.length
  | 0, s, _ => by simp [kidsM, wts]
  | n + 1, s, h => by
    simp only [kidsM] at h ⊢
    split at h
    · rename_i c; rw [if_pos c]; simp [wts]
    · rename_i c1
      rw [if_neg c1]
      split at h
      · rename_i c; exact absurd h c
      · rename_i c2
        rw [if_neg c2]
        split at h
        · rename_i c; exact absurd h c
        · rename_i c3
          rw [if_neg c3]
          have h1 := hp s (by simpa using c2)
          have h2 := kidsM_wt hp n _ (show (kidsM p n (p s).2.1).2 = 0 by simpa using c3)
          simp only [wts]; omega
theorem split3_len {s : List UInt8} (h : lenE s = 0) : 2 + (innM s).length + (restM s).length ≤ s.length := by
  have e := congrArg List.length (split3 h)
  have hb := lenE_ok h
  have hr := bndM_range s
  rw [List.length_append, List.length_append, List.length_take] at e
  omega
theorem parM_wt : ∀ (f : Nat) (s : List UInt8), (parM f s).2.2 = 0 → (parM f s).1.wt + (parM f s).2.1.length ≤ s.length
  | 0, s, h => by simp [parM] at h
  | f + 1, s, h => by
    rw [parM] at h ⊢
    split at h
    · cases h
    · rename_i c1
      rw [if_neg c1]
      split at h
      · cases h
      · rename_i c2
        rw [if_neg c2]
        split at h
        · rename_i c; exact absurd h c
        · rename_i c3
          rw [if_neg c3]
          have h3 := split3_len (show lenE s = 0 by simpa using c3)
          split at h
          · rename_i c4
            rw [if_pos c4]
            simp only [Nd.wt, wts]; omega
          · rename_i c4
            rw [if_neg c4]
            split at h
            · rename_i c; exact absurd h c
            · rename_i c5
              rw [if_neg c5]
              have h5 := kidsM_wt (parM_wt f) (innM s).length (innM s) (by simpa using c5)
              simp only [Nd.wt, List.length_nil]; omega
theorem who_wt {s : List UInt8} {t e : Int} {d : List UInt8} {ks : List Nd} (h : who s = (.mk t d ks, e)) : e ≠ 0 ∨ (Nd.mk t d ks).wt ≤ s.length := by
  by_cases he : e = 0
  · right
    unfold who at h
    subst he
    split at h
    · rename_i c; exact absurd (Prod.mk.inj h).2 c
    · rename_i c
      split at h
      · cases (Prod.mk.inj h).2
      · have h' := (Prod.mk.inj h).1
        rw [par_eq] at c h'
        have := parM_wt 64 s (by simpa using c)
        rw [← h']; omega
  · exact .inl he
theorem who_ok {s : List UInt8} {t e : Int} {d : List UInt8} {ks : List Nd} (h : who s = (.mk t d ks, e)) (he : e = 0) : (Nd.mk t d ks).okIn s.length ∧ ∀ k ∈ ks, k.okIn s.length := by
  unfold who at h
  subst he
  split at h
  · rename_i c; exact absurd (Prod.mk.inj h).2 c
  · rename_i c
    split at h
    · cases (Prod.mk.inj h).2
    · have h' := (Prod.mk.inj h).1
      rw [par_eq] at c h'
      have c' : (parM 64 s).2.2 = 0 := by simpa using c
      refine ⟨?_, parM_kidsIn 64 s t d ks c' h'⟩
      rw [← h']
      exact parM_okIn 64 s c'
theorem ask_two {s : List UInt8} {t e t0 t1 : Int} {d d0 d1 : List UInt8} {l0 l1 : List Nd} (h : who s = (.mk t d [.mk t0 d0 l0, .mk t1 d1 l1], e)) :
    askM s = if e = 0 ∧ t = 48 ∧ t0 = 2 ∧ t1 = 4 ∧ numOk d0 = true ∧ 0 ≤ numV d0 ∧ numV d0 ≤ 2147483647 then (numV d0, d1, true) else (0, [], false) := by
  unfold askM
  rw [h]
def nvOf (d : List UInt8) : Int := if numOk d then numV d else 0
theorem ask_two' {s : List UInt8} {t e t0 t1 : Int} {d d0 d1 : List UInt8} {l0 l1 : List Nd} (h : who s = (.mk t d [.mk t0 d0 l0, .mk t1 d1 l1], e)) :
    askM s = if e = 0 ∧ t = 48 ∧ t0 = 2 ∧ t1 = 4 ∧ numOk d0 = true ∧ 0 ≤ nvOf d0 ∧ nvOf d0 ≤ 2147483647 then (nvOf d0, d1, true) else (0, [], false) := by
  rw [ask_two h]
  unfold nvOf
  by_cases hk : numOk d0 = true
  · rw [if_pos hk]
  · rw [if_neg (fun x => hk x.2.2.2.2.1), if_neg (fun x => hk x.2.2.2.2.1)]
theorem who_d0 {s : List UInt8} {t e t0 t1 : Int} {d d0 d1 : List UInt8} {l0 l1 : List Nd} (h : who s = (.mk t d [.mk t0 d0 l0, .mk t1 d1 l1], e)) : e ≠ 0 ∨ (d0.length ≤ s.length ∧ d1.length ≤ s.length) := by
  by_cases he : e = 0
  · obtain ⟨_, h2⟩ := who_ok h he
    obtain ⟨b0, e0, p0, q0, m0⟩ := h2 (.mk t0 d0 l0) (by simp)
    obtain ⟨b1, e1, p1, q1, m1⟩ := h2 (.mk t1 d1 l1) (by simp)
    exact .inr ⟨m0, m1⟩
  · exact .inl he
theorem ask_no {s : List UInt8} {t e : Int} {d : List UInt8} {ks : List Nd} (h : who s = (.mk t d ks, e)) (hk : ks.length ≠ 2) : askM s = (0, [], false) := by
  unfold askM
  rw [h]
  match ks, hk with
  | [], _ => rfl
  | [.mk _ _ _], _ => rfl
  | [_, _], hk => exact absurd rfl hk
  | .mk _ _ _ :: .mk _ _ _ :: _ :: _, _ => rfl
/-- The document's way to say it. -/
theorem ask_same {s : List UInt8} (hs : s.length ≤ 1000000) {t t0 t1 : Int} {d d0 d1 : List UInt8} {l0 l1 : List Nd} (h : who s = (.mk t d [.mk t0 d0 l0, .mk t1 d1 l1], 0)) (hn : numOk d0 = true) (hr : 0 ≤ numV d0 ∧ numV d0 ≤ 2147483647) :
    d1.length ≤ 1000000 ∧ (ansM (numV d0) d1 = (putM 1 (.mk t d [.mk t0 d0 l0, .mk t1 d1 l1])).1 ↔ t = 48 ∧ t0 = 2 ∧ t1 = 4) := by
  obtain ⟨h1, h2⟩ := who_ok h rfl
  obtain ⟨b0, e0, p0, q0, m0⟩ := h2 (.mk t0 d0 l0) (by simp)
  obtain ⟨b1, e1, p1, q1, m1⟩ := h2 (.mk t1 d1 l1) (by simp)
  obtain ⟨b, e, p, q, m⟩ := h1
  have hd1 : d1.length ≤ 1000000 := by omega
  refine ⟨hd1, ?_⟩
  have ha : ansM (numV d0) d1 = (putM 1 (ansN (numV d0) d1)).1 := by unfold ansM; rw [if_neg (by omega)]
  have hi : intB (numV d0) = d0 := by
    unfold numOk at hn
    simp only [Bool.and_eq_true, decide_eq_true_eq] at hn
    exact hn.2
  rw [ha]
  constructor
  · intro he
    have := put_inj (ansM_ok hr hd1) he
    unfold ansN at this
    injection this with u1 u2 u3
    injection u3 with u4 u5
    injection u4 with u6
    injection u5 with u7
    injection u7 with u8
    exact ⟨u1.symm, u6.symm, u8.symm⟩
  · rintro ⟨rfl, rfl, rfl⟩
    obtain rfl : b = 48 := by omega
    obtain rfl : b0 = 2 := by omega
    obtain rfl : b1 = 4 := by omega
    rw [q (by decide), p0 (by decide), p1 (by decide)]
    unfold ansN
    rw [hi]
end Go.Proofs.Ytpcfnhjeacahdaa
