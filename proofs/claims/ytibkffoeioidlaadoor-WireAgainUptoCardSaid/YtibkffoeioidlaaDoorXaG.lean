/- What was read has numbers within their kinds: plain. -/
import Derived.Test.YtibkffoeioidlaaDoorWrJ
import Derived.Test.YtibkffoeioidlaaDoorWrN
namespace Go.Proofs.YtibkffoeioidlaaDoor
set_option linter.all false
set_option maxRecDepth 4000
open Go.RowKit

theorem inM_i {n lo hi : Int} (h : inM n lo hi = true) (h1 : -9223372036854775808 <= lo) (h2 : hi <= 9223372036854775807) : inR .i64 n := inR_small (by simpa [inM] using h) h1 h2
theorem inR_z : inR .i64 0 := by simp only [inR]; omega
theorem MsI.of {m : Ms} (hid : inM m.id 0 2147483647 = true) (ht : tagM m.op ≠ 0) (ho : okM m = true) (hb : bareM m = m) : MsI m := by
  rw [<- hb]
  have hid' := inM_i hid (by omega) (by omega)
  clear hid hb
  obtain ⟨id, op, dn, ver, sasl, mech, text, scope, deref, size, time, types, fl, names, attrs, mods, rdn, delOld, hasSup, sup, attr, target, oid, has, value, code, matched, ctls⟩ := m
  simp only at ht hid'
  have hz := inR_z
  have hn : ∀ x ∈ ([] : List Mdf), inR .i64 x.op := fun x hx => by cases hx
  rcases op_cases ht with rfl | rfl | rfl | rfl | rfl | rfl | rfl | rfl | rfl | rfl | rfl | rfl | rfl | rfl | rfl | rfl | rfl | rfl | rfl
  . have hv := inM_i (show inM ver 1 127 = true from ho) (by omega) (by omega)
    cases sasl <;> exact ⟨hid', hv, hz, hz, hz, hz, hz, hz, hn⟩
  . exact ⟨hid', hz, hz, hz, hz, hz, hz, inM_i (show inM code 0 2147483647 = true from ho) (by omega) (by omega), hn⟩
  . exact ⟨hid', hz, hz, hz, hz, hz, hz, hz, hn⟩
  . have h3 : ((askM 0 fl).isSome && (inM scope 0 2 && (inM deref 0 3 && (inM size 0 2147483647 && inM time 0 2147483647)))) = true := ho
    simp only [Bool.and_eq_true] at h3
    exact ⟨hid', hz, inM_i h3.2.1 (by omega) (by omega), inM_i h3.2.2.1 (by omega) (by omega), inM_i h3.2.2.2.1 (by omega) (by omega), inM_i h3.2.2.2.2 (by omega) (by omega), hz, hz, hn⟩
  . exact ⟨hid', hz, hz, hz, hz, hz, hz, hz, hn⟩
  . exact ⟨hid', hz, hz, hz, hz, hz, hz, inM_i (show inM code 0 2147483647 = true from ho) (by omega) (by omega), hn⟩
  . refine ⟨hid', hz, hz, hz, hz, hz, hz, hz, fun x hx => ?_⟩
    have h6 : (mods.all fun x => inM x.op 0 2) = true := ho
    exact inM_i (List.all_eq_true.1 h6 x hx) (by omega) (by omega)
  . exact ⟨hid', hz, hz, hz, hz, hz, hz, inM_i (show inM code 0 2147483647 = true from ho) (by omega) (by omega), hn⟩
  . exact ⟨hid', hz, hz, hz, hz, hz, hz, hz, hn⟩
  . exact ⟨hid', hz, hz, hz, hz, hz, hz, inM_i (show inM code 0 2147483647 = true from ho) (by omega) (by omega), hn⟩
  . exact ⟨hid', hz, hz, hz, hz, hz, hz, hz, hn⟩
  . exact ⟨hid', hz, hz, hz, hz, hz, hz, inM_i (show inM code 0 2147483647 = true from ho) (by omega) (by omega), hn⟩
  . exact ⟨hid', hz, hz, hz, hz, hz, hz, hz, hn⟩
  . exact ⟨hid', hz, hz, hz, hz, hz, hz, inM_i (show inM code 0 2147483647 = true from ho) (by omega) (by omega), hn⟩
  . exact ⟨hid', hz, hz, hz, hz, hz, hz, hz, hn⟩
  . exact ⟨hid', hz, hz, hz, hz, hz, hz, inM_i (show inM code 0 2147483647 = true from ho) (by omega) (by omega), hn⟩
  . exact ⟨hid', hz, hz, hz, hz, hz, inM_i (show inM target 0 2147483647 = true from ho) (by omega) (by omega), hz, hn⟩
  . exact ⟨hid', hz, hz, hz, hz, hz, hz, hz, hn⟩
  . exact ⟨hid', hz, hz, hz, hz, hz, hz, inM_i (show inM code 0 2147483647 = true from ho) (by omega) (by omega), hn⟩
theorem read_MsI {s : Bs} {m : Ms} (h : readM s = .ok m) : MsI m := by
  obtain ⟨h1, h2, h3, h4, _⟩ := read_ok h
  exact MsI.of h2 h3 h4 h1
end Go.Proofs.YtibkffoeioidlaaDoor
namespace Go.Proofs.YtibkffoeioidlaaDoor
set_option linter.all false
set_option maxRecDepth 4000
open Go.RowKit

theorem nx_wt {t : Int} {s : PS} {l : List Nd} (h : nxt t s = some l) : psW s = (nxN t s).wt + wts l := by
  rcases psW_cases t s with ⟨e, _⟩ | ⟨n, l0, rfl, e, e2, _⟩
  . rw [e] at h; cases h
  . rw [e] at h
    injection h with h
    subst h
    rw [e2]; rfl
theorem datas_wt : ∀ l : List Nd, bsW (datas l) <= wts l
  | [] => by simp [datas, bsW]
  | n :: l => by
    have ih := datas_wt l
    have := n.wt_eq
    unfold datas bsW at ih ⊢
    simp only [List.map_cons, List.sum_cons, wts]; omega
theorem one_wi (t : Int) (n : Nd) : psW (wiS t (some [n])) + 1 <= n.wt := by
  have h1 := n.wt_eq
  unfold wiS
  split
  . have : wts (nxN t (some [n])).kids <= wts n.kids := by
      show wts (if n.tag = t then n else zN).kids <= wts n.kids
      by_cases hc : n.tag = t
      . rw [if_pos hc]; exact Nat.le_refl _
      . rw [if_neg hc]; exact Nat.zero_le _
    simp only [psW]; omega
  . simp only [psW]; omega
theorem vl_wt {s : PS} {a : Atr} (h : vlO s = some a) : atrW a <= psW s + 1 := by
  unfold vlO at h
  split at h
  . rename_i l h1 h2
    split at h
    . injection h with h
      subst h
      have h3 := psW_wi 49 (nxt 4 s)
      rw [h1] at h3
      have h5 := datas_wt l
      cases hn : nxt 4 s with
      | none => rw [hn] at h1; cases h1
      | some l1 =>
        have h4 := nx_wt hn
        have h6 := (nxN 4 s).wt_eq
        rw [hn] at h3
        unfold atrW txV
        simp only [psW] at h3 h4 ⊢
        omega
    . cases h
  . cases h
theorem at_wt {n : Nd} {a : Atr} (h : atO n = some a) : atrW a <= 2 * n.wt := by
  have := vl_wt h
  have := one_wi 48 n
  omega
theorem md_wt {n : Nd} {x : Mdf} (h : mdO n = some x) : mdW x <= 2 * n.wt := by
  unfold mdO at h
  split at h
  . rename_i a h1 h2
    injection h with h
    subst h
    have := vl_wt h1
    have h3 := psW_wi 48 (nmS 10 0 2 (wiS 48 (some [n])))
    have h4 := psW_nm 10 0 2 (wiS 48 (some [n]))
    have h5 := one_wi 48 n
    unfold atrW at this
    unfold mdW
    simp only
    omega
  . cases h
theorem ct_wt {n : Nd} {c : Ctl} (h : ctO n = some c) : ctlW c <= 2 * n.wt := by
  unfold ctO at h
  simp only at h
  generalize hs2 : (if myB 1 (nxt 4 (wiS 48 (some [n]))) = true then trS (nxt 4 (wiS 48 (some [n]))) else nxt 4 (wiS 48 (some [n]))) = s2 at h
  have h2 : psW s2 <= psW (wiS 48 (some [n])) := by
    have h3 := psW_nxt 4 (wiS 48 (some [n]))
    have h4 := psW_tr (nxt 4 (wiS 48 (some [n])))
    rw [<- hs2]
    split <;> omega
  have h1 := one_wi 48 n
  split at h
  . injection h with h
    subst h
    have h5 := psW_data 4 (wiS 48 (some [n]))
    have h6 := psW_data 4 s2
    unfold ctlW txV
    simp only
    omega
  . cases h
theorem allO_wt {α : Type} {f : Nd -> Option α} {w : α -> Nat} (hf : ∀ n a, f n = some a -> w a <= 2 * n.wt) : ∀ {l : List Nd} {xs : List α}, allO f l = some xs -> (xs.map w).sum <= 2 * wts l
  | [], xs, h => by
    rw [allO] at h
    injection h with h
    subst h
    simp
  | n :: l, xs, h => by
    rw [allO] at h
    split at h
    . rename_i a ys h1 h2
      injection h with h
      subst h
      have := hf n a h1
      have := allO_wt hf h2
      simp only [List.map_cons, List.sum_cons, wts]; omega
    . cases h
theorem pcsR_wt : ∀ l : List Nd, pcW (pcsR_of l) <= wts l
  | [] => by simp [pcsR_of, pcW]
  | n :: l => by
    have ih := pcsR_wt l
    have := n.wt_eq
    unfold pcsR_of at ih ⊢
    simp only [List.map_cons, pcW, wts]; omega
mutual
theorem rdF_wt : ∀ (nd : Nd) (n : Nat) (f : Fl) (m : Nat), rdF nd n = some (f, m) -> f.wt <= 2 * nd.wt
  | .mk t d ks, n, f, m, h => by
    have hk := rdFs_wt ks
    have hks : psW (some ks) = wts ks := rfl
    have h4 := psW_data 4 (some ks)
    have h5 := psW_nxt 4 (some ks)
    have h6 := psW_data 4 (nxt 4 (some ks))
    have h7 := psW_kids 48 (nxt 4 (some ks))
    have h8 := pcsR_wt (nxN 48 (nxt 4 (some ks))).kids
    rw [rdF] at h
    rw [Nd.wt]
    split at h
    . cases h
    split at h
    . injection h with h
      injection h with h _
      subst h
      simp only [Fl.wt, pcW, flwt, List.length_nil]; omega
    split at h
    . split at h
      . cases h
      . rename_i l q hl
        have := hk _ _ _ hl
        split at h
        . cases h
        . injection h with h
          injection h with h _
          subst h
          simp only [Fl.wt, pcW, List.length_nil]; omega
    split at h
    . split at h
      . injection h with h
        injection h with h _
        subst h
        simp only [Fl.wt, flwt, List.length_nil, txV]; omega
      . cases h
    split at h
    . split at h
      . injection h with h
        injection h with h _
        subst h
        simp only [Fl.wt, pcW, flwt, txV]; omega
      . cases h
    . cases h
theorem rdFs_wt : ∀ (l : List Nd) (n : Nat) (fs : List Fl) (m : Nat), rdFs l n = some (fs, m) -> flwt fs <= 2 * wts l
  | [], n, fs, m, h => by
    rw [rdFs] at h
    injection h with h
    injection h with h _
    subst h
    exact Nat.zero_le _
  | k :: ks, n, fs, m, h => by
    rw [rdFs] at h
    split at h
    . cases h
    . rename_i f q h1
      split at h
      . cases h
      . rename_i l q2 h2
        injection h with h
        injection h with h _
        subst h
        have := rdF_wt k _ _ _ h1
        have := rdFs_wt ks _ _ _ h2
        simp only [flwt, wts]; omega
end
theorem zF_wt : zF.wt <= 16 := by decide
theorem res_wt {id op : Int} {n : Nd} {m : Ms} (hop : op = 1 \/ op = 5 \/ op = 7 \/ op = 9 \/ op = 11 \/ op = 13 \/ op = 15) (h : opR { zM with id := id, op := op } n = some m) : m.wt <= 7 * n.wt + 16 := by
  have h' : (if endP (nxt 4 (nxt 4 (nmS 10 0 2147483647 (some n.kids)))) = true then some { zM with id := id, op := op, code := nmV 10 0 2147483647 (some n.kids), matched := txV (nmS 10 0 2147483647 (some n.kids)), text := txV (nxt 4 (nmS 10 0 2147483647 (some n.kids))) } else none) = some m := by
    rcases hop with rfl | rfl | rfl | rfl | rfl | rfl | rfl <;> exact h
  split at h'
  . injection h' with h'
    subst h'
    have h0 := n.wt_eq
    have hks : psW (some n.kids) = wts n.kids := rfl
    have h1 := psW_nm 10 0 2147483647 (some n.kids)
    have h2 := psW_data 4 (nmS 10 0 2147483647 (some n.kids))
    have h3 := psW_nxt 4 (nmS 10 0 2147483647 (some n.kids))
    have h4 := psW_data 4 (nxt 4 (nmS 10 0 2147483647 (some n.kids)))
    have h5 := zF_wt
    simp [Ms.wt, zM, bsW, atrsW, mdsW, ctlsW, txV]; omega
  . cases h'
theorem opR_wt {id op : Int} {n : Nd} {m : Ms} (ht : tagM op ≠ 0) (h : opR { zM with id := id, op := op } n = some m) : m.wt <= 7 * n.wt + 16 := by
  have h0 := n.wt_eq
  have hks : psW (some n.kids) = wts n.kids := rfl
  have hz := zF_wt
  have w4 := psW_nxt 4 (some n.kids)
  have d4 := psW_data 4 (some n.kids)
  have w44 := psW_nxt 4 (nxt 4 (some n.kids))
  have d44 := psW_data 4 (nxt 4 (some n.kids))
  have wi48 := psW_wi 48 (nxt 4 (some n.kids))
  rcases op_cases ht with rfl | rfl | rfl | rfl | rfl | rfl | rfl | rfl | rfl | rfl | rfl | rfl | rfl | rfl | rfl | rfl | rfl | rfl | rfl
  . -- bind
    have h' : bindR { zM with id := id, op := 0 } (some n.kids) = some m := h
    unfold bindR at h'
    simp only at h'
    have h1 := psW_nm 2 1 127 (some n.kids)
    generalize nmS 2 1 127 (some n.kids) = p1 at h' h1
    have h2 := psW_nxt 4 p1
    have h3 := psW_data 4 p1
    generalize nxt 4 p1 = p2 at h' h2
    have h4 := psW_data 128 p2
    have h5 := psW_wi 163 p2
    generalize wiS 163 p2 = x at h' h5
    have h6 := psW_data 4 x
    have h7 := psW_nxt 4 x
    have h8 := psW_data 4 (nxt 4 x)
    split at h'
    . split at h'
      . injection h' with h'
        subst h'
        simp [Ms.wt, zM, bsW, atrsW, mdsW, ctlsW, txV]; omega
      . cases h'
    . split at h'
      . injection h' with h'
        subst h'
        simp [Ms.wt, zM, bsW, atrsW, mdsW, ctlsW, txV]; omega
      . cases h'
  . exact res_wt (by omega) h
  . -- unbind
    have h' : (if n.data = [] then some { zM with id := id, op := 2 } else none) = some m := h
    split at h'
    . injection h' with h'
      subst h'
      simp [Ms.wt, zM, bsW, atrsW, mdsW, ctlsW]; omega
    . cases h'
  . -- search
    have h' : searchR { zM with id := id, op := 3 } (some n.kids) = some m := h
    unfold searchR at h'
    simp only at h'
    have s1 := psW_nm 10 0 2 (nxt 4 (some n.kids))
    have s2 := psW_nm 10 0 3 (nmS 10 0 2 (nxt 4 (some n.kids)))
    have s3 := psW_nm 2 0 2147483647 (nmS 10 0 3 (nmS 10 0 2 (nxt 4 (some n.kids))))
    have s4 := psW_nm 2 0 2147483647 (nmS 2 0 2147483647 (nmS 10 0 3 (nmS 10 0 2 (nxt 4 (some n.kids)))))
    have s5 := psW_tr (nmS 2 0 2147483647 (nmS 2 0 2147483647 (nmS 10 0 3 (nmS 10 0 2 (nxt 4 (some n.kids))))))
    split at h'
    . rename_i k r hk
      rw [hk] at s5
      split at h'
      . cases h'
      . rename_i f q hf
        have hfw := rdF_wt _ _ _ _ hf
        split at h'
        . rename_i l h1 h2
          have hl := psW_wi 48 (some r)
          rw [h1] at hl
          have hd := datas_wt l
          split at h'
          . injection h' with h'
            subst h'
            rw [show psW (some (k :: r)) = k.wt + wts r from rfl] at s5
            rw [show psW (some l) = wts l from rfl, show psW (some r) = wts r from rfl] at hl
            simp [Ms.wt, zM, atrsW, mdsW, ctlsW, txV]; omega
          . cases h'
        . cases h'
    . cases h'
  . -- entry
    have h' : (match wiS 48 (nxt 4 (some n.kids)), nxt 48 (nxt 4 (some n.kids)) with
      | some l, some [] => (match allO atO l with
        | some xs => if (4 : Int) = 4 \/ (xs.all fun a => decide (0 < a.2.length)) = true then some { zM with id := id, op := 4, dn := txV (some n.kids), attrs := xs } else none
        | none => none)
      | _, _ => none) = some m := h
    split at h'
    . rename_i l h1 h2
      rw [h1] at wi48
      split at h'
      . rename_i xs hxs
        have := allO_wt (w := atrW) (fun n a => at_wt) hxs
        split at h'
        . injection h' with h'
          subst h'
          rw [show psW (some l) = wts l from rfl] at wi48
          simp [Ms.wt, zM, bsW, atrsW, mdsW, ctlsW, txV]; omega
        . cases h'
      . cases h'
    . cases h'
  . exact res_wt (by omega) h
  . -- modify
    have h' : (match wiS 48 (nxt 4 (some n.kids)), nxt 48 (nxt 4 (some n.kids)) with
      | some l, some [] => (match allO mdO l with
        | some xs => some { zM with id := id, op := 6, dn := txV (some n.kids), mods := xs }
        | none => none)
      | _, _ => none) = some m := h
    split at h'
    . rename_i l h1 h2
      rw [h1] at wi48
      split at h'
      . rename_i xs hxs
        have := allO_wt (w := mdW) (fun n a => md_wt) hxs
        injection h' with h'
        subst h'
        rw [show psW (some l) = wts l from rfl] at wi48
        simp [Ms.wt, zM, bsW, atrsW, mdsW, ctlsW, txV]; omega
      . cases h'
    . cases h'
  . exact res_wt (by omega) h
  . -- add
    have h' : (match wiS 48 (nxt 4 (some n.kids)), nxt 48 (nxt 4 (some n.kids)) with
      | some l, some [] => (match allO atO l with
        | some xs => if (8 : Int) = 4 \/ (xs.all fun a => decide (0 < a.2.length)) = true then some { zM with id := id, op := 8, dn := txV (some n.kids), attrs := xs } else none
        | none => none)
      | _, _ => none) = some m := h
    split at h'
    . rename_i l h1 h2
      rw [h1] at wi48
      split at h'
      . rename_i xs hxs
        have := allO_wt (w := atrW) (fun n a => at_wt) hxs
        split at h'
        . injection h' with h'
          subst h'
          rw [show psW (some l) = wts l from rfl] at wi48
          simp [Ms.wt, zM, bsW, atrsW, mdsW, ctlsW, txV]; omega
        . cases h'
      . cases h'
    . cases h'
  . exact res_wt (by omega) h
  . -- delete
    have h' : some { zM with id := id, op := 10, dn := n.data } = some m := h
    injection h' with h'
    subst h'
    simp [Ms.wt, zM, bsW, atrsW, mdsW, ctlsW]; omega
  . exact res_wt (by omega) h
  . -- move
    have h' : (if endP (myS 128 (trS (nxt 4 (nxt 4 (some n.kids))))) = true then some { zM with id := id, op := 12, dn := txV (some n.kids), rdn := txV (nxt 4 (some n.kids)), delOld := trV (nxt 4 (nxt 4 (some n.kids))), hasSup := myB 128 (trS (nxt 4 (nxt 4 (some n.kids)))), sup := (nxN 128 (trS (nxt 4 (nxt 4 (some n.kids))))).data } else none) = some m := h
    have t1 := psW_tr (nxt 4 (nxt 4 (some n.kids)))
    have t2 := psW_data 128 (trS (nxt 4 (nxt 4 (some n.kids))))
    split at h'
    . injection h' with h'
      subst h'
      simp [Ms.wt, zM, bsW, atrsW, mdsW, ctlsW, txV]; omega
    . cases h'
  . exact res_wt (by omega) h
  . -- compare
    have h' : (if endP (nxt 48 (nxt 4 (some n.kids))) = true /\ endP (nxt 4 (nxt 4 (wiS 48 (nxt 4 (some n.kids))))) = true then some { zM with id := id, op := 14, dn := txV (some n.kids), attr := txV (wiS 48 (nxt 4 (some n.kids))), text := txV (nxt 4 (wiS 48 (nxt 4 (some n.kids)))) } else none) = some m := h
    have t1 := psW_data 4 (wiS 48 (nxt 4 (some n.kids)))
    have t2 := psW_nxt 4 (wiS 48 (nxt 4 (some n.kids)))
    have t3 := psW_data 4 (nxt 4 (wiS 48 (nxt 4 (some n.kids))))
    split at h'
    . injection h' with h'
      subst h'
      simp [Ms.wt, zM, bsW, atrsW, mdsW, ctlsW, txV]; omega
    . cases h'
  . exact res_wt (by omega) h
  . -- abandon
    have h' : (if endP (bdS (some n.kids) n.data 0 2147483647) = true then some { zM with id := id, op := 16, target := bdV (some n.kids) n.data 0 2147483647 } else none) = some m := h
    split at h'
    . injection h' with h'
      subst h'
      simp [Ms.wt, zM, bsW, atrsW, mdsW, ctlsW]; omega
    . cases h'
  . -- extended request
    have h' : (if endP (myS 129 (nxt 128 (some n.kids))) = true then some { zM with id := id, op := 23, oid := (nxN 128 (some n.kids)).data, has := myB 129 (nxt 128 (some n.kids)), value := (nxN 129 (nxt 128 (some n.kids))).data } else none) = some m := h
    have t1 := psW_data 128 (some n.kids)
    have t2 := psW_nxt 128 (some n.kids)
    have t3 := psW_data 129 (nxt 128 (some n.kids))
    split at h'
    . injection h' with h'
      subst h'
      simp [Ms.wt, zM, bsW, atrsW, mdsW, ctlsW]; omega
    . cases h'
  . -- extended response
    have h' : (if endP (myS 139 (myS 138 (nxt 4 (nxt 4 (nmS 10 0 2147483647 (some n.kids)))))) = true then some { zM with id := id, op := 24, code := nmV 10 0 2147483647 (some n.kids), matched := txV (nmS 10 0 2147483647 (some n.kids)), text := txV (nxt 4 (nmS 10 0 2147483647 (some n.kids))), oid := (nxN 138 (nxt 4 (nxt 4 (nmS 10 0 2147483647 (some n.kids))))).data, has := myB 139 (myS 138 (nxt 4 (nxt 4 (nmS 10 0 2147483647 (some n.kids))))), value := (nxN 139 (myS 138 (nxt 4 (nxt 4 (nmS 10 0 2147483647 (some n.kids)))))).data } else none) = some m := h
    have t1 := psW_nm 10 0 2147483647 (some n.kids)
    generalize nmS 10 0 2147483647 (some n.kids) = p1 at h' t1
    have t2 := psW_data 4 p1
    have t3 := psW_nxt 4 p1
    have t4 := psW_data 4 (nxt 4 p1)
    have t5 := psW_nxt 4 (nxt 4 p1)
    generalize nxt 4 (nxt 4 p1) = p3 at h' t5
    have t6 := psW_data 138 p3
    have t7 := psW_my 138 p3
    have t8 := psW_data 139 (myS 138 p3)
    split at h'
    . injection h' with h'
      subst h'
      simp [Ms.wt, zM, bsW, atrsW, mdsW, ctlsW, txV]; omega
    . cases h'
theorem rdO_wt {id : Int} {o : Nd} {cs : List Nd} {m : Ms} (hw : WfN o 63) (h : rdO id o cs = .ok m) : m.wt <= 7 * o.wt + 2 * wts cs + 16 := by
  unfold rdO at h
  split at h
  . cases h
  . rename_i op hop
    split at h
    . rename_i x l h1 h2
      injection h with h
      obtain ⟨_, ht⟩ := opOf_tag hop
      have r3 := (opR_ok hw ht h1).hctls
      have hx := opR_wt ht h1
      have hc := allO_wt (w := ctlW) (fun n c => ct_wt) h2
      subst h
      have e : Ms.wt { x with ctls := l } = x.wt + ctlsW l := by
        unfold Ms.wt
        rw [r3]
        simp [ctlsW]
      rw [e]
      unfold ctlsW
      omega
    . cases h
theorem rdM_wt {n : Nd} {m : Ms} (hw : WfN n 64) (h : rdM n = .ok m) : m.wt <= 7 * n.wt + 16 := by
  have hks : ∀ l, wiS 48 (some [n]) = some l -> WfKs l 63 := by
    intro l hl
    unfold wiS at hl
    split at hl
    . rename_i hs
      injection hl with hl
      have e : nxN 48 (some [n]) = n := by
        show (if n.tag = 48 then n else zN) = n
        by_cases hc : n.tag = 48
        . rw [if_pos hc]
        . have : nxt 48 (some [n]) = none := by
            show (if n.tag = 48 then some [] else none) = (none : PS)
            rw [if_neg hc]
          rw [this] at hs; cases hs
      rw [e] at hl
      subst hl
      exact (wf_eq hw).2.2.2.2.2
    . cases hl
  have hkn : ∀ l, nmS 2 0 2147483647 (wiS 48 (some [n])) = some l -> WfKs l 63 := by
    intro l hl
    have : nxt 2 (wiS 48 (some [n])) = some l := by
      unfold nmS bdS at hl
      split at hl
      . exact hl
      . cases hl
    exact psw_mem this hks
  have h1 := one_wi 48 n
  have h2 := psW_nm 2 0 2147483647 (wiS 48 (some [n]))
  unfold rdM at h
  simp only at h
  split at h
  . rename_i o ho
    have h3 := hkn _ ho
    rw [WfKs] at h3
    have := rdO_wt h3.1 h
    rw [ho] at h2
    rw [show psW (some [o]) = o.wt + 0 from rfl] at h2
    simp only [wts] at this
    omega
  . rename_i o c ho
    have h3 := hkn _ ho
    rw [WfKs] at h3
    have hc := c.wt_eq
    split at h
    . have := rdO_wt h3.1 h
      rw [ho] at h2
      rw [show psW (some [o, c]) = o.wt + (c.wt + 0) from rfl] at h2
      omega
    . cases h
  . cases h
theorem read_wt {s : Bs} {m : Ms} (h : readM s = .ok m) : m.wt <= 7 * s.length + 16 := by
  unfold readM at h
  split at h
  . rename_i hw
    have := rdM_wt (who_wf hw) h
    have := who_wt hw
    omega
  . cases h
end Go.Proofs.YtibkffoeioidlaaDoor
