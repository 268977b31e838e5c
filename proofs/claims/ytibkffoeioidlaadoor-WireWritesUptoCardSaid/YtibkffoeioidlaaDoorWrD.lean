/- Messages: what is written is read as the message, without what plays no part. -/
import Derived.Test.YtibkffoeioidlaaDoorWrC
import Derived.Test.YtibkffoeioidlaaDoorTlvO
namespace Go.Proofs.YtibkffoeioidlaaDoor
set_option linter.all false
set_option maxRecDepth 4000
open Go.RowKit

theorem nx_cons (t : Int) (n : Nd) (l : List Nd) : nxt t (some (n :: l)) = if n.tag = t then some l else none := rfl
theorem nxN_cons (t : Int) (n : Nd) (l : List Nd) : nxN t (some (n :: l)) = if n.tag = t then n else zN := rfl
theorem lf_tag (t : Int) (d : Bs) : (lfN t d).tag = t := rfl
theorem lf_data (t : Int) (d : Bs) : (lfN t d).data = d := rfl
theorem nx_same (n : Nd) (l : List Nd) {t : Int} (h : n.tag = t) : nxt t (some (n :: l)) = some l := by rw [nx_cons, if_pos h]
theorem nxN_same (n : Nd) (l : List Nd) {t : Int} (h : n.tag = t) : nxN t (some (n :: l)) = n := by rw [nxN_cons, if_pos h]
theorem inM_iff {n lo hi : Int} : inM n lo hi = true ↔ lo <= n /\ n <= hi := by unfold inM; exact decide_eq_true_iff
theorem nm_back {t n lo hi : Int} (h : lo <= n /\ n <= hi) (hn : inR .i64 n) (l : List Nd) : nmS t lo hi (some (numN t n :: l)) = some l /\ nmV t lo hi (some (numN t n :: l)) = n := by
  obtain ⟨h1, h2⟩ := int_back hn
  have e1 : nxt t (some (numN t n :: l)) = some l := nx_same _ _ rfl
  have e2 : (nxN t (some (numN t n :: l))).data = intB n := by rw [nxN_same (t := t) (numN t n) l rfl]; rfl
  have e3 : bdS (some l) (intB n) lo hi = some l := by
    unfold bdS intB
    rw [h1, h2, if_pos ⟨rfl, h⟩]
  unfold nmS nmV
  rw [e1, e2]
  refine ⟨e3, ?_⟩
  unfold bdV
  rw [e3]
  unfold intB
  rw [h2]; rfl
theorem tr_back (b : Bool) (l : List Nd) : trS (some (truN b :: l)) = some l /\ trV (some (truN b :: l)) = b := by
  cases b <;> exact ⟨rfl, rfl⟩
theorem all4_txts : ∀ l : List Bs, all4 (txtsN l) = true
  | [] => rfl
  | a :: l => by have := all4_txts l; unfold all4 txtsN at *; simp only [List.map_cons, List.all_cons, this, Bool.and_true]; rfl
theorem datas_txts : ∀ l : List Bs, datas (txtsN l) = l
  | [] => rfl
  | a :: l => by have := datas_txts l; unfold datas txtsN at *; simp only [List.map_cons, this]; rfl
theorem vl_back (a : Bs) (vs : List Bs) : vlO (some [txtN a, sqN 49 (txtsN vs)]) = some (a, vs) := by
  have e1 : wiS 49 (nxt 4 (some [txtN a, sqN 49 (txtsN vs)])) = some (txtsN vs) := rfl
  have e2 : nxt 49 (nxt 4 (some [txtN a, sqN 49 (txtsN vs)])) = some [] := rfl
  unfold vlO
  rw [e1, e2]
  simp only
  rw [if_pos (all4_txts vs), datas_txts]; rfl
theorem at_back (a : Atr) : atO (attrN a) = some a := vl_back a.1 a.2
theorem md_back {x : Mdf} (h : inM x.op 0 2 = true) (hn : inR .i64 x.op) : mdO (modN x) = some x := by
  obtain ⟨e1, e2⟩ := nm_back (t := 10) (inM_iff.1 h) hn [attrN (x.name, x.values)]
  have e0 : wiS 48 (some [modN x]) = some [numN 10 x.op, attrN (x.name, x.values)] := rfl
  unfold mdO
  rw [e0, e1, e2]
  have e3 : wiS 48 (some [attrN (x.name, x.values)]) = some [txtN x.name, sqN 49 (txtsN x.values)] := rfl
  have e4 : nxt 48 (some [attrN (x.name, x.values)]) = some [] := rfl
  rw [e3, e4, vl_back]
theorem allO_back {α β : Type} {f : Nd -> Option β} {g : α -> Nd} {k : α -> β} : ∀ {l : List α}, (∀ a ∈ l, f (g a) = some (k a)) -> allO f (l.map g) = some (l.map k)
  | [], _ => rfl
  | a :: l, h => by
    have h1 := h a (List.mem_cons_self ..)
    have h2 := allO_back (f := f) (g := g) (k := k) (l := l) (fun b hb => h b (List.mem_cons_of_mem _ hb))
    simp only [List.map_cons, allO]
    rw [h1, h2]
theorem ct_back (c : Ctl) : ctO (ctlN c) = some (bareC c) := by
  obtain ⟨oid, crit, has, value⟩ := c
  cases crit <;> cases has <;> rfl
theorem pcs_back : ∀ ps : Pcs, pcsR_of (pcsN ps) = ps
  | [] => rfl
  | (k, t) :: ps => by
    have := pcs_back ps
    unfold pcsR_of pcsN at *
    simp only [List.map_cons, this]
    rw [lf_tag, lf_data, show 128 + k - 128 = k by omega]
theorem flsN_eq : ∀ l : List Fl, flsN l = l.map flN
  | [] => rfl
  | k :: ks => by rw [flsN, flsN_eq ks]; rfl
theorem bareFs_len : ∀ l : List Fl, (bareFs l).length = l.length
  | [] => by simp [bareFs]
  | k :: ks => by simp [bareFs, bareFs_len ks]
mutual
theorem rdF_back : ∀ (f : Fl) (n m : Nat), askM n f = some m -> rdF (flN f) n = some (bareF f, m)
  | .mk k a v ps ks, n, m, h => by
    rw [askM] at h
    split at h
    . cases h
    rename_i hc
    have c1 : ¬ 1000 < n + 1 := fun q => hc (.inl q)
    have c2 : ¬ (k < 0 \/ 8 < k) := fun q => hc (q.elim (fun q => .inr (.inl q)) (fun q => .inr (.inr (.inl q))))
    have c3 : k = 2 -> ks.length = 1 := fun q => Classical.byContradiction fun q' => hc (.inr (.inr (.inr (.inl ⟨q, q'⟩))))
    have c4 : k = 4 -> pcsOk ps = true := fun q => by
      cases hq : pcsOk ps with
      | true => rfl
      | false => exact absurd (.inr (.inr (.inr (.inr ⟨q, hq⟩)))) hc
    clear hc
    have hb : bareF (.mk k a v ps ks) = if k <= 2 then .mk k [] [] [] (bareFs ks) else .mk k a (if k = 4 \/ k = 7 then [] else v) (if k = 4 then ps else []) [] := by rw [bareF, if_neg c2]
    rw [hb, flN]
    clear hb
    by_cases h7 : k = 7
    . subst h7
      rw [if_neg (by omega)] at h
      obtain rfl := Option.some.inj h
      rw [if_pos rfl]
      unfold lfN
      rw [rdF, if_neg c1, if_pos rfl, if_neg (by omega)]; rfl
    rw [if_neg h7]
    by_cases h3 : k < 3
    . rw [if_pos h3] at h ⊢
      have ih := rdFs_back ks (n + 1) m h
      unfold sqN
      rw [rdF, if_neg c1, if_neg (by omega), if_pos (by omega), ih]
      simp only
      rw [if_neg (by rw [bareFs_len]; omega), if_pos (by omega), show 160 + k - 160 = k by omega]
    rw [if_neg h3] at h ⊢
    obtain rfl := Option.some.inj h
    rw [if_neg (show ¬ k <= 2 by omega)]
    by_cases h4 : k = 4
    . subst h4
      have hp := c4 rfl
      have e1 : endP (nxt 48 (nxt 4 (some [txtN a, sqN 48 (pcsN ps)]))) = true := rfl
      have e2 : (nxN 48 (nxt 4 (some [txtN a, sqN 48 (pcsN ps)]))).kids = pcsN ps := rfl
      have e3 : txV (some [txtN a, sqN 48 (pcsN ps)]) = a := rfl
      rw [if_pos rfl]
      generalize hL : [txtN a, sqN 48 (pcsN ps)] = L at *
      unfold sqN
      rw [rdF, if_neg c1, if_neg (by omega), if_neg (by omega), if_pos rfl, e1, e2, e3, pcs_back, if_pos ⟨rfl, hp⟩, if_pos (.inl rfl), if_pos rfl]
    . rw [if_neg h4]
      have e1 : endP (nxt 4 (nxt 4 (some [txtN a, txtN v]))) = true := rfl
      have e2 : txV (some [txtN a, txtN v]) = a := rfl
      have e3 : txV (nxt 4 (some [txtN a, txtN v])) = v := rfl
      generalize hL : [txtN a, txtN v] = L at *
      unfold sqN
      rw [rdF, if_neg c1, if_neg (by omega), if_neg (by omega), if_neg (by omega), if_pos (by omega), e1, if_pos rfl, e2, e3, if_neg (by omega), if_neg h4, show 160 + k - 160 = k by omega]
theorem rdFs_back : ∀ (l : List Fl) (n m : Nat), asksM n l = some m -> rdFs (flsN l) n = some (bareFs l, m)
  | [], n, m, h => by
    rw [asksM] at h
    obtain rfl := Option.some.inj h
    rw [flsN, bareFs, rdFs]
  | k :: ks, n, m, h => by
    rw [asksM] at h
    split at h
    . cases h
    . rename_i q hq
      have h1 := rdF_back k n q hq
      have h2 := rdFs_back ks q m h
      rw [flsN, bareFs, rdFs, h1]
      simp only
      rw [h2]
end
structure MsI (m : Ms) : Prop where
  id : inR .i64 m.id
  ver : inR .i64 m.ver
  scope : inR .i64 m.scope
  deref : inR .i64 m.deref
  size : inR .i64 m.size
  time : inR .i64 m.time
  target : inR .i64 m.target
  code : inR .i64 m.code
  mds : ∀ x ∈ m.mods, inR .i64 x.op
theorem inR_small {n lo hi : Int} (h : lo <= n /\ n <= hi) (h1 : -9223372036854775808 <= lo) (h2 : hi <= 9223372036854775807) : inR .i64 n := by simp only [inR]; omega
theorem op_cases {op : Int} (h : tagM op ≠ 0) : op = 0 \/ op = 1 \/ op = 2 \/ op = 3 \/ op = 4 \/ op = 5 \/ op = 6 \/ op = 7 \/ op = 8 \/ op = 9 \/ op = 10 \/ op = 11 \/ op = 12 \/ op = 13 \/ op = 14 \/ op = 15 \/ op = 16 \/ op = 23 \/ op = 24 := by
  unfold tagM at h
  split at h
  . omega
  split at h
  . omega
  split at h
  . omega
  split at h
  . omega
  . exact absurd rfl h
theorem op_back {op : Int} (h : tagM op ≠ 0) : opOf (tagM op) = some op := by
  rcases op_cases h with rfl | rfl | rfl | rfl | rfl | rfl | rfl | rfl | rfl | rfl | rfl | rfl | rfl | rfl | rfl | rfl | rfl | rfl | rfl <;> rfl
theorem opR_back {m : Ms} (ht : tagM m.op ≠ 0) (ho : okM m = true) : opR { zM with id := m.id, op := m.op } (elemM m) = some { bareM m with ctls := [] } := by
  obtain ⟨id, op, dn, ver, sasl, mech, text, scope, deref, size, time, types, fl, names, attrs, mods, rdn, delOld, hasSup, sup, attr, target, oid, has, value, code, matched, ctls⟩ := m
  simp only at ht
  rcases op_cases ht with rfl | rfl | rfl | rfl | rfl | rfl | rfl | rfl | rfl | rfl | rfl | rfl | rfl | rfl | rfl | rfl | rfl | rfl | rfl
  . -- bind
    have hv := inM_iff.1 (show inM ver 1 127 = true from ho)
    have key : ∀ l, nmS 2 1 127 (some (numN 2 ver :: l)) = some l /\ nmV 2 1 127 (some (numN 2 ver :: l)) = ver := nm_back hv (inR_small hv (by decide) (by decide))
    cases sasl <;> cases has
    . show bindR _ (some [numN 2 ver, txtN dn, lfN 128 text]) = _
      unfold bindR
      simp only [key]
      rfl
    . show bindR _ (some [numN 2 ver, txtN dn, lfN 128 text]) = _
      unfold bindR
      simp only [key]
      rfl
    . show bindR _ (some [numN 2 ver, txtN dn, sqN 163 [txtN mech]]) = _
      unfold bindR
      simp only [key]
      rfl
    . show bindR _ (some [numN 2 ver, txtN dn, sqN 163 [txtN mech, txtN value]]) = _
      unfold bindR
      simp only [key]
      rfl
  . -- a result
    have key : ∀ l, nmS 10 0 2147483647 (some (numN 10 code :: l)) = some l /\ nmV 10 0 2147483647 (some (numN 10 code :: l)) = code := nm_back (inM_iff.1 ho) (inR_small (inM_iff.1 ho) (by decide) (by decide))
    show (if endP (nxt 4 (nxt 4 (nmS 10 0 2147483647 (some [numN 10 code, txtN matched, txtN text])))) = true then some { zM with id := id, op := 1, code := nmV 10 0 2147483647 (some [numN 10 code, txtN matched, txtN text]), matched := txV (nmS 10 0 2147483647 (some [numN 10 code, txtN matched, txtN text])), text := txV (nxt 4 (nmS 10 0 2147483647 (some [numN 10 code, txtN matched, txtN text]))) } else none) = _
    simp only [key]
    rfl
  . rfl
  . -- search
    have ho' : ((askM 0 fl).isSome && (inM scope 0 2 && (inM deref 0 3 && (inM size 0 2147483647 && inM time 0 2147483647)))) = true := ho
    simp only [Bool.and_eq_true] at ho'
    obtain ⟨h0, h1, h2, h3, h4⟩ := ho'
    obtain ⟨q, hq⟩ := Option.isSome_iff_exists.1 h0
    have hr := rdF_back fl 0 q hq
    have k1 : ∀ l, nmS 10 0 2 (some (numN 10 scope :: l)) = some l /\ nmV 10 0 2 (some (numN 10 scope :: l)) = scope := nm_back (inM_iff.1 h1) (inR_small (inM_iff.1 h1) (by decide) (by decide))
    have k2 : ∀ l, nmS 10 0 3 (some (numN 10 deref :: l)) = some l /\ nmV 10 0 3 (some (numN 10 deref :: l)) = deref := nm_back (inM_iff.1 h2) (inR_small (inM_iff.1 h2) (by decide) (by decide))
    have k3 : ∀ l, nmS 2 0 2147483647 (some (numN 2 size :: l)) = some l /\ nmV 2 0 2147483647 (some (numN 2 size :: l)) = size := nm_back (inM_iff.1 h3) (inR_small (inM_iff.1 h3) (by decide) (by decide))
    have k4 : ∀ l, nmS 2 0 2147483647 (some (numN 2 time :: l)) = some l /\ nmV 2 0 2147483647 (some (numN 2 time :: l)) = time := nm_back (inM_iff.1 h4) (inR_small (inM_iff.1 h4) (by decide) (by decide))
    show searchR _ (some [txtN dn, numN 10 scope, numN 10 deref, numN 2 size, numN 2 time, truN types, flN fl, sqN 48 (txtsN names)]) = _
    have k0 : ∀ l, nxt 4 (some (txtN dn :: l)) = some l := fun _ => rfl
    have k5 := tr_back types
    unfold searchR
    simp only [k0, k1, k2, k3, k4, k5, hr]
    show (if all4 (txtsN names) = true then some { zM with id := id, op := 3, dn := dn, scope := scope, deref := deref, size := size, time := time, types := types, fl := bareF fl, names := datas (txtsN names) } else none) = _
    rw [if_pos (all4_txts names), datas_txts]
    rfl
  . -- entry
    have e := allO_back (f := atO) (g := attrN) (k := fun a => a) (l := attrs) (fun a _ => at_back a)
    rw [List.map_id'] at e
    show (match allO atO (attrs.map attrN) with
      | some xs => if (4 : Int) = 4 \/ (xs.all fun a => decide (0 < a.2.length)) = true then some { zM with id := id, op := 4, dn := dn, attrs := xs } else none
      | none => none) = _
    rw [e]
    rfl
  . -- a result
    have key : ∀ l, nmS 10 0 2147483647 (some (numN 10 code :: l)) = some l /\ nmV 10 0 2147483647 (some (numN 10 code :: l)) = code := nm_back (inM_iff.1 ho) (inR_small (inM_iff.1 ho) (by decide) (by decide))
    show (if endP (nxt 4 (nxt 4 (nmS 10 0 2147483647 (some [numN 10 code, txtN matched, txtN text])))) = true then some { zM with id := id, op := 5, code := nmV 10 0 2147483647 (some [numN 10 code, txtN matched, txtN text]), matched := txV (nmS 10 0 2147483647 (some [numN 10 code, txtN matched, txtN text])), text := txV (nxt 4 (nmS 10 0 2147483647 (some [numN 10 code, txtN matched, txtN text]))) } else none) = _
    simp only [key]
    rfl
  . -- modify
    have ho' : (mods.all fun x => inM x.op 0 2) = true := ho
    have e := allO_back (f := mdO) (g := modN) (k := fun a => a) (l := mods) (fun a ha => md_back (List.all_eq_true.1 ho' a ha) (inR_small (inM_iff.1 (List.all_eq_true.1 ho' a ha)) (by decide) (by decide)))
    rw [List.map_id'] at e
    show (match allO mdO (mods.map modN) with
      | some xs => some { zM with id := id, op := 6, dn := dn, mods := xs }
      | none => none) = _
    rw [e]
    rfl
  . -- a result
    have key : ∀ l, nmS 10 0 2147483647 (some (numN 10 code :: l)) = some l /\ nmV 10 0 2147483647 (some (numN 10 code :: l)) = code := nm_back (inM_iff.1 ho) (inR_small (inM_iff.1 ho) (by decide) (by decide))
    show (if endP (nxt 4 (nxt 4 (nmS 10 0 2147483647 (some [numN 10 code, txtN matched, txtN text])))) = true then some { zM with id := id, op := 7, code := nmV 10 0 2147483647 (some [numN 10 code, txtN matched, txtN text]), matched := txV (nmS 10 0 2147483647 (some [numN 10 code, txtN matched, txtN text])), text := txV (nxt 4 (nmS 10 0 2147483647 (some [numN 10 code, txtN matched, txtN text]))) } else none) = _
    simp only [key]
    rfl
  . -- add
    have e := allO_back (f := atO) (g := attrN) (k := fun a => a) (l := attrs) (fun a _ => at_back a)
    rw [List.map_id'] at e
    show (match allO atO (attrs.map attrN) with
      | some xs => if (8 : Int) = 4 \/ (xs.all fun a => decide (0 < a.2.length)) = true then some { zM with id := id, op := 8, dn := dn, attrs := xs } else none
      | none => none) = _
    rw [e]
    simp only
    rw [if_pos (.inr ho)]
    rfl
  . -- a result
    have key : ∀ l, nmS 10 0 2147483647 (some (numN 10 code :: l)) = some l /\ nmV 10 0 2147483647 (some (numN 10 code :: l)) = code := nm_back (inM_iff.1 ho) (inR_small (inM_iff.1 ho) (by decide) (by decide))
    show (if endP (nxt 4 (nxt 4 (nmS 10 0 2147483647 (some [numN 10 code, txtN matched, txtN text])))) = true then some { zM with id := id, op := 9, code := nmV 10 0 2147483647 (some [numN 10 code, txtN matched, txtN text]), matched := txV (nmS 10 0 2147483647 (some [numN 10 code, txtN matched, txtN text])), text := txV (nxt 4 (nmS 10 0 2147483647 (some [numN 10 code, txtN matched, txtN text]))) } else none) = _
    simp only [key]
    rfl
  . rfl
  . -- a result
    have key : ∀ l, nmS 10 0 2147483647 (some (numN 10 code :: l)) = some l /\ nmV 10 0 2147483647 (some (numN 10 code :: l)) = code := nm_back (inM_iff.1 ho) (inR_small (inM_iff.1 ho) (by decide) (by decide))
    show (if endP (nxt 4 (nxt 4 (nmS 10 0 2147483647 (some [numN 10 code, txtN matched, txtN text])))) = true then some { zM with id := id, op := 11, code := nmV 10 0 2147483647 (some [numN 10 code, txtN matched, txtN text]), matched := txV (nmS 10 0 2147483647 (some [numN 10 code, txtN matched, txtN text])), text := txV (nxt 4 (nmS 10 0 2147483647 (some [numN 10 code, txtN matched, txtN text]))) } else none) = _
    simp only [key]
    rfl
  . -- move
    cases hasSup <;> cases delOld <;> rfl
  . -- a result
    have key : ∀ l, nmS 10 0 2147483647 (some (numN 10 code :: l)) = some l /\ nmV 10 0 2147483647 (some (numN 10 code :: l)) = code := nm_back (inM_iff.1 ho) (inR_small (inM_iff.1 ho) (by decide) (by decide))
    show (if endP (nxt 4 (nxt 4 (nmS 10 0 2147483647 (some [numN 10 code, txtN matched, txtN text])))) = true then some { zM with id := id, op := 13, code := nmV 10 0 2147483647 (some [numN 10 code, txtN matched, txtN text]), matched := txV (nmS 10 0 2147483647 (some [numN 10 code, txtN matched, txtN text])), text := txV (nxt 4 (nmS 10 0 2147483647 (some [numN 10 code, txtN matched, txtN text]))) } else none) = _
    simp only [key]
    rfl
  . rfl
  . -- a result
    have key : ∀ l, nmS 10 0 2147483647 (some (numN 10 code :: l)) = some l /\ nmV 10 0 2147483647 (some (numN 10 code :: l)) = code := nm_back (inM_iff.1 ho) (inR_small (inM_iff.1 ho) (by decide) (by decide))
    show (if endP (nxt 4 (nxt 4 (nmS 10 0 2147483647 (some [numN 10 code, txtN matched, txtN text])))) = true then some { zM with id := id, op := 15, code := nmV 10 0 2147483647 (some [numN 10 code, txtN matched, txtN text]), matched := txV (nmS 10 0 2147483647 (some [numN 10 code, txtN matched, txtN text])), text := txV (nxt 4 (nmS 10 0 2147483647 (some [numN 10 code, txtN matched, txtN text]))) } else none) = _
    simp only [key]
    rfl
  . -- abandon
    have h1 := inM_iff.1 (show inM target 0 2147483647 = true from ho)
    obtain ⟨q1, q2⟩ := int_back (inR_small h1 (by decide) (by decide))
    have e3 : bdS (some []) (intB target) 0 2147483647 = some [] := by
      unfold bdS intB
      rw [q1, q2, if_pos ⟨rfl, h1⟩]
    have e4 : bdV (some []) (intB target) 0 2147483647 = target := by
      unfold bdV
      rw [e3]
      unfold intB
      rw [q2]; rfl
    show (if endP (bdS (some []) (intB target) 0 2147483647) = true then some { zM with id := id, op := 16, target := bdV (some []) (intB target) 0 2147483647 } else none) = _
    rw [e3, e4]
    rfl
  . cases has <;> rfl
  . -- extended
    have key : ∀ l, nmS 10 0 2147483647 (some (numN 10 code :: l)) = some l /\ nmV 10 0 2147483647 (some (numN 10 code :: l)) = code := nm_back (inM_iff.1 ho) (inR_small (inM_iff.1 ho) (by decide) (by decide))
    have hk : ∀ l, opR { zM with id := id, op := 24 } (sqN 120 (numN 10 code :: l)) = (if endP (myS 139 (myS 138 (nxt 4 (nxt 4 (some l))))) = true then some { zM with id := id, op := 24, code := code, matched := txV (some l), text := txV (nxt 4 (some l)), oid := (nxN 138 (nxt 4 (nxt 4 (some l)))).data, has := myB 139 (myS 138 (nxt 4 (nxt 4 (some l)))), value := (nxN 139 (myS 138 (nxt 4 (nxt 4 (some l))))).data } else none) := by
      intro l
      show (if endP (myS 139 (myS 138 (nxt 4 (nxt 4 (nmS 10 0 2147483647 (some (numN 10 code :: l))))))) = true then some { zM with id := id, op := 24, code := nmV 10 0 2147483647 (some (numN 10 code :: l)), matched := txV (nmS 10 0 2147483647 (some (numN 10 code :: l))), text := txV (nxt 4 (nmS 10 0 2147483647 (some (numN 10 code :: l)))), oid := (nxN 138 (nxt 4 (nxt 4 (nmS 10 0 2147483647 (some (numN 10 code :: l)))))).data, has := myB 139 (myS 138 (nxt 4 (nxt 4 (nmS 10 0 2147483647 (some (numN 10 code :: l)))))), value := (nxN 139 (myS 138 (nxt 4 (nxt 4 (nmS 10 0 2147483647 (some (numN 10 code :: l))))))).data } else none) = _
      simp only [key]
    cases has
    . cases oid with
      | nil => exact hk [txtN matched, txtN text]
      | cons a r => exact hk [txtN matched, txtN text, lfN 138 (a :: r)]
    . cases oid with
      | nil => exact hk [txtN matched, txtN text, lfN 139 value]
      | cons a r => exact hk [txtN matched, txtN text, lfN 138 (a :: r), lfN 139 value]
theorem rd_node {m : Ms} (hi : inM m.id 0 2147483647 = true) (ht : tagM m.op ≠ 0) (ho : okM m = true) : rdM (nodeM m) = .ok (bareM m) := by
  obtain ⟨k1, k2⟩ := nm_back (t := 2) (inM_iff.1 hi) (inR_small (inM_iff.1 hi) (by decide) (by decide)) (elemM m :: (if m.ctls.length = 0 then [] else [sqN 160 (m.ctls.map ctlN)]))
  have e0 : wiS 48 (some [nodeM m]) = some (numN 2 m.id :: elemM m :: (if m.ctls.length = 0 then [] else [sqN 160 (m.ctls.map ctlN)])) := rfl
  have hop : (elemM m).tag = tagM m.op := by unfold elemM; split; rfl; split; rfl; split <;> rfl
  have hc := allO_back (f := ctO) (g := ctlN) (k := bareC) (l := m.ctls) (fun c _ => ct_back c)
  have hb : (bareM m).ctls = m.ctls.map bareC := by
    unfold bareM
    simp only
    simp only [apply_ite Ms.ctls, ite_self]
  have hfin : ∀ x : Ms, x.ctls = m.ctls.map bareC -> { { x with ctls := [] } with ctls := m.ctls.map bareC } = x := fun x hx => by rw [<- hx]
  have hO : rdO m.id (elemM m) (m.ctls.map ctlN) = .ok (bareM m) := by
    unfold rdO
    rw [hop, op_back ht]
    simp only
    rw [opR_back ht ho, hc]
    simp only
    exact congrArg Except.ok (hfin _ hb)
  unfold rdM
  simp only
  rw [e0, k1, k2]
  by_cases hl : m.ctls.length = 0
  . rw [if_pos hl]
    have hn : m.ctls = [] := List.length_eq_zero_iff.1 hl
    rw [hn] at hO
    exact hO
  . rw [if_neg hl]
    exact hO
end Go.Proofs.YtibkffoeioidlaaDoor
