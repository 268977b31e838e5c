/- Layer 6, plain: what a cell and a head are; what the sectors tell. -/
import Derived.Test.YtmbpjgjajedonaaGreatDoorTlvA
namespace Go.Proofs.YtmbpjgjajedonaaGreatDoor
set_option linter.all false
set_option maxRecDepth 4000
open Go.RowKit

abbrev B8 := List UInt8
def crcStep (r : Nat) : Nat := if r % 2 = 1 then (r / 2) ^^^ 3988292384 else r / 2
def crcBits : Nat -> Nat -> Nat
  | 0, r => r
  | k + 1, r => crcBits k (crcStep r)
def crcByte (r : Nat) (c : UInt8) : Nat := crcBits 8 (r ^^^ c.toNat)
def crcReg (s : B8) : Nat := s.foldl crcByte 4294967295
def crcM (s : B8) : Nat := 4294967295 - crcReg s
theorem crcStep_lt {r : Nat} (h : r < 4294967296) : crcStep r < 4294967296 := by
  unfold crcStep
  split
  . exact Nat.xor_lt_two_pow (n := 32) (by omega) (by decide)
  . omega
theorem crcBits_lt : ∀ (k : Nat) {r : Nat}, r < 4294967296 -> crcBits k r < 4294967296
  | 0, _, h => h
  | k + 1, _, h => crcBits_lt k (crcStep_lt h)
theorem crcBits_snoc : ∀ (k r : Nat), crcBits (k + 1) r = crcStep (crcBits k r)
  | 0, _ => rfl
  | k + 1, r => crcBits_snoc k (crcStep r)
theorem xor_byte_lt {r : Nat} (c : UInt8) (h : r < 4294967296) : r ^^^ c.toNat < 4294967296 := Nat.xor_lt_two_pow (n := 32) h (by have := c.toNat_lt; omega)
theorem crcReg_lt (s : B8) : crcReg s < 4294967296 := by
  have : ∀ (s : B8) (r : Nat), r < 4294967296 -> s.foldl crcByte r < 4294967296 := by
    intro s
    induction s with
    | nil => intro r h; exact h
    | cons c s ih => intro r h; exact ih _ (crcBits_lt 8 (xor_byte_lt c h))
  exact this s _ (by decide)
theorem crcM_lt (s : B8) : crcM s < 4294967296 := by unfold crcM; omega
theorem crcReg_snoc (s : B8) (c : UInt8) : crcReg (s ++ [c]) = crcByte (crcReg s) c := by simp [crcReg]

theorem foldB : ∀ (l : B8) (m : Nat), l.foldl (fun n c => n * 256 + c.toNat) m = m * 256 ^ l.length + beN l
  | [], m => by simp [beN]
  | c :: l, m => by
    have e : beN (c :: l) = l.foldl (fun n c => n * 256 + c.toNat) c.toNat := by simp [beN]
    rw [List.foldl_cons, foldB l, e, foldB l, List.length_cons, Nat.pow_succ, Nat.add_mul, Nat.mul_assoc, Nat.mul_comm 256]; omega
theorem beN_cons (c : UInt8) (l : B8) : beN (c :: l) = c.toNat * 256 ^ l.length + beN l := by
  have e : beN (c :: l) = l.foldl (fun n c => n * 256 + c.toNat) c.toNat := by simp [beN]
  rw [e, foldB]
theorem beN_put (n : Nat) : ∀ k, beN (putB n k) = n % 256 ^ k
  | 0 => by simp [putB, beN, Nat.mod_one]
  | k + 1 => by
    have h := Nat.mod_mul (x := n) (a := 256 ^ k) (b := 256)
    rw [<- Nat.pow_succ] at h
    rw [putB, beN_cons, beN_put n k, putB_length, UInt8.toNat_ofNat', show 2 ^ 8 = 256 from rfl, h, Nat.mul_comm (256 ^ k)]
    omega
theorem beN_put_lt {n k : Nat} (h : n < 256 ^ k) : beN (putB n k) = n := by rw [beN_put, Nat.mod_eq_of_lt h]
theorem putB_more (b x m : Nat) : ∀ k, k <= m -> putB (b * 256 ^ m + x) k = putB x k
  | 0, _ => rfl
  | k + 1, h => by
    rw [putB, putB, putB_more b x m k (by omega)]
    congr 1
    apply UInt8.toNat.inj
    rw [UInt8.toNat_ofNat', UInt8.toNat_ofNat', show m = (m - 1 - k) + 1 + k by omega, Nat.pow_add, Nat.pow_succ, ← Nat.mul_assoc, ← Nat.mul_assoc, Nat.add_comm, Nat.add_mul_div_right _ _ (Nat.pow_pos (by decide)), Nat.add_mul_mod_self_right]
theorem put_beN : ∀ (l : B8), putB (beN l) l.length = l
  | [] => rfl
  | c :: l => by
    have h := beN_lt l
    have hc := c.toNat_lt
    rw [List.length_cons, beN_cons, putB, putB_more _ _ _ _ (Nat.le_refl _), put_beN l]
    congr 1
    apply UInt8.toNat.inj
    rw [UInt8.toNat_ofNat', Nat.add_comm, Nat.add_mul_div_right _ _ (Nat.pow_pos (by decide)), Nat.div_eq_of_lt h, Nat.zero_add]
    omega

structure Cl where
  gen : Nat
  seq : Nat
  part : Nat
  parts : Nat
  data : B8
def padM (s : B8) : B8 := s ++ List.replicate (124 - s.length) 0
def sealM (s : B8) : B8 := putB (crcM (padM s)) 4 ++ padM s
def bodyC (c : Cl) : B8 := [67] ++ (putB c.gen 4 ++ (putB c.seq 4 ++ (putB c.part 2 ++ (putB c.parts 2 ++ (putB c.data.length 1 ++ c.data)))))
def secC (c : Cl) : B8 := sealM (bodyC c)
def bodyH (g f : Nat) : B8 := [72] ++ (putB g 4 ++ putB f 1)
def secH (g f : Nat) : B8 := sealM (bodyH g f)
def num (s : B8) (a n : Nat) : Nat := beN ((s.drop a).take n)
def cellOf (s : B8) : Cl := ⟨num s 5 4, num s 9 4, num s 13 2, num s 15 2, (s.drop 18).take (num s 17 1)⟩
structure Cl.Ok (c : Cl) : Prop where
  g : 1 <= c.gen
  p : c.part < c.parts
  d : c.data.length <= 110
  f : c.part + 1 < c.parts -> c.data.length = 110
  l : c.part + 1 = c.parts -> c.data.length = 0 -> c.parts = 1
structure Cl.In (c : Cl) : Prop where
  g : c.gen < 4294967296
  s : c.seq < 4294967296
  p : c.part < 65536
  q : c.parts < 65536
open Classical in
noncomputable def cellM (s : B8) : Option Cl := if num s 17 1 <= 110 /\ (cellOf s).Ok /\ secC (cellOf s) = s then some (cellOf s) else none
def headM (s : B8) : Option (Nat × Nat) := if 1 <= num s 5 4 /\ num s 9 1 <= 1 /\ secH (num s 5 4) (num s 9 1) = s then some (num s 5 4, num s 9 1) else none

theorem num_lt (s : B8) (a n : Nat) : num s a n < 256 ^ n := by
  refine Nat.lt_of_lt_of_le (beN_lt _) (Nat.pow_le_pow_right (by decide) ?_)
  rw [List.length_take]; omega
theorem cellOf_in (s : B8) : (cellOf s).In := ⟨num_lt s 5 4, num_lt s 9 4, num_lt s 13 2, num_lt s 15 2⟩
theorem num_at (p q r : B8) {s : B8} (h : s = p ++ (q ++ r)) {a n : Nat} (ha : p.length = a) (hn : q.length = n) : num s a n = beN q := by
  subst h ha hn
  unfold num
  rw [List.drop_left, List.take_left]
theorem pad_len {s : B8} (h : s.length <= 124) : (padM s).length = 124 := by unfold padM; rw [List.length_append, List.length_replicate]; omega
theorem seal_len {s : B8} (h : s.length <= 124) : (sealM s).length = 128 := by unfold sealM; rw [List.length_append, putB_length, pad_len h]
theorem bodyC_len (c : Cl) : (bodyC c).length = 14 + c.data.length := by
  unfold bodyC
  simp only [List.length_append, putB_length, List.length_cons, List.length_nil]; omega
theorem bodyH_len (g f : Nat) : (bodyH g f).length = 6 := by
  unfold bodyH
  simp only [List.length_append, putB_length, List.length_cons, List.length_nil]
theorem secC_len {c : Cl} (h : c.data.length <= 110) : (secC c).length = 128 := seal_len (by rw [bodyC_len]; omega)
theorem secH_len (g f : Nat) : (secH g f).length = 128 := seal_len (by rw [bodyH_len]; omega)

theorem sec_form (c : Cl) : ∃ K : B8, K.length = 4 /\ secC c = K ++ ([67] ++ (putB c.gen 4 ++ (putB c.seq 4 ++ (putB c.part 2 ++ (putB c.parts 2 ++ (putB c.data.length 1 ++ (c.data ++ List.replicate (110 - c.data.length) 0))))))) := by
  refine ⟨putB (crcM (padM (bodyC c))) 4, putB_length _ _, ?_⟩
  unfold secC sealM
  congr 1
  rw [padM, bodyC_len, show 124 - (14 + c.data.length) = 110 - c.data.length by omega]
  simp only [bodyC, List.append_assoc]
theorem head_form (g f : Nat) : ∃ K : B8, K.length = 4 /\ secH g f = K ++ ([72] ++ (putB g 4 ++ (putB f 1 ++ List.replicate 118 0))) := by
  refine ⟨putB (crcM (padM (bodyH g f))) 4, putB_length _ _, ?_⟩
  unfold secH sealM
  congr 1
theorem cellOf_sec {c : Cl} (hi : c.In) (hd : c.data.length <= 110) : cellOf (secC c) = c /\ num (secC c) 17 1 = c.data.length := by
  obtain ⟨K, hK, hs⟩ := sec_form c
  have i1 := hi.g; have i2 := hi.s; have i3 := hi.p; have i4 := hi.q
  generalize secC c = s at *
  have n1 := num_at (K ++ [67]) (putB c.gen 4) _ (show s = (K ++ [67]) ++ (putB c.gen 4 ++ _) by rw [hs]; simp only [List.append_assoc]; rfl) (a := 5) (by simp [hK]) (putB_length _ _)
  have n2 := num_at (K ++ [67] ++ putB c.gen 4) (putB c.seq 4) _ (show s = (K ++ [67] ++ putB c.gen 4) ++ (putB c.seq 4 ++ _) by rw [hs]; simp only [List.append_assoc]; rfl) (a := 9) (by simp [hK, putB_length]) (putB_length _ _)
  have n3 := num_at (K ++ [67] ++ putB c.gen 4 ++ putB c.seq 4) (putB c.part 2) _ (show s = (K ++ [67] ++ putB c.gen 4 ++ putB c.seq 4) ++ (putB c.part 2 ++ _) by rw [hs]; simp only [List.append_assoc]; rfl) (a := 13) (by simp [hK, putB_length]) (putB_length _ _)
  have n4 := num_at (K ++ [67] ++ putB c.gen 4 ++ putB c.seq 4 ++ putB c.part 2) (putB c.parts 2) _ (show s = (K ++ [67] ++ putB c.gen 4 ++ putB c.seq 4 ++ putB c.part 2) ++ (putB c.parts 2 ++ _) by rw [hs]; simp only [List.append_assoc]; rfl) (a := 15) (by simp [hK, putB_length]) (putB_length _ _)
  have n5 := num_at (K ++ [67] ++ putB c.gen 4 ++ putB c.seq 4 ++ putB c.part 2 ++ putB c.parts 2) (putB c.data.length 1) _ (show s = (K ++ [67] ++ putB c.gen 4 ++ putB c.seq 4 ++ putB c.part 2 ++ putB c.parts 2) ++ (putB c.data.length 1 ++ _) by rw [hs]; simp only [List.append_assoc]; rfl) (a := 17) (by simp [hK, putB_length]) (putB_length _ _)
  rw [beN_put_lt (by simpa using i1)] at n1
  rw [beN_put_lt (by simpa using i2)] at n2
  rw [beN_put_lt (by simpa using i3)] at n3
  rw [beN_put_lt (by simpa using i4)] at n4
  rw [beN_put_lt (by omega)] at n5
  refine ⟨?_, n5⟩
  have hdr : s.drop 18 = c.data ++ List.replicate (110 - c.data.length) 0 := by
    have : s = (K ++ [67] ++ putB c.gen 4 ++ putB c.seq 4 ++ putB c.part 2 ++ putB c.parts 2 ++ putB c.data.length 1) ++ (c.data ++ List.replicate (110 - c.data.length) 0) := by rw [hs]; simp only [List.append_assoc]
    rw [this, List.drop_left' (by simp [hK, putB_length])]
  unfold cellOf
  rw [n1, n2, n3, n4, n5, hdr, List.take_left]
theorem cell_sec {c : Cl} (hi : c.In) (ho : c.Ok) : cellM (secC c) = some c := by
  obtain ⟨h1, h2⟩ := cellOf_sec hi ho.d
  unfold cellM
  rw [h1, h2, if_pos ⟨ho.d, ho, rfl⟩]
theorem cell_some {s : B8} {c : Cl} (h : cellM s = some c) : secC c = s /\ c.Ok /\ c.In := by
  unfold cellM at h
  split at h
  . rename_i h1
    injection h with h
    subst h
    exact ⟨h1.2.2, h1.2.1, cellOf_in s⟩
  . cases h
theorem num_head {g f : Nat} (hg : g < 4294967296) (hf : f < 256) : num (secH g f) 5 4 = g /\ num (secH g f) 9 1 = f := by
  obtain ⟨K, hK, hs⟩ := head_form g f
  generalize secH g f = s at *
  have n1 := num_at (K ++ [72]) (putB g 4) _ (show s = (K ++ [72]) ++ (putB g 4 ++ _) by rw [hs]; simp only [List.append_assoc]; rfl) (a := 5) (by simp [hK]) (putB_length _ _)
  have n2 := num_at (K ++ [72] ++ putB g 4) (putB f 1) _ (show s = (K ++ [72] ++ putB g 4) ++ (putB f 1 ++ _) by rw [hs]; simp only [List.append_assoc]; rfl) (a := 9) (by simp [hK, putB_length]) (putB_length _ _)
  rw [beN_put_lt (by simpa using hg)] at n1
  rw [beN_put_lt (by simpa using hf)] at n2
  exact ⟨n1, n2⟩
theorem head_sec {g f : Nat} (h1 : 1 <= g) (hg : g < 4294967296) (hf : f <= 1) : headM (secH g f) = some (g, f) := by
  obtain ⟨e1, e2⟩ := num_head hg (show f < 256 by omega)
  unfold headM
  rw [e1, e2, if_pos ⟨h1, hf, rfl⟩]
theorem head_some {s : B8} {g f : Nat} (h : headM s = some (g, f)) : secH g f = s /\ 1 <= g /\ g < 4294967296 /\ f <= 1 := by
  unfold headM at h
  split at h
  . rename_i h1
    injection h with h
    injection h with h2 h3
    subst h2 h3
    exact ⟨h1.2.2, h1.1, num_lt s 5 4, h1.2.1⟩
  . cases h
theorem secC_at (c : Cl) : byteAt (secC c) 4 = 67 := by
  obtain ⟨K, hK, hs⟩ := sec_form c
  unfold byteAt
  rw [hs, List.getElem?_append_right (by omega), hK]; rfl
theorem secH_at (g f : Nat) : byteAt (secH g f) 4 = 72 := by
  obtain ⟨K, hK, hs⟩ := head_form g f
  unfold byteAt
  rw [hs, List.getElem?_append_right (by omega), hK]; rfl
theorem drop_byte {s : B8} {i : Nat} (h : i < s.length) : s.drop i = UInt8.ofNat (byteAt s i) :: s.drop (i + 1) := by
  rw [List.drop_eq_getElem_cons h]
  congr 1
  unfold byteAt
  rw [List.getElem?_eq_getElem h]
  apply UInt8.toNat.inj
  simp
theorem put_num {s : B8} {a n : Nat} (h : a + n <= s.length) : putB (num s a n) n = (s.drop a).take n := by
  have := put_beN ((s.drop a).take n)
  rw [show ((s.drop a).take n).length = n by rw [List.length_take, List.length_drop]; omega] at this
  exact this
theorem put_drop {s : B8} {a n : Nat} (h : a + n <= s.length) : putB (num s a n) n ++ s.drop (a + n) = s.drop a := by
  rw [put_num h, ← List.drop_drop, List.take_append_drop]
theorem sec_iff {s : B8} (hs : s.length = 128) (hn : num s 17 1 <= 110) : secC (cellOf s) = s ↔ (crcM (s.drop 4) = num s 0 4 /\ byteAt s 4 = 67 /\ s.drop (18 + num s 17 1) = List.replicate (110 - num s 17 1) 0) := by
  have hdl : (cellOf s).data.length = num s 17 1 := by
    simp only [cellOf]
    rw [List.length_take, List.length_drop]; omega
  constructor
  . intro h
    obtain ⟨K, hK, hf⟩ := sec_form (cellOf s)
    have hf2 : secC (cellOf s) = putB (crcM (padM (bodyC (cellOf s)))) 4 ++ padM (bodyC (cellOf s)) := rfl
    rw [h] at hf hf2
    refine ⟨?_, ?_, ?_⟩
    . have e1 : s.drop 4 = padM (bodyC (cellOf s)) := by
        conv => lhs; rw [hf2]
        rw [List.drop_left' (putB_length _ _)]
      have e2 : num s 0 4 = beN (putB (crcM (padM (bodyC (cellOf s)))) 4) := num_at [] _ _ hf2 rfl (putB_length _ _)
      rw [e1, e2, beN_put_lt (by have := crcM_lt (padM (bodyC (cellOf s))); simpa using this)]
    . have := secC_at (cellOf s)
      rw [h] at this; exact this
    . rw [hdl] at hf
      have : s = (K ++ [67] ++ putB (cellOf s).gen 4 ++ putB (cellOf s).seq 4 ++ putB (cellOf s).part 2 ++ putB (cellOf s).parts 2 ++ putB (num s 17 1) 1 ++ (cellOf s).data) ++ List.replicate (110 - num s 17 1) 0 := by
        simp only [List.append_assoc] at hf ⊢; exact hf
      have hl : (K ++ [67] ++ putB (cellOf s).gen 4 ++ putB (cellOf s).seq 4 ++ putB (cellOf s).part 2 ++ putB (cellOf s).parts 2 ++ putB (num s 17 1) 1 ++ (cellOf s).data).length = 18 + num s 17 1 := by
        simp only [List.length_append, putB_length, hdl, hK, List.length_cons, List.length_nil]
      generalize K ++ [67] ++ putB (cellOf s).gen 4 ++ putB (cellOf s).seq 4 ++ putB (cellOf s).part 2 ++ putB (cellOf s).parts 2 ++ putB (num s 17 1) 1 ++ (cellOf s).data = Q at this hl
      generalize num s 17 1 = n at *
      rw [this, List.drop_left' hl]
  . rintro ⟨h1, h2, h3⟩
    have hp : padM (bodyC (cellOf s)) = s.drop 4 := by
      unfold padM
      rw [bodyC_len, hdl, show 124 - (14 + num s 17 1) = 110 - num s 17 1 by omega, ← h3]
      simp only [bodyC, List.append_assoc, hdl]
      rw [drop_byte (s := s) (i := 4) (by omega), h2]
      simp only [cellOf]
      rw [<- List.drop_drop, List.take_append_drop, put_drop (by omega), put_drop (by omega), put_drop (by omega), put_drop (by omega), put_drop (by omega)]
      rfl
    unfold secC sealM
    rw [hp, h1, put_num (by omega), List.drop_zero, List.take_append_drop]
theorem head_iff {s : B8} (hs : s.length = 128) : secH (num s 5 4) (num s 9 1) = s ↔ (crcM (s.drop 4) = num s 0 4 /\ byteAt s 4 = 72 /\ s.drop 10 = List.replicate 118 0) := by
  constructor
  . intro h
    obtain ⟨K, hK, hf⟩ := head_form (num s 5 4) (num s 9 1)
    have hf2 : secH (num s 5 4) (num s 9 1) = putB (crcM (padM (bodyH (num s 5 4) (num s 9 1)))) 4 ++ padM (bodyH (num s 5 4) (num s 9 1)) := rfl
    rw [h] at hf hf2
    refine ⟨?_, ?_, ?_⟩
    . have e1 : s.drop 4 = padM (bodyH (num s 5 4) (num s 9 1)) := by
        conv => lhs; rw [hf2]
        rw [List.drop_left' (putB_length _ _)]
      have e2 : num s 0 4 = beN (putB (crcM (padM (bodyH (num s 5 4) (num s 9 1)))) 4) := num_at [] _ _ hf2 rfl (putB_length _ _)
      rw [e1, e2, beN_put_lt (by have := crcM_lt (padM (bodyH (num s 5 4) (num s 9 1))); simpa using this)]
    . have := secH_at (num s 5 4) (num s 9 1)
      rw [h] at this; exact this
    . have hl : (K ++ [72] ++ putB (num s 5 4) 4 ++ putB (num s 9 1) 1).length = 10 := by simp [hK, putB_length]
      have : s = (K ++ [72] ++ putB (num s 5 4) 4 ++ putB (num s 9 1) 1) ++ List.replicate 118 0 := by simp only [List.append_assoc] at hf ⊢; exact hf
      generalize K ++ [72] ++ putB (num s 5 4) 4 ++ putB (num s 9 1) 1 = Q at this hl
      rw [this, List.drop_left' hl]
  . rintro ⟨h1, h2, h3⟩
    have hp : padM (bodyH (num s 5 4) (num s 9 1)) = s.drop 4 := by
      unfold padM
      rw [bodyH_len, ← h3]
      simp only [bodyH, List.append_assoc]
      rw [drop_byte (s := s) (i := 4) (by omega), h2, put_drop (by omega), put_drop (by omega)]
      rfl
    unfold secH sealM
    rw [hp, h1, put_num (by omega), List.drop_zero, List.take_append_drop]
end Go.Proofs.YtmbpjgjajedonaaGreatDoor
