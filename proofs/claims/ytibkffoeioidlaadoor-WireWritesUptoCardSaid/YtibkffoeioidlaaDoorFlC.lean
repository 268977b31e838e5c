/- Filters: trees, and what they look like in memory that is only read. -/
import Derived.Test.YtibkffoeioidlaaDoorNd
import Derived.Test.YtibkffoeioidlaaDoorTy
import Derived.Test.YtibkffoeioidlaaDoorOcA
import Derived.Test.YtibkffoeioidlaaDoorLtA
import Derived.Test.YtibkffoeioidlaaDoorProg
import Derived.Ground.NamesProg
import Derived.Shelf.Small.Strs
import Derived.Shelf.Strings.Cut
import Derived.Shelf.Strings.Search2
import Derived.Shelf.Strings.IndexAnyAll
import Derived.Shelf.Strings.Count
import Derived.Test.YtibkffoeioidlaaDoorLtQ
import Derived.Laws.Runes
import Derived.Test.YtibkffoeioidlaaDoorOcD
import Derived.KernelRfl
namespace Go.Proofs.YtibkffoeioidlaaDoor
set_option linter.all false
set_option maxRecDepth 4000
open Go.RowKit

abbrev Pcs := List (Int × List UInt8)
inductive Fl where
  | mk (kind : Int) (attr value : List UInt8) (pieces : Pcs) (kids : List Fl)
def Fl.kind : Fl -> Int | .mk k _ _ _ _ => k
def Fl.attr : Fl -> List UInt8 | .mk _ a _ _ _ => a
def Fl.value : Fl -> List UInt8 | .mk _ _ v _ _ => v
def Fl.pieces : Fl -> Pcs | .mk _ _ _ p _ => p
def Fl.kids : Fl -> List Fl | .mk _ _ _ _ k => k
def pcsR (ps : Pcs) : List (List Value) := ps.map fun p => [.int .i64 p.1, str p.2]
theorem pcsR_length (ps : Pcs) : (pcsR ps).length = ps.length := by simp [pcsR]

mutual
def FlC (h : Heap) : Fl -> List Value -> Prop
  | .mk k a v ps ks, r => ∃ pv kv rows, r = [.int .i64 k, str a, str v, pv, kv] /\ HSl h pv 2 (pcsR ps) /\ HSl h kv 5 rows /\ FlsC h ks rows
def FlsC (h : Heap) : List Fl -> List (List Value) -> Prop
  | [], rows => rows = []
  | k :: ks, rows => ∃ r rs, rows = r :: rs /\ FlC h k r /\ FlsC h ks rs
end
mutual
theorem FlC.mono {h h' : Heap} (hl : Heap.le h h') : ∀ (n : Fl) (r : List Value), FlC h n r -> FlC h' n r
  | .mk k a v ps ks, r, hn => by
    simp only [FlC] at hn ⊢
    obtain ⟨pv, kv, rows, e, hp, hs, hk⟩ := hn
    exact ⟨pv, kv, rows, e, hp.mono hl, hs.mono hl, FlsC.mono hl ks rows hk⟩
theorem FlsC.mono {h h' : Heap} (hl : Heap.le h h') : ∀ (l : List Fl) (rows : List (List Value)), FlsC h l rows -> FlsC h' l rows
  | [], rows, hk => by simpa only [FlsC] using hk
  | k :: ks, rows, hk => by
    simp only [FlsC] at hk ⊢
    obtain ⟨r, rs, e, h1, h2⟩ := hk
    exact ⟨r, rs, e, FlC.mono hl k r h1, FlsC.mono hl ks rs h2⟩
end
theorem FlsC.append {h : Heap} : ∀ {a b : List Fl} {ra rb : List (List Value)}, FlsC h a ra -> FlsC h b rb -> FlsC h (a ++ b) (ra ++ rb)
  | [], b, ra, rb, ha, hb => by simp only [FlsC] at ha; subst ha; exact hb
  | k :: ks, b, ra, rb, ha, hb => by
    simp only [FlsC] at ha
    obtain ⟨r, rs, rfl, h1, h2⟩ := ha
    simp only [List.cons_append, FlsC]
    exact ⟨r, rs ++ rb, rfl, h1, FlsC.append h2 hb⟩
theorem FlsC.one {h : Heap} {n : Fl} {r : List Value} (hn : FlC h n r) : FlsC h [n] [r] := by
  simp only [FlsC]
  exact ⟨r, [], rfl, hn, rfl⟩
theorem FlsC.nil (h : Heap) : FlsC h [] [] := by simp only [FlsC]
theorem FlsC.len {h : Heap} : ∀ {a : List Fl} {ra : List (List Value)}, FlsC h a ra -> ra.length = a.length
  | [], ra, ha => by simp only [FlsC] at ha; subst ha; rfl
  | k :: ks, ra, ha => by
    simp only [FlsC] at ha
    obtain ⟨r, rs, rfl, _, h2⟩ := ha
    simp [FlsC.len h2]
theorem FlsC.get {h : Heap} : ∀ {a : List Fl} {ra : List (List Value)} {i : Nat} {n : Fl}, FlsC h a ra -> a[i]? = some n -> ∃ r, ra[i]? = some r /\ FlC h n r
  | [], ra, i, n, _, hi => by simp at hi
  | k :: ks, ra, i, n, ha, hi => by
    simp only [FlsC] at ha
    obtain ⟨r, rs, rfl, h1, h2⟩ := ha
    cases i with
    | zero => simp at hi; subst hi; exact ⟨r, rfl, h1⟩
    | succ i => simp at hi; obtain ⟨r', h3, h4⟩ := FlsC.get h2 hi; exact ⟨r', by simpa using h3, h4⟩
theorem FlC.mk_ {h : Heap} {k : Int} {a v : List UInt8} {ps : Pcs} {ks : List Fl} {pv kv : Value} {rows : List (List Value)} (hp : HSl h pv 2 (pcsR ps)) (hs : HSl h kv 5 rows) (hk : FlsC h ks rows) : FlC h (.mk k a v ps ks) [.int .i64 k, str a, str v, pv, kv] := by
  simp only [FlC]
  exact ⟨pv, kv, rows, rfl, hp, hs, hk⟩
theorem FlC.open_ {h : Heap} {k : Int} {a v : List UInt8} {ps : Pcs} {ks : List Fl} {r : List Value} (hn : FlC h (.mk k a v ps ks) r) : ∃ pv kv rows, r = [.int .i64 k, str a, str v, pv, kv] /\ HSl h pv 2 (pcsR ps) /\ HSl h kv 5 rows /\ FlsC h ks rows := by
  simpa only [FlC] using hn
theorem FlC.shape {h : Heap} {f : Fl} {r : List Value} (hn : FlC h f r) : ∃ pv kv rows, r = [.int .i64 f.kind, str f.attr, str f.value, pv, kv] /\ HSl h pv 2 (pcsR f.pieces) /\ HSl h kv 5 rows /\ FlsC h f.kids rows := by
  cases f
  exact hn.open_
def zF : Fl := .mk 0 [] [] [] []
theorem zF_C (h : Heap) : FlC h zF [.int .i64 0, str [], str [], .slice none 0 0, .slice none 0 0] := FlC.mk_ (HSl.nil h 2) (HSl.nil h 5) (FlsC.nil h)
end Go.Proofs.YtibkffoeioidlaaDoor
namespace Go.Proofs.YtibkffoeioidlaaDoor
set_option linter.all false
set_option maxRecDepth 4000
open Go.RowKit

theorem St.keep {h : Heap} {H : List Chunk} {w : World} (s : StI h H w) : St ⟨w, keys H, h⟩ h H w := s.start
end Go.Proofs.YtibkffoeioidlaaDoor
namespace Go.Proofs.YtibkffoeioidlaaDoor
set_option linter.all false
set_option maxRecDepth 4000
open Go.RowKit

theorem four {i : Nat} (h : i < 4) : i = 0 \/ i = 1 \/ i = 2 \/ i = 3 := by omega
end Go.Proofs.YtibkffoeioidlaaDoor
namespace Go.Proofs.YtibkffoeioidlaaDoor
set_option linter.all false
set_option maxRecDepth 4000
open Go.RowKit

theorem FlC.shp {h : Heap} {f : Fl} {r : List Value} (hn : FlC h f r) : ∃ k a v A m c B p q, r = [.int .i64 k, str a, str v, .slice A m c, .slice B p q] := by
  obtain ⟨pv, kv, rows, rfl, h1, h2, _⟩ := hn.shape
  obtain ⟨A, c, rfl, _⟩ := h1.form
  obtain ⟨B, q, rfl, _⟩ := h2.form
  exact ⟨_, _, _, _, _, _, _, _, _, rfl⟩
theorem FlC.mono' {h h' : Heap} {n : Fl} {r : List Value} (hn : FlC h n r) (hl : Heap.le h h') : FlC h' n r := FlC.mono hl n r hn
theorem FlsC.mono' {h h' : Heap} {l : List Fl} {r : List (List Value)} (hn : FlsC h l r) (hl : Heap.le h h') : FlsC h' l r := FlsC.mono hl l r hn
theorem three {i : Nat} (h : i < 3) : i = 0 \/ i = 1 \/ i = 2 := by omega
end Go.Proofs.YtibkffoeioidlaaDoor
namespace Go.Proofs.YtibkffoeioidlaaDoor
set_option linter.all false
set_option maxRecDepth 4000
open Go.RowKit

def isEsc (b : UInt8) : Prop := b.toNat = 0 \/ b.toNat = 40 \/ b.toNat = 41 \/ b.toNat = 42 \/ b.toNat = 92
instance (b : UInt8) : Decidable (isEsc b) := by unfold isEsc; infer_instance
def pcsOkF : Bool -> Pcs -> Bool
  | _, [] => true
  | fst, (k, t) :: ps => decide (t ≠ []) && decide (k = 1 \/ (k = 0 /\ fst = true) \/ (k = 2 /\ ps = [])) && pcsOkF false ps
def pcsOk (ps : Pcs) : Bool := decide (ps ≠ []) && pcsOkF true ps
mutual
def bareF : Fl -> Fl
  | .mk k a v ps ks => if k < 0 \/ 8 < k then .mk k [] [] [] [] else if k <= 2 then .mk k [] [] [] (bareFs ks) else .mk k a (if k = 4 \/ k = 7 then [] else v) (if k = 4 then ps else []) []
def bareFs : List Fl -> List Fl
  | [] => []
  | k :: ks => bareF k :: bareFs ks
end
def chkKs (f : Nat -> Fl -> Except Int Nat) : Nat -> List Fl -> Except Int Nat
  | n, [] => .ok n
  | n, k :: ks => match f n k with
    | .error e => .error e
    | .ok n' => chkKs f n' ks
def chkM : Nat -> Nat -> Fl -> Except Int Nat
  | 0, _, _ => .error 6
  | d + 1, n, .mk k a _ ps ks => if 1000 < n + 1 then .error 9 else if k < 0 \/ 8 < k then .error 24 else if k = 2 /\ ks.length ≠ 1 then .error 2
    else if k <= 2 then chkKs (chkM d) (n + 1) ks else if typeM a = false then .error 20 else if k = 4 /\ pcsOk ps = false then .error 4 else .ok (n + 1)
end Go.Proofs.YtibkffoeioidlaaDoor
namespace Go.Proofs.YtibkffoeioidlaaDoor
set_option linter.all false
set_option maxRecDepth 4000
open Go.RowKit

theorem callSame10 : Callable Tryd.prog 56 := ⟨_, Tryd.func56, by kernel_rfl, rfl⟩
theorem pcOk : FlatOk Tryd.prog 148 [3, 9] := ⟨by kernel_rfl, by kernel_rfl, by kernel_rfl, by kernel_rfl⟩
theorem pcsR_get {ps : Pcs} {i : Nat} {k : Int} {t : List UInt8} (h : ps[i]? = some (k, t)) : (pcsR ps)[i]? = some [.int .i64 k, str t] := by
  unfold pcsR
  rw [List.getElem?_map, h]; rfl
mutual
def Fl.sz : Fl -> Nat
  | .mk _ _ _ _ ks => 1 + flsz ks
def flsz : List Fl -> Nat
  | [] => 0
  | k :: ks => Fl.sz k + flsz ks
end
theorem flsz_mem : ∀ {ks : List Fl} {k : Fl}, k ∈ ks -> k.sz <= flsz ks
  | [], _, h => by cases h
  | q :: ks, k, h => by
    simp only [flsz]
    rcases List.mem_cons.1 h with rfl | h
    . omega
    . have := flsz_mem h; omega
theorem flsz_kid {k : Int} {a v : List UInt8} {ps : Pcs} {ks : List Fl} {i : Nat} {f : Fl} (h : ks[i]? = some f) : f.sz < (Fl.mk k a v ps ks).sz := by
  have := flsz_mem (List.mem_of_getElem? h)
  simp only [Fl.sz]; omega
theorem FlC.box {h : Heap} {f : Fl} {r : List Value} (hn : FlC h f r) : ∃ k a v ps ks A c B d rows, f = .mk k a v ps ks /\ r = [.int .i64 k, str a, str v, .slice A ps.length c, .slice B ks.length d] /\ HSl h (.slice A ps.length c) 2 (pcsR ps) /\ HSl h (.slice B ks.length d) 5 rows /\ FlsC h ks rows /\ rows.length = ks.length := by
  cases f with
  | mk k a v ps ks =>
    obtain ⟨pv, kv, rows, rfl, h1, h2, h3⟩ := hn.open_
    obtain ⟨A, c, rfl, _⟩ := h1.form
    obtain ⟨B, d, rfl, _⟩ := h2.form
    rw [pcsR_length] at h1
    rw [h3.len] at h2
    refine ⟨k, a, v, ps, ks, A, c, B, d, rows, rfl, ?_, h1, h2, h3, h3.len⟩
    rw [pcsR_length, h3.len]
set_option maxRecDepth 8000 in
set_option maxHeartbeats 2000000 in
theorem ref10_Same : ∀ (n : Nat) (a : Fl), a.sz <= n -> ∀ (ra rb : List Value) (h : Heap), FlC h a ra -> FlC h a rb →
    Spec Tryd.prog 56 [.agg ra.toArray, .agg rb.toArray] h [] (fun u _ H' => u = .bool true /\ H' = [])
  | 0, .mk _ _ _ _ _, hn, _, _, _, _, _ => by simp only [Fl.sz] at hn; omega
  | n + 1, a, hn, ra, rb, h, ha, hb => by
    have ih := ref10_Same n
    obtain ⟨k, a, v, ps, ks, A, c, B, d, rowa, rfl, rfl, sp, sa, ka, la⟩ := ha.box
    obtain ⟨_, _, _, _, _, A2, c2, B2, d2, rowb, e, rfl, sp2, sb, kb, lb⟩ := hb.box
    injection e with e1 e2 e3 e4 e5
    subst e1 e2 e3 e4 e5
    clear ha hb
    have lp := pcsR_length ps
    have hp47 := sp.len
    have hk47 := sa.len
    refine Spec.enter Tryd.func56 rfl rfl ?_; intro w0
    repeat' (first | (refine G.atCode ?_; refine G.stopLoop ?_) | (refine G.atCode ?_; first | refine G.seq ?_ | refine G.region ?_ | refine G.block ?_ | refine G.skip ?_ | (refine G.cond rfl ?_ ?_ <;> intro hc <;> (try simp only [tests, reduceCtorEq] at hc) <;> (try exact Zf))) | refine G.endOps ?_ | (refine G.atGd ?_; first | refine G.guardYes rfl rfl ?_ | (refine G.guardS rfl rfl rfl ?_ ?_ <;> intro hc <;> (try simp only [tests, reduceCtorEq] at hc) <;> (try exact Zf))) | (refine G.atBin ?_; first | (refine G.atNeq ?_; first | refine G.op rfl rfl ?_ | refine G.neStr rfl rfl rfl ?_)) | refine G.op rfl rfl ?_ | (refine G.atLen ?_; first | refine G.lenSlice rfl (tyy rfl) rfl ?_) | (refine G.atLoad ?_; first | refine G.loadOwn1 rfl (tyy rfl) rfl rfl Za rfl rfl ?_) | (refine G.atFld ?_; first | refine G.fieldAddr rfl (tyy rfl) rfl rfl ?_) | (refine G.atBox ?_; refine G.box rfl rfl rfl ?_; intro _))
    all_goals first | (exfalso; omega) | skip
    refine G.go ?_
    rename_i g1 g2 _ _ _ _
    refine G.loop (σ := Nat) (fun i => [(47, .int .i64 i), (46, .int .i64 ps.length), (3, .pointer (some ⟨g2, 0, none⟩)), (2, .pointer (some ⟨g1, 0, none⟩))])
      (fun _ => [.blk g2 [.int .i64 k, str a, str v, .slice A2 ps.length c2, .slice B2 ks.length d2] 45, .blk g1 [.int .i64 k, str a, str v, .slice A ps.length c, .slice B ks.length d] 45])
      (fun i _ => i <= ps.length) (fun i => ps.length - i) 0 ⟨rfl, sint (by simp), rfl, rfl, trivial⟩ Zu (Nat.zero_le _) ?_
    rintro i h1 hle1 hi
    by_cases hlt : i < ps.length
    . obtain ⟨⟨pk, pt⟩, hp⟩ : ∃ p, ps[i]? = some p := ⟨ps[i], List.getElem?_eq_getElem hlt⟩
      have hget := pcsR_get hp
      have t1 : HSl h1 (.slice A ps.length c) 2 (pcsR ps) := sp.mono hle1
      have t2 : HSl h1 (.slice A2 ps.length c2) 2 (pcsR ps) := sp2.mono hle1
      have hl3 : ([.int .i64 pk, str pt] : List Value).length = 2 := rfl
      repeat' (first | (refine G.atIdx ?_; refine G.idxImm rfl rfl (tyy rfl) (tyy rfl) t1 Zj rfl (by omega) ?_; intro p1 r1 hx1 hp1; (rw [hget] at hx1); (obtain rfl := Option.some.inj hx1)) | (refine G.atIdx ?_; refine G.idxImm rfl rfl (tyy rfl) (tyy rfl) t2 Zj rfl (by omega) ?_; intro p2 r2 hx2 hp2; (rw [hget] at hx2); (obtain rfl := Option.some.inj hx2)) | (refine G.neAgg rfl rfl pcOk (.cons (tyy rfl) .int (.cons (tyy rfl) .str .nil)) rfl ?_) | (refine G.atCode ?_; first | refine G.seq ?_ | refine G.region ?_ | refine G.block ?_ | refine G.skip ?_ | refine G.drawAll slB Zw mixedOk Zw ?_ | refine G.ret ?_ | (refine G.cond rfl ?_ ?_ <;> intro hc <;> (try simp only [tests, reduceCtorEq] at hc) <;> (try exact Zf))) | refine G.endOps ?_ | refine G.endStill ?_ | refine G.endBlk ?_ | (refine G.atBin ?_; first | (refine G.atAdd ?_; first | refine G.arith rfl rfl rfl rfl rfl Zi ?_) | refine G.op rfl rfl ?_) | refine G.op rfl rfl ?_ | (refine G.atLoad ?_; first | refine G.loadOwn1 rfl (tyy rfl) rfl rfl Za rfl rfl ?_ | refine G.loadImmA rfl (tyy rfl) rfl rfl Zp Zp rfl ?_) | (refine G.atFld ?_; first | refine G.fieldAddr rfl (tyy rfl) rfl rfl ?_))
      all_goals first
        | exact G.again (i + 1) ⟨sint (by omega), rfl, rfl, rfl, trivial⟩ Zu (by omega) (by solve | repeat first | assumption | exact Zr _ | refine Zq ?_ Zp) (by omega)
        | (exfalso; simp_all; done)
        | skip
    . obtain rfl : i = ps.length := by omega
      repeat' (first | (refine G.atCode ?_; refine G.stopLoop ?_) | (refine G.atCode ?_; first | refine G.seq ?_ | refine G.region ?_ | refine G.block ?_ | refine G.exit rfl ?_ | (refine G.cond rfl ?_ ?_ <;> intro hc <;> (try simp only [tests, reduceCtorEq] at hc) <;> (try exact Zf))) | refine G.endOps ?_ | (refine G.atBin ?_; first | refine G.op rfl rfl ?_) | refine G.op rfl rfl ?_ | (refine G.atLen ?_; first | refine G.lenSlice rfl (tyy rfl) rfl ?_) | (refine G.atLoad ?_; first | refine G.loadOwn1 rfl (tyy rfl) rfl rfl Za rfl rfl ?_) | (refine G.atFld ?_; first | refine G.fieldAddr rfl (tyy rfl) rfl rfl ?_))
      all_goals first | (exfalso; omega) | skip
      refine G.go ?_
      refine G.loop (σ := Nat) (fun i => [(65, .int .i64 i), (64, .int .i64 ks.length), (3, .pointer (some ⟨g2, 0, none⟩)), (2, .pointer (some ⟨g1, 0, none⟩))])
        (fun _ => [.blk g2 [.int .i64 k, str a, str v, .slice A2 ps.length c2, .slice B2 ks.length d2] 45, .blk g1 [.int .i64 k, str a, str v, .slice A ps.length c, .slice B ks.length d] 45])
        (fun i _ => i <= ks.length) (fun i => ks.length - i) 0 ⟨rfl, rfl, rfl, rfl, trivial⟩ Zu (Nat.zero_le _) ?_
      rintro i h2 hle2 hi
      by_cases hlt : i < ks.length
      . obtain ⟨f, hf⟩ : ∃ f, ks[i]? = some f := ⟨ks[i], List.getElem?_eq_getElem hlt⟩
        have hsz := flsz_kid (k := k) (a := a) (v := v) (ps := ps) hf
        obtain ⟨q1, e1, n1⟩ := ka.get hf
        obtain ⟨q2, e2, n2⟩ := kb.get hf
        have hle := Heap.le_trans hle1 hle2
        have n1 := n1.mono' hle
        have n2 := n2.mono' hle
        have t1 : HSl h2 (.slice B ks.length d) 5 rowa := sa.mono hle
        have t2 : HSl h2 (.slice B2 ks.length d2) 5 rowb := sb.mono hle
        have l1 : q1.length = 5 := t1.rowed q1 (List.mem_of_getElem? e1)
        have l2 : q2.length = 5 := t2.rowed q2 (List.mem_of_getElem? e2)
        repeat' (first | (refine G.atIdx ?_; refine G.idxImm rfl rfl (tyy rfl) (tyy rfl) t1 Zj rfl (by omega) ?_; intro p1 r1 hx1 hp1; (rw [e1] at hx1); (obtain rfl := Option.some.inj hx1)) | (refine G.atIdx ?_; refine G.idxImm rfl rfl (tyy rfl) (tyy rfl) t2 Zj rfl (by omega) ?_; intro p2 r2 hx2 hp2; (rw [e2] at hx2); (obtain rfl := Option.some.inj hx2)) | (show G _ (.ops .seq _ (⟨some _, .call { callee := .value (.func 56), args := _, argTypes := _ }, _, _, _, none⟩ :: _) :: _) _ _ _; refine G.call callSame10 rfl rfl (ih f (by omega) q1 q2 _ n1 n2) Ze ?_; rintro _ h4 H4 ⟨rfl, rfl⟩ hle4) | (refine G.atCode ?_; first | refine G.seq ?_ | refine G.region ?_ | refine G.block ?_ | refine G.skip ?_ | refine G.drawAuto mixedOk rfl Zw ?_ | (refine G.cond rfl ?_ ?_ <;> intro hc <;> (try simp only [tests, reduceCtorEq] at hc) <;> (try exact Zf))) | refine G.endOps ?_ | refine G.endStill ?_ | refine G.endBlk ?_ | (refine G.atBin ?_; first | (refine G.atAdd ?_; first | refine G.arith rfl rfl rfl rfl rfl Zi ?_) | refine G.op rfl rfl ?_) | refine G.op rfl rfl ?_ | (refine G.atLoad ?_; first | refine G.loadOwn1 rfl (tyy rfl) rfl rfl Za rfl rfl ?_ | refine G.loadImmA rfl (tyy rfl) rfl rfl Zp Zp rfl ?_) | (refine G.atFld ?_; first | refine G.fieldAddr rfl (tyy rfl) rfl rfl ?_))
        all_goals first
          | exact G.again (i + 1) ⟨sint (by omega), rfl, rfl, rfl, trivial⟩ Zu (by omega) (by solve | repeat first | assumption | exact Zr _ | refine Zq ?_ Zp) (by omega)
          | (exfalso; simp_all; done)
          | skip
      . obtain rfl : i = ks.length := by omega
        repeat' (first | (refine G.atCode ?_; first | refine G.seq ?_ | refine G.region ?_ | refine G.exit rfl ?_ | refine G.ret ?_ | (refine G.cond rfl ?_ ?_ <;> intro hc <;> (try simp only [tests, reduceCtorEq] at hc) <;> (try exact Zf))) | refine G.endOps ?_ | (refine G.atBin ?_; first | refine G.op rfl rfl ?_) | refine G.op rfl rfl ?_)
        all_goals first | (exfalso; omega) | exact G.done1 rfl rfl [] (SubH.nil _) ⟨rfl, rfl⟩ | skip
end Go.Proofs.YtibkffoeioidlaaDoor
