/- The judgement 'G' of the light walk, its rules for control and for operations that only compute. -/
import Derived.Test.YtibkffoeioidlaaDoorLtA
import Derived.OrdersHeld
namespace Go.Proofs.YtibkffoeioidlaaDoor
set_option linter.all false
set_option maxRecDepth 4000
open Go.RowKit

inductive Md where
  | seq
  | still (tail : List Oper)
  | held (h0 : Heap) (H0 : List Chunk)
class OkMd (st : Md) (h : Heap) (H : List Chunk) : Prop where
  ok : ∀ h0 H0, st = .held h0 H0 -> h0 = h /\ H0 = H
instance okSeq (h : Heap) (H : List Chunk) : OkMd .seq h H := ⟨fun _ _ e => by cases e⟩
instance okStill (t : List Oper) (h : Heap) (H : List Chunk) : OkMd (.still t) h H := ⟨fun _ _ e => by cases e⟩
instance okHeld (h : Heap) (H : List Chunk) : OkMd (.held h H) h H := ⟨fun _ _ e => by cases e; exact ⟨rfl, rfl⟩⟩

inductive It where
  | code (c : Code)
  | blk (id : Nat)
  | ops (st : Md) (all : Array Oper) (l : List Oper)
  | cut (J : Fr -> Heap -> List Chunk -> Prop)
  | any (h0 : Heap) (H0 : List Chunk) (all : Array Oper) (listed : List Nat)
  | back (h : Heap) (H : List Chunk)
  | stop (c : Code)
  | sco

def lst (n : Nat) : List Nat -> Array Bool
  | [] => Array.replicate n false
  | i :: r => (lst n r).setIfInBounds i true

structure Env where
  P : Program
  fn : Func
  n : Nat
  c : Ctx
  R : Value -> Heap -> List Chunk -> Prop

def Env.post (E : Env) : Ending -> World -> Prop := fun e w' => ∃ v h' H', e = .returned v /\ E.R v h' H' /\ St E.c h' H' w'

def Held (E : Env) (J : Fr -> Heap -> List Chunk -> Prop) : Act -> World -> Prop := fun a w => ∃ f h H, J f h H /\ FSat E.n f a /\ St E.c h H w

def ancOp (ops : Array Oper) : Nat -> Nat -> Nat -> Bool
  | 0, _, _ => false
  | n + 1, i, j => match ops[i]? with
    | none => false
    | some o => o.after.any fun e => Region.binds .any e && (e.on == j || ancOp ops n e.on j)
def sinkOp (ops : Array Oper) (i : Nat) : Bool := match ops[i]? with
  | none => false
  | some _ => (List.range ops.size).all fun j => j == i || ancOp ops 9 i j || ancOp ops 9 j i
def Closed (ops : Array Oper) (listed : Array Bool) : Prop := ∀ j o, ops[j]? = some o -> listed.getD j false = true -> ∀ e ∈ o.after, Region.binds .any e = true -> listed.getD e.on false = true
def closedB (ops : Array Oper) (listed : Array Bool) : Bool := (List.range ops.size).all fun j => match ops[j]? with
  | none => true
  | some o => !listed.getD j false || o.after.all fun e => !Region.binds .any e || listed.getD e.on false
theorem closedB_spec {ops : Array Oper} {listed : Array Bool} (h : closedB ops listed = true) : Closed ops listed := by
  intro j o ho hj e he hb
  have h1 := List.all_eq_true.1 h j (List.mem_range.2 (Array.getElem?_eq_some_iff.1 ho).1)
  simp only [ho, hj, Bool.not_true, Bool.false_or, Array.all_eq_true_iff_forall_mem] at h1
  have := h1 e he
  simpa [hb] using this
theorem Closed.anc {ops : Array Oper} {listed : Array Bool} (hc : Closed ops listed) : ∀ (n i j : Nat), ancOp ops n i j = true -> (∀ o, ops[i]? = some o -> ∀ e ∈ o.after, Region.binds .any e = true -> listed.getD e.on false = true) -> listed.getD j false = true
  | 0, _, _, h, _ => by simp [ancOp] at h
  | n + 1, i, j, h, hi => by
    unfold ancOp at h
    split at h
    . cases h
    . rename_i o ho
      obtain ⟨e, he, hb⟩ := Array.any_eq_true'.1 h
      simp only [Bool.and_eq_true, Bool.or_eq_true, beq_iff_eq] at hb
      have h1 := hi o ho e he hb.1
      rcases hb.2 with h2 | h2
      . rw [<- h2]; exact h1
      . exact Closed.anc hc n e.on j h2 (fun o' ho' => hc _ o' ho' h1)
theorem getD_two {l : Array Bool} {j : Nat} (h : l.getD j false = true) : l.getD j true = true := by
  simp only [Array.getD_eq_getD_getElem?] at *
  cases hl : l[j]? with
  | none => rfl
  | some b => rw [hl] at h; simpa using h
theorem Closed.set {ops : Array Oper} {listed : Array Bool} (hc : Closed ops listed) {i : Nat} (hr : i ∈ Region.ready .any ops listed) : Closed ops (listed.setIfInBounds i true) := by
  obtain ⟨_, oi, hoi, hall⟩ := mem_ready.1 hr
  have hm : ∀ j, listed.getD j false = true -> (listed.setIfInBounds i true).getD j false = true := fun j hj => by
    simp only [Array.getD_eq_getD_getElem?, Array.getElem?_setIfInBounds] at *
    by_cases hij : i = j
    . subst hij
      rcases Nat.lt_or_ge i listed.size with h1 | h1
      . simp [h1]
      . rw [Array.getElem?_eq_none h1] at hj; simp at hj
    . simpa [hij] using hj
  intro j o ho hj e he hb
  refine hm _ ?_
  by_cases hij : i = j
  . subst hij
    rw [hoi] at ho
    injection ho with ho
    subst ho
    exact hall e he hb
  . refine hc j o ho ?_ e he hb
    simp only [Array.getD_eq_getD_getElem?, Array.getElem?_setIfInBounds] at *
    simpa [hij] using hj
theorem sinkOp_not {ops : Array Oper} {listed : Array Bool} (hc : Closed ops listed) {i j : Nat} (hj : j ∈ Region.ready .any ops listed) (hi : i ∈ Region.ready .any ops listed) (hne : j ≠ i) : sinkOp ops j = false := by
  cases hs : sinkOp ops j with
  | false => rfl
  | true =>
    exfalso
    obtain ⟨hj0, oj, hoj, hja⟩ := mem_ready.1 hj
    obtain ⟨hi0, oi, hoi, hia⟩ := mem_ready.1 hi
    unfold sinkOp at hs
    rw [hoj] at hs
    simp only [List.all_eq_true, List.mem_range, Bool.or_eq_true, beq_iff_eq] at hs
    rcases hs i (Array.getElem?_eq_some_iff.1 hoi).1 with (h1 | h1) | h1
    . exact hne h1.symm
    . have := getD_two (hc.anc 9 j i h1 (fun o ho => by rw [hoj] at ho; injection ho with ho; subst ho; exact hja))
      rw [hi0] at this; cases this
    . have := getD_two (hc.anc 9 i j h1 (fun o ho => by rw [hoi] at ho; injection ho with ho; subst ho; exact hia))
      rw [hj0] at this; cases this

def wpAnyS (P : Program) (ops : Array Oper) (Q : Exit -> Act -> World -> Prop) (S : World -> Prop) : Nat -> Array Bool -> Act -> World -> Prop
  | 0, listed, a, w => Region.ready .any ops listed = [] /\ Q .normal a w
  | fuel + 1, listed, a, w =>
    (Region.ready .any ops listed = [] -> Q .normal a w) ∧
    ∀ i ∈ Region.ready .any ops listed, wpOp P ops Q i (fun a' w' => (sinkOp ops i = false -> S w') /\ wpAnyS P ops Q S fuel (listed.setIfInBounds i true) a' w') a w
theorem wpAny_of_S {P : Program} {ops : Array Oper} {Q : Exit -> Act -> World -> Prop} {S : World -> Prop} : ∀ (fuel : Nat) (listed : Array Bool) (a : Act) (w : World), wpAnyS P ops Q S fuel listed a w -> wpAny P .any ops Q fuel listed a w
  | 0, _, _, _, h => h
  | fuel + 1, _, _, _, h => ⟨h.1, fun i hi => wpOp_mono (fun a' w' h' => wpAny_of_S fuel _ a' w' h'.2) (h.2 i hi)⟩
theorem wpAnyS_mono {P : Program} {ops : Array Oper} {Q : Exit -> Act -> World -> Prop} {S S' : World -> Prop} (hS : ∀ w, S w -> S' w) : ∀ (fuel : Nat) (listed : Array Bool) (a : Act) (w : World), wpAnyS P ops Q S fuel listed a w -> wpAnyS P ops Q S' fuel listed a w
  | 0, _, _, _, h => h
  | fuel + 1, _, _, _, h => ⟨h.1, fun i hi => wpOp_mono (fun a' w' h' => ⟨fun e => hS _ (h'.1 e), wpAnyS_mono hS fuel _ a' w' h'.2⟩) (h.2 i hi)⟩
theorem wpAnyS_first {P : Program} {ops : Array Oper} {Q : Exit -> Act -> World -> Prop} {S : World -> Prop} {i : Nat} {oi : Oper} {v : Value} (hi : ops[i]? = some oi) (hsel : ∀ (j : Nat) (o : Oper) cs b, ops[j]? = some o -> o.op ≠ .select cs b)
    (hQ : ∀ c a w, Q (.panic c) (a.put oi.dst v) w -> Q (.panic c) a w) :
    ∀ (fuel : Nat) (listed : Array Bool) (a : Act) (w : World), Closed ops listed →
      (∀ j oj, ops[j]? = some oj -> j ≠ i -> listed.getD j true = false -> (∀ e ∈ oj.after, Region.binds .any e = true -> e.on ≠ i) -> oi.apart ops oj = true) →
      i ∈ Region.ready .any ops listed -> YieldsIf P ops S oi v a -> S w →
      wpAnyS P ops Q S fuel (listed.setIfInBounds i true) (a.put oi.dst v) w -> wpAnyS P ops Q S (fuel + 1) listed a w := by
  intro fuel
  induction fuel with
  | zero =>
    intro listed a w _ _ hr hy hS H
    refine ⟨fun h => (by rw [h] at hr; cases hr), fun j hj => ?_⟩
    by_cases hji : j = i
    . subst hji; exact hy.wpOp hi hS ⟨fun _ => hS, H⟩
    . have := ready_mono hj hji
      rw [H.1] at this
      cases this
  | succ fuel ih =>
    intro listed a w hcl hfree hr hy hS H
    refine ⟨fun h => (by rw [h] at hr; cases hr), fun j hj => ?_⟩
    by_cases hji : j = i
    . subst hji; exact hy.wpOp hi hS ⟨fun _ => hS, H⟩
    . have h1 := H.2 j (ready_mono hj hji)
      obtain ⟨hjun, oj, hoj, hall⟩ := mem_ready.1 hj
      have hnot : ∀ e ∈ oj.after, Region.binds .any e = true -> e.on ≠ i := fun e he hb heq => by
        have h1 := hall e he hb
        have h0 := (mem_ready.1 hr).1
        rw [heq] at h1
        rcases Nat.lt_or_ge i listed.size with h' | h'
        . simp [h'] at h0 h1; rw [h0] at h1; cases h1
        . simp [Array.getElem?_eq_none h'] at h1
      have hsk : sinkOp ops j = false := sinkOp_not hcl hj hr hji
      have h2 := wpOp_putIf hoj (hfree j oj hoj hji hjun hnot) (fun cs b => hsel i oi cs b hi) (fun cs b => hsel j oj cs b hoj) hQ hy h1
      have hfree' : ∀ k ok, ops[k]? = some ok -> k ≠ i -> (listed.setIfInBounds j true).getD k true = false →
          (∀ e ∈ ok.after, Region.binds .any e = true -> e.on ≠ i) -> oi.apart ops ok = true := fun k ok hk hki hun hno => by
        refine hfree k ok hk hki ?_ hno
        by_cases hjk : j = k
        . subst hjk; exact hjun
        . rw [getD_set_ne true hjk] at hun; exact hun
      refine wpOp_mono (fun a' w' h3 => ⟨h3.2.1, ih (listed.setIfInBounds j true) a' w' (hcl.set hj) hfree' (ready_mono hr (Ne.symm hji)) h3.1 (h3.2.1 hsk) ?_⟩) h2
      rw [Array.setIfInBounds_comm _ _ hji]
      exact h3.2.2
theorem wpAnyS_take {P : Program} {ops : Array Oper} {Q : Exit -> Act -> World -> Prop} {S : World -> Prop} {i : Nat} {oi : Oper} {v : Value} {fuel : Nat} {listed : Array Bool} {a : Act} {w : World} (hi : ops[i]? = some oi)
    (hs : Region.noSelect ops = true) (hcl : Closed ops listed) (hf : Region.free .any ops listed i = true) (hr : (Region.ready .any ops listed).contains i = true)
    (hQ : ∀ c a w, Q (.panic c) (a.put oi.dst v) w -> Q (.panic c) a w) (hy : YieldsIf P ops S oi v a) (hS : S w)
    (h : wpAnyS P ops Q S fuel (listed.setIfInBounds i true) (a.put oi.dst v) w) : wpAnyS P ops Q S (fuel + 1) listed a w :=
  wpAnyS_first hi (Region.noSelect_spec hs) hQ fuel listed a w hcl (Region.free_spec hi hf) (by simpa using hr) hy hS h
theorem wpAnyS_all {P : Program} {ops : Array Oper} {Q : Exit -> Act -> World -> Prop} {S : World -> Prop} {rs : List Nat} {fuel : Nat} {listed : Array Bool} {a : Act} {w : World} (hr : Region.ready .any ops listed = rs) (hne : rs ≠ [])
    (h : ∀ i ∈ rs, wpOp P ops Q i (fun a' w' => (sinkOp ops i = false -> S w') /\ wpAnyS P ops Q S fuel (listed.setIfInBounds i true) a' w') a w) : wpAnyS P ops Q S (fuel + 1) listed a w :=
  ⟨fun h0 => absurd (hr ▸ h0) hne, hr ▸ h⟩
theorem wpAnyS_done {P : Program} {ops : Array Oper} {Q : Exit -> Act -> World -> Prop} {S : World -> Prop} {listed : Array Bool} {a : Act} {w : World} (hr : Region.ready .any ops listed = []) (h : Q .normal a w) :
    ∀ fuel, wpAnyS P ops Q S fuel listed a w
  | 0 => ⟨hr, h⟩
  | _ + 1 => ⟨fun _ => h, by rw [hr]; simp⟩
def lastOk (all : Array Oper) (S : Prop) : List Nat -> Prop
  | [] => True
  | i :: _ => sinkOp all i = false -> S

def wpTk (P : Program) (all : Array Oper) (S : World -> Prop) (Q : Act -> Prop) : List Oper -> Act -> Prop
  | [], a => Q a
  | o :: l, a => ∃ v, YieldsIf P all S o v a /\ wpTk P all S Q l (a.put o.dst v)

def den (E : Env) : List It -> Exit -> Act -> World -> Prop
  | [] => bodyPost E.P E.fn E.post
  | .code y :: k => Exit.then (y.wp E.P (den E k)) (den E k)
  | .blk id :: k => Exit.inBlock id (den E k)
  | .ops .seq all l :: k => Exit.then (fun a w => wpList E.P all (den E k) l a w) (den E k)
  | .ops (.still tail) all l :: k => Exit.then (fun a w => wpStill E.P all w (fun a' => wpList E.P all (den E k) tail a' w) l a) (den E k)
  | .ops (.held h0 H0) all l :: k => Exit.then (fun a w => wpTk E.P all (StI h0 H0) (fun a' => den E k .normal a' w) l a) (den E k)
  | .any h0 H0 all listed :: k => Exit.then (fun a w => lastOk all (StI h0 H0 w) listed /\ wpAnyS E.P all (den E k) (StI h0 H0) (all.size - listed.length) (lst all.size listed) a w) (den E k)
  | .back h H :: k => Exit.then (fun a w => St E.c h H w -> den E k .normal a w) (den E k)
  | .stop c :: k => Exit.then (c.wp E.P (den E k)) (den E k)
  | .sco :: k => Exit.noGoto (den E k)
  | .cut J :: k => Exit.then (Held E J) (den E k)

structure G (E : Env) (k : List It) (f : Fr) (h : Heap) (H : List Chunk) : Prop where
  run : ∀ a w, FSat E.n f a -> St E.c h H w -> den E k .normal a w

def argFr : Nat -> List Value -> Fr
  | _, [] => []
  | i, v :: r => (i, v) :: argFr (i + 1) r

theorem argFr_get : ∀ (l : List Value) (j i : Nat) (v : Value), Fr.get (argFr j l) i = some v -> j <= i /\ l[i - j]? = some v
  | [], _, _, _, h => by cases h
  | u :: r, j, i, v, h => by
    simp only [argFr, Fr.get] at h
    cases hb : Nat.beq j i with
    | true =>
      rw [hb] at h
      have := Nat.eq_of_beq_eq_true hb
      subst this
      simp at h
      subst h
      simp
    | false =>
      rw [hb] at h
      obtain ⟨h1, h2⟩ := argFr_get r (j + 1) i v h
      refine ⟨by omega, ?_⟩
      rw [show i - j = (i - (j + 1)) + 1 by omega]
      simpa using h2

theorem Spec.enter {P : Program} {g : FuncId} {fn : Func} {c : Code} {args : List Value} {h : Heap} {H : List Chunk} {R : Value -> Heap -> List Chunk -> Prop}
    (hf : P.funcs[g]? = some fn) (hb : fn.body = some c) (hn : Nat.ble args.length fn.ntmps = true)
    (hg : ∀ w0, G ⟨P, fn, fn.ntmps, ⟨w0, keys H, h⟩, R⟩ [.code c] (argFr 0 args) h H) : Spec P g args h H R := by
  refine ⟨fun w hw => ?_⟩
  refine calls_of_wp hf hb ?_
  have hn' : args.length <= fn.ntmps := by simpa [Nat.ble_eq] using hn
  refine (hg w).run _ w ⟨by simp; omega, rfl, fun i v hv => ?_⟩ hw.start
  obtain ⟨_, h2⟩ := argFr_get args 0 i v hv
  simp only [Nat.sub_zero] at h2
  have hi : i < args.length := (List.getElem?_eq_some_iff.1 h2).1
  rw [Array.getD_eq_getD_getElem?, Array.getElem?_append_left (by simpa using hi)]
  simp only [List.getElem?_toArray, h2, Option.getD_some]

section
variable {E : Env} {k : List It} {f : Fr} {h : Heap} {H : List Chunk}

theorem G.seq {x y : Code} (g : G E (.code x :: .code y :: k) f h H) : G E (.code (.seq x y) :: k) f h H := ⟨fun a w ha hw => wp_seq (g.run a w ha hw)⟩
theorem G.block {id : Nat} {x : Code} (g : G E (.code x :: .blk id :: k) f h H) : G E (.code (.block id x) :: k) f h H := ⟨fun a w ha hw => wp_block (g.run a w ha hw)⟩
theorem G.endBlk {id : Nat} (g : G E k f h H) : G E (.blk id :: k) f h H := ⟨fun a w ha hw => g.run a w ha hw⟩
theorem G.scope {c : Code} (g : G E (.code c :: .sco :: k) f h H) : G E (.code (.scope c) :: k) f h H := ⟨fun a w ha hw => wp_scope_straight (wp_mono (g.run a w ha hw) (fun e a w q => by cases e <;> exact q))⟩
theorem G.skip (g : G E k f h H) : G E (.code .skip :: k) f h H := ⟨fun a w ha hw => wp_skip (g.run a w ha hw)⟩
theorem G.region {id : Nat} {l : List Oper} (g : G E (.ops .seq l.toArray l :: k) f h H) : G E (.code (.region id l.toArray false) :: k) f h H := ⟨fun a w ha hw => wp_region_lit (g.run a w ha hw)⟩
theorem G.endOps {all : Array Oper} (g : G E k f h H) : G E (.ops .seq all [] :: k) f h H := ⟨fun a w ha hw => wpList_nil (P := E.P) (ops := all) (Q := den E k) (g.run a w ha hw)⟩
theorem G.cond {c : Operand} {x y : Code} {b : Bool} (hc : ev f c = some (.bool b)) (ht : b = true -> G E (.code x :: k) f h H) (hf : b = false -> G E (.code y :: k) f h H) :
    G E (.code (.cond c x y) :: k) f h H := ⟨fun a w ha hw => wp_cond_split (ev_eq ha hc) (fun e => (ht e).run a w ha hw) (fun e => (hf e).run a w ha hw)⟩
theorem G.cut {J : Fr -> Heap -> List Chunk -> Prop} (hj : J f h H) : G E (.cut J :: k) f h H := ⟨fun _ _ ha hw => ⟨f, h, H, hj, ha, hw⟩⟩
theorem G.weak {g : Fr} {H' : List Chunk} (hf : SubFr g f) (hH : SubH H' H) (gg : G E k g h H') : G E k f h H := ⟨fun a w ha hw => gg.run a w (ha.sub hf) (hw.sub hH)⟩
theorem G.chunks {H' : List Chunk} (hH : SubH H' H) (gg : G E k f h H') : G E k f h H := ⟨fun a w ha hw => gg.run a w ha (hw.sub hH)⟩

theorem G.seqCut {x y : Code} (J : Fr -> Heap -> List Chunk -> Prop) (g : G E (.code x :: .cut J :: k) f h H) (n : ∀ f h H, J f h H -> G E (.code y :: k) f h H) :
    G E (.code (.seq x y) :: k) f h H :=
  ⟨fun a w ha hw => wp_seq (wp_mono (g.run a w ha hw) fun e a' w' q => by
    cases e with
    | normal => obtain ⟨f', h', H', hj, hf, hs⟩ := q; exact (n f' h' H' hj).run a' w' hf hs
    | _ => exact q)⟩

theorem G.stopIf (id : Nat) {ops : Array Oper} {b : Bool} {x y : Code} (g : G E (.stop (.seq (.seq (.region id ops b) x) y) :: k) f h H) : G E (.code (.seq (.seq (.region id ops b) x) y) :: k) f h H := ⟨fun a w ha hw => g.run a w ha hw⟩
theorem G.stopLoop {c : Code} (g : G E (.stop (.loop c) :: k) f h H) : G E (.code (.loop c) :: k) f h H := ⟨fun a w ha hw => g.run a w ha hw⟩
theorem G.go {c : Code} (g : G E (.code c :: k) f h H) : G E (.stop c :: k) f h H := ⟨fun a w ha hw => g.run a w ha hw⟩
theorem G.meet {x y : Code} {σ : Type} (fr : σ -> Fr) (Hs : σ -> List Chunk) (inv : σ -> Heap -> Prop)
    (g : G E (.code x :: .cut (fun f'' h'' H'' => ∃ y, SubFr (fr y) f'' /\ SubH (Hs y) H'' /\ Heap.le h h'' /\ inv y h'') :: k) f h H)
    (n : ∀ z h', Heap.le h h' -> inv z h' -> G E (.code y :: k) (fr z) h' (Hs z)) : G E (.code (.seq x y) :: k) f h H :=
  G.seqCut _ g fun _ h' _ ⟨z, h1, h2, h3, h4⟩ => G.weak h1 h2 (n z h' h3 h4)
theorem G.met {σ : Type} {fr : σ -> Fr} {Hs : σ -> List Chunk} {inv : σ -> Heap -> Prop} {h' : Heap} (y : σ) (h1 : SubFr (fr y) f) (h2 : SubH (Hs y) H) (hle : Heap.le h' h) (h3 : inv y h) :
    G E (.cut (fun f'' h'' H'' => ∃ y, SubFr (fr y) f'' /\ SubH (Hs y) H'' /\ Heap.le h' h'' /\ inv y h'') :: k) f h H := G.cut ⟨y, h1, h2, hle, h3⟩
theorem G.loop {c : Code} {σ : Type} (fr : σ -> Fr) (Hs : σ -> List Chunk) (inv : σ -> Heap -> Prop) (μ : σ -> Nat) (x0 : σ)
    (h1 : SubFr (fr x0) f) (h2 : SubH (Hs x0) H) (h3 : inv x0 h)
    (round : ∀ x h', Heap.le h h' -> inv x h' -> G E (.code c :: .cut (fun f'' h'' H'' => ∃ y, μ y < μ x /\ SubFr (fr y) f'' /\ SubH (Hs y) H'' /\ Heap.le h' h'' /\ inv y h'') :: k) (fr x) h' (Hs x)) :
    G E (.code (.loop c) :: k) f h H := by
  refine ⟨fun a w ha hw => ?_⟩
  have key : ∀ n, ∀ x h' a w, μ x = n -> Heap.le h h' -> inv x h' -> FSat E.n (fr x) a -> St E.c h' (Hs x) w -> (Code.loop c).wp E.P (den E k) a w := by
    intro n0 x0 hh0 a0 w0 hμ hle hinv hfs hst
    refine wp_loop (fun a w => ∃ x h', Heap.le h h' /\ inv x h' /\ FSat E.n (fr x) a /\ St E.c h' (Hs x) w)
      (fun a w => Classical.epsilon (fun m => (∃ x h', Heap.le h h' /\ inv x h' /\ FSat E.n (fr x) a /\ St E.c h' (Hs x) w /\ μ x = m) /\ ∀ m', (∃ x h', Heap.le h h' /\ inv x h' /\ FSat E.n (fr x) a /\ St E.c h' (Hs x) w /\ μ x = m') -> m <= m'))
      ⟨x0, hh0, hle, hinv, hfs, hst⟩ ?_
    intro a w hI
    have least : ∀ a w, (∃ x h', Heap.le h h' /\ inv x h' /\ FSat E.n (fr x) a /\ St E.c h' (Hs x) w) →
        ∃ m, (∃ x h', Heap.le h h' /\ inv x h' /\ FSat E.n (fr x) a /\ St E.c h' (Hs x) w /\ μ x = m) /\ ∀ m', (∃ x h', Heap.le h h' /\ inv x h' /\ FSat E.n (fr x) a /\ St E.c h' (Hs x) w /\ μ x = m') -> m <= m' := by
      intro a w ⟨x, h', p1, p2, p3, p4⟩
      have : ∀ n m, m <= n -> (∃ x h', Heap.le h h' /\ inv x h' /\ FSat E.n (fr x) a /\ St E.c h' (Hs x) w /\ μ x = m) →
          ∃ m, (∃ x h', Heap.le h h' /\ inv x h' /\ FSat E.n (fr x) a /\ St E.c h' (Hs x) w /\ μ x = m) /\ ∀ m', (∃ x h', Heap.le h h' /\ inv x h' /\ FSat E.n (fr x) a /\ St E.c h' (Hs x) w /\ μ x = m') -> m <= m' := by
        intro n
        induction n with
        | zero => intro m hm hx; exact ⟨m, hx, fun m' _ => by omega⟩
        | succ n ih =>
          intro m hm hx
          by_cases hlt : ∃ m', m' < m /\ (∃ x h', Heap.le h h' /\ inv x h' /\ FSat E.n (fr x) a /\ St E.c h' (Hs x) w /\ μ x = m')
          . obtain ⟨m', hlt, hx'⟩ := hlt
            exact ih m' (by omega) hx'
          . exact ⟨m, hx, fun m' hx' => by
              rcases Nat.lt_or_ge m' m with h1 | h1
              . exact absurd ⟨m', h1, hx'⟩ hlt
              . exact h1⟩
      exact this (μ x) (μ x) (Nat.le_refl _) ⟨x, h', p1, p2, p3, p4, rfl⟩
    have hl := Classical.epsilon_spec (least a w hI)
    obtain ⟨⟨x, h', p1, p2, p3, p4, p5⟩, pmin⟩ := hl
    rw [<- p5]
    have hr := (round x h' p1 p2).run a w p3 p4
    refine wp_mono hr fun e a' w' q => ?_
    cases e with
    | normal =>
      obtain ⟨f'', h'', H'', ⟨y, hy, q1, q2, q3, q4⟩, q5, q6⟩ := q
      have hI' : ∃ x h', Heap.le h h' /\ inv x h' /\ FSat E.n (fr x) a' /\ St E.c h' (Hs x) w' := ⟨y, h'', Heap.le_trans p1 q3, q4, q5.sub q1, q6.sub q2⟩
      refine ⟨hI', ?_⟩
      have hl' := Classical.epsilon_spec (least a' w' hI')
      have := hl'.2 (μ y) ⟨y, h'', Heap.le_trans p1 q3, q4, q5.sub q1, q6.sub q2, rfl⟩
      exact Nat.lt_of_le_of_lt this hy
    | _ => exact q
  exact key _ x0 h a w rfl (Heap.le_refl h) h3 (ha.sub h1) (hw.sub h2)

theorem G.again {σ : Type} {fr : σ -> Fr} {Hs : σ -> List Chunk} {inv : σ -> Heap -> Prop} {μ : σ -> Nat} {m : Nat} {h' : Heap} (y : σ) (h1 : SubFr (fr y) f) (h2 : SubH (Hs y) H) (h3 : inv y h) (hle : Heap.le h' h) (hm : μ y < m) :
    G E (.cut (fun f'' h'' H'' => ∃ y, μ y < m /\ SubFr (fr y) f'' /\ SubH (Hs y) H'' /\ Heap.le h' h'' /\ inv y h'') :: k) f h H := G.cut ⟨y, hm, h1, h2, hle, h3⟩

def popTo (id : Nat) : List It -> Option (List It)
  | [] => none
  | .blk i :: k => bif Nat.beq i id then some k else popTo id k
  | _ :: k => popTo id k
theorem den_exit {id : Nat} {a : Act} {w : World} : ∀ {k k' : List It}, popTo id k = some k' -> den E k' .normal a w -> den E k (.exit id) a w
  | [], _, hp, _ => by cases hp
  | .blk i :: k, k', hp, hd => by
    simp only [popTo] at hp
    simp only [den, Exit.inBlock]
    cases hb : Nat.beq i id with
    | true =>
      rw [hb] at hp
      simp at hp
      subst hp
      have := Nat.eq_of_beq_eq_true hb
      rw [if_pos this.symm]
      exact hd
    | false =>
      rw [hb] at hp
      rw [if_neg (fun e => by subst e; simp at hb)]
      exact den_exit hp hd
  | .code _ :: k, _, hp, hd => den_exit (k := k) hp hd
  | .ops .seq _ _ :: k, _, hp, hd => den_exit (k := k) hp hd
  | .ops (.still _) _ _ :: k, _, hp, hd => den_exit (k := k) hp hd
  | .ops (.held _ _) _ _ :: k, _, hp, hd => den_exit (k := k) hp hd
  | .any _ _ _ _ :: k, _, hp, hd => den_exit (k := k) hp hd
  | .back _ _ :: k, _, hp, hd => den_exit (k := k) hp hd
  | .stop _ :: k, _, hp, hd => den_exit (k := k) hp hd
  | .sco :: k, _, hp, hd => den_exit (k := k) hp hd
  | .cut _ :: k, _, hp, hd => den_exit (k := k) hp hd
theorem G.exit {id : Nat} {k' : List It} (hp : popTo id k = some k') (g : G E k' f h H) : G E (.code (.exit id) :: k) f h H := ⟨fun a w ha hw => wp_exit (den_exit hp (g.run a w ha hw))⟩

theorem den_ret {a : Act} {w : World} (hb : bodyPost E.P E.fn E.post .ret a w) : ∀ k : List It, den E k .ret a w
  | [] => hb
  | .blk _ :: k => den_ret hb k
  | .code _ :: k => den_ret hb k
  | .ops .seq _ _ :: k => den_ret hb k
  | .ops (.still _) _ _ :: k => den_ret hb k
  | .ops (.held _ _) _ _ :: k => den_ret hb k
  | .any _ _ _ _ :: k => den_ret hb k
  | .back _ _ :: k => den_ret hb k
  | .stop _ :: k => den_ret hb k
  | .sco :: k => den_ret hb k
  | .cut _ :: k => den_ret hb k
theorem G.ret (g : G E [] f h H) : G E (.code .ret :: k) f h H := ⟨fun a w ha hw => wp_ret (den_ret (g.run a w ha hw) k)⟩

theorem FSat.tmps {n : Nat} {a : Act} (ha : FSat n f a) {t : Nat} {v : Value} (hg : Fr.get f t = some v) : a.tmps.getD t undef = v := ha.get t v hg

theorem G.done1 {t : Nat} {v : Value} (hr : E.fn.results = #[.tmp t]) (hg : Fr.get f t = some v) (H' : List Chunk) (hs : SubH H' H) (hR : E.R v h H') : G E [] f h H := by
  refine ⟨fun a w ha hw => ?_⟩
  refine ⟨ha.defers, _, results_tmp hr _ _ _, _, h, H', rfl, ?_, hw.sub hs⟩
  rw [ha.tmps hg]; exact hR
theorem G.done2 {t t' : Nat} {v v' : Value} (hr : E.fn.results = #[.tmp t, .tmp t']) (hg : Fr.get f t = some v) (hg' : Fr.get f t' = some v') (H' : List Chunk) (hs : SubH H' H)
    (hR : E.R (.tuple #[v, v']) h H') : G E [] f h H := by
  refine ⟨fun a w ha hw => ?_⟩
  refine ⟨ha.defers, _, results_tmp2 hr _ _ _, _, h, H', rfl, ?_, hw.sub hs⟩
  rw [ha.tmps hg, ha.tmps hg']; exact hR
theorem res3 {fn : Func} {t u v : Tmp} (h : fn.results = #[.tmp t, .tmp u, .tmp v]) (tmps : Array Value) (P : Program) (w : World) :
    (results fn tmps).run P w = .ok (.tuple #[tmps.getD t undef, tmps.getD u undef, tmps.getD v undef]) w := by simp [results, h]
theorem G.done3 {t t' t2 : Nat} {v v' v2 : Value} (hr : E.fn.results = #[.tmp t, .tmp t', .tmp t2]) (hg : Fr.get f t = some v) (hg' : Fr.get f t' = some v') (hg2 : Fr.get f t2 = some v2)
    (H' : List Chunk) (hs : SubH H' H) (hR : E.R (.tuple #[v, v', v2]) h H') : G E [] f h H := by
  refine ⟨fun a w ha hw => ?_⟩
  refine ⟨ha.defers, _, res3 hr _ _ _, _, h, H', rfl, ?_, hw.sub hs⟩
  rw [ha.tmps hg, ha.tmps hg', ha.tmps hg2]; exact hR

theorem G.opGen {all : Array Oper} {rest : List Oper} {op : Op} {d : Option Nat} {ty : TypeId} {pos : String} {aft : Array Edge}
    (s : ∀ a w, FSat E.n f a -> St E.c h H w -> ∃ nx w' f' h' H', (execOp a.eval ⟨d, op, ty, pos, aft, none⟩).run E.P w = .ok nx w' ∧
      ((∃ v, nx = .value v /\ FSat E.n f' (a.put d v)) \/ (nx = .skip /\ FSat E.n f' (a.put d undef))) /\ St E.c h' H' w' /\ G E (.ops .seq all rest :: k) f' h' H') :
    G E (.ops .seq all (⟨d, op, ty, pos, aft, none⟩ :: rest) :: k) f h H := by
  refine ⟨fun a w ha hw => ?_⟩
  obtain ⟨nx, w', f', h', H', hrun, hnx, hst, g⟩ := s a w ha hw
  show wpList E.P all (den E k) (⟨d, op, ty, pos, aft, none⟩ :: rest) a w
  refine wpList_plain rfl fun K hK => ?_
  unfold Oper.wp
  rw [hrun]
  rcases hnx with ⟨v, rfl, hf⟩ | ⟨rfl, hf⟩
  . exact hK _ _ (g.run _ _ hf hst)
  . exact hK _ _ (g.run _ _ hf hst)

theorem G.opVal {st : Md} [hk : OkMd st h H] {all : Array Oper} {rest : List Oper} {op : Op} {d : Nat} {ty : TypeId} {pos : String} {aft : Array Edge} {v : Value} (hd : Nat.blt d E.n = true)
    (s : ∀ c a w, FSat E.n f a -> St c h H w -> (execOp a.eval ⟨some d, op, ty, pos, aft, none⟩).run E.P w = .ok (.value v) w)
    (g : G E (.ops st all rest :: k) ((d, v) :: f) h H) :
    G E (.ops st all (⟨some d, op, ty, pos, aft, none⟩ :: rest) :: k) f h H := by
  cases st with
  | seq => exact G.opGen fun a w ha hw => ⟨_, w, _, h, H, s _ a w ha hw, .inl ⟨v, rfl, ha.put d v hd⟩, hw, g⟩
  | still tail =>
    refine ⟨fun a w ha hw => ?_⟩
    show wpStill E.P all w _ (⟨some d, op, ty, pos, aft, none⟩ :: rest) a
    refine wpStill_step fun K hK => ?_
    rw [if_pos (by simp [Region.wanted])]
    unfold Oper.still
    rw [s _ a w ha hw]
    exact ⟨rfl, hK _ (g.run _ w (ha.put d v hd) hw)⟩
  | held h0 H0 =>
    obtain ⟨rfl, rfl⟩ := hk.ok h0 H0 rfl
    exact ⟨fun a w ha hw => ⟨v, .inl ⟨rfl, fun w' hw' => s _ a w' ha hw'.start⟩, g.run _ w (ha.put d v hd) hw⟩⟩

theorem G.endStill {all : Array Oper} {tail : List Oper} (g : G E (.ops .seq all tail :: k) f h H) : G E (.ops (.still tail) all [] :: k) f h H :=
  ⟨fun a w ha hw => wpStill_nil (P := E.P) (ops := all) (w := w) (Q := fun a' => wpList E.P all (den E k) tail a' w) (g.run a w ha hw)⟩
theorem G.endHeld {all : Array Oper} {h0 : Heap} {H0 : List Chunk} (g : G E k f h H) : G E (.ops (.held h0 H0) all [] :: k) f h H := ⟨fun a w ha hw => g.run a w ha hw⟩

theorem G.draw {id : Nat} {l : List Oper} (n : Nat) (hm : E.P.follows .mixedOrders = true) (hB : Region.lexTailB .any l.toArray n = true) {l1 l2 : List Oper} (h1 : l.take n = l1) (h2 : l.drop n = l2)
    (g : G E (.ops (.still l2) l.toArray l1 :: k) f h H) : G E (.code (.region id l.toArray true) :: k) f h H := by
  subst h1 h2
  refine ⟨fun a w ha hw => wp_region_still_tail n hm hB ?_⟩
  have hw' : St E.c h H { w with drawn := w.drawn + 1 } := ⟨hw.os, hw.tape, hw.output, hw.size, hw.fr, hw.mono, hw.imm, hw.own, hw.nodup, hw.sep, hw.ksub, hw.isub⟩
  exact g.run a _ ha hw'
theorem den_panic {c : _} {a : Act} {w : World} {d : Option Tmp} {v : Value} : ∀ k : List It, den E k (.panic c) (a.put d v) w -> den E k (.panic c) a w
  | [], hq => by cases d <;> exact hq
  | .blk _ :: k, hq => den_panic k hq
  | .code _ :: k, hq => den_panic k hq
  | .ops .seq _ _ :: k, hq => den_panic k hq
  | .ops (.still _) _ _ :: k, hq => den_panic k hq
  | .ops (.held _ _) _ _ :: k, hq => den_panic k hq
  | .any _ _ _ _ :: k, hq => den_panic k hq
  | .back _ _ :: k, hq => den_panic k hq
  | .stop _ :: k, hq => den_panic k hq
  | .sco :: k, hq => den_panic k hq
  | .cut _ :: k, hq => den_panic k hq

theorem G.anyIn {id : Nat} {l : List Oper} (hm : E.P.follows .mixedOrders = true) (g : G E (.any (fun _ => none) [] l.toArray [] :: k) f h H) : G E (.code (.region id l.toArray true) :: k) f h H := by
  refine ⟨fun a w ha hw => wp_region_any hm (wpAny_of_S (S := StI (fun _ => none) []) _ _ _ _ ?_)⟩
  have hw' : St E.c h H { w with drawn := w.drawn + 1 } := ⟨hw.os, hw.tape, hw.output, hw.size, hw.fr, hw.mono, hw.imm, hw.own, hw.nodup, hw.sep, hw.ksub, hw.isub⟩
  have := (g.run a _ ha hw').2
  simpa [lst] using this

theorem StI.weak {h0 h : Heap} {H0 H : List Chunk} {w : World} (s : StI h H w) (hh : Heap.le h0 h) (hs : SubH H0 H) : StI h0 H0 w := by
  have s' := s.sub hs
  refine ⟨fun b o hb => s'.imm b o (hh b o hb), s'.own, s'.nodup, fun g hg => ?_⟩
  cases hc : h0 g with
  | none => rfl
  | some o => have := hh g o hc; rw [s'.sep g hg] at this; cases this

def takeOk (all : Array Oper) : Nat -> List Nat -> List Nat -> Bool
  | _, _, [] => true
  | 0, _, _ => false
  | fuel + 1, done, i :: r => Region.free .any all (lst all.size done) i && (Region.ready .any all (lst all.size done)).contains i && takeOk all fuel (i :: done) r

def takeOkC (all : Array Oper) (fuel : Nat) (done idx : List Nat) : Bool := closedB all (lst all.size done) && takeOk all fuel done idx
theorem take_run {all : Array Oper} {S : World -> Prop} (hs : Region.noSelect all = true) {w : World} (hS : S w) : ∀ (idx : List Nat) (l : List Oper) (fuel : Nat) (done : List Nat) (a : Act), Closed all (lst all.size done) -> takeOk all fuel done idx = true -> idx.mapM (fun i => all[i]?) = some l →
    wpTk E.P all S (fun a' => wpAnyS E.P all (den E k) S (fuel - idx.length) (lst all.size (idx.reverse ++ done)) a' w) l a -> wpAnyS E.P all (den E k) S fuel (lst all.size done) a w
  | [], l, fuel, done, a, _, _, hl, hq => by
    simp at hl
    subst hl
    exact hq
  | i :: r, l, 0, done, a, _, ht, _, _ => by simp [takeOk] at ht
  | i :: r, l, fuel + 1, done, a, hcl, ht, hl, hq => by
    simp only [takeOk, Bool.and_eq_true] at ht
    obtain ⟨⟨t1, t2⟩, t3⟩ := ht
    simp only [List.mapM_cons, Option.bind_eq_bind, Option.bind_eq_some_iff, Option.pure_def, Option.some.injEq] at hl
    obtain ⟨o, ho, l', hl', rfl⟩ := hl
    obtain ⟨v, hy, hq⟩ := hq
    refine wpAnyS_take ho hs hcl t1 t2 (fun c a w => den_panic k) hy hS ?_
    have := take_run hs hS r l' fuel (i :: done) (a.put o.dst v) (hcl.set (by simpa using t2)) t3 hl' (by simpa [Nat.add_sub_add_right] using hq)
    simpa [lst] using this

theorem wpTk_mono {P : Program} {all : Array Oper} {S : World -> Prop} {Q Q' : Act -> Prop} (hq : ∀ a, Q a -> Q' a) : ∀ (l : List Oper) (a : Act), wpTk P all S Q l a -> wpTk P all S Q' l a
  | [], _, h => hq _ h
  | _ :: l, _, ⟨v, h1, h2⟩ => ⟨v, h1, wpTk_mono hq l _ h2⟩
theorem upon_change {P : Program} {o : Oper} {a : Act} {n n' : Act -> World -> Prop} {Q Q' : Exit -> Act -> World -> Prop} (hn : ∀ a w, n a w -> n' a w) (hp : ∀ c a w, Q (.panic c) a w -> Q' (.panic c) a w) (ho : LetsOut Q -> LetsOut Q') (r : Result Next) (hu : o.upon P a n Q r) : o.upon P a n' Q' r := by
  cases r with
  | ok nx w' =>
    cases nx <;> simp only [Oper.upon] at hu ⊢ <;>
      first
        | exact hn _ _ hu
        | exact Calls.mono hu (fun e w'' he => by cases e <;> first | exact hn _ _ he | exact hp _ _ _ he | exact ho he)
        | exact Rows.mono hu (fun _ _ he => hn _ _ he)
  | halt x w' => cases x <;> simp only [Oper.upon] at hu ⊢ <;> exact hp _ _ _ hu
theorem any_step {l0 : List Oper} {h0 : Heap} {H0 : List Chunk} {done : List Nat} {i : Nat} {o : Oper} {a : Act} {w : World} (ho : l0.toArray[i]? = some o)
    (hd : den E (.ops .seq l0.toArray [o] :: .any h0 H0 l0.toArray (i :: done) :: k) .normal a w) :
    wpOp E.P l0.toArray (den E k) i (fun a' w' => (sinkOp l0.toArray i = false -> StI h0 H0 w') /\ wpAnyS E.P l0.toArray (den E k) (StI h0 H0) (l0.toArray.size - (i :: done).length) ((lst l0.toArray.size done).setIfInBounds i true) a' w') a w := by
  have hd : wpList E.P l0.toArray (den E (.any h0 H0 l0.toArray (i :: done) :: k)) [o] a w := hd
  unfold wpList at hd
  unfold wpOp
  simp only [ho]
  have hnil : ∀ a w, wpList E.P l0.toArray (den E (.any h0 H0 l0.toArray (i :: done) :: k)) [] a w -> (sinkOp l0.toArray i = false -> StI h0 H0 w) /\ wpAnyS E.P l0.toArray (den E k) (StI h0 H0) (l0.toArray.size - (i :: done).length) ((lst l0.toArray.size done).setIfInBounds i true) a w := fun a w hh => hh
  by_cases hw : Region.wanted o (yielded l0.toArray a.tmps) = true
  . rw [if_pos hw] at hd
    rw [if_pos hw]
    rcases hd with hd | ⟨h1, a', w', h2⟩
    . exact .inl (upon_change hnil (fun _ _ _ hq => hq) (fun ⟨a', w', h2⟩ => ⟨a', w', h2⟩) _ hd)
    . exact .inr ⟨h1, a', w', h2⟩
  . rw [if_neg hw] at hd
    rw [if_neg hw]
    exact hnil _ _ hd

theorem G.anyTake {l0 : List Oper} {h0 : Heap} {H0 H1 : List Chunk} {done done' idx : List Nat} {l : List Oper} (hl : idx.mapM (fun i => l0[i]?) = some l) (hd : done' = idx.reverse ++ done)
    (hs : (Region.noSelect l0.toArray && takeOkC l0.toArray (l0.length - done.length) done idx) = true) (hh : Heap.le h0 h) (hs1 : SubH H0 H1) (hs2 : SubH H1 H)
    (g : G E (.ops (.held h H1) l0.toArray l :: .back h H :: .any h H1 l0.toArray done' :: k) f h H1) : G E (.any h0 H0 l0.toArray done :: k) f h H := by
  subst hd
  simp only [takeOkC, Bool.and_eq_true] at hs
  refine ⟨fun a w ha hw => ?_⟩
  have hI := hw.toI.sub hs2
  refine ⟨?_, wpAnyS_mono (S := StI h H1) (fun w' hw' => hw'.weak hh hs1) _ _ _ _ ?_⟩
  . cases done with
    | nil => trivial
    | cons i r => exact fun _ => hI.weak hh hs1
  refine take_run hs.1 hI idx l _ done a (closedB_spec hs.2.1) (by simpa using hs.2.2) (by simpa using hl) ?_
  have := g.run a w ha (hw.sub hs2)
  refine wpTk_mono (fun a' hq => ?_) _ _ this
  have h2 := (hq hw).2
  have he : l0.toArray.size - (idx.reverse ++ done).length = l0.toArray.size - done.length - idx.length := by
    rw [List.length_append, List.length_reverse]; omega
  rw [he] at h2
  exact h2
theorem G.back {h' : Heap} {H' : List Chunk} (g : G E k f h' H') : G E (.back h' H' :: k) f h H := ⟨fun a w ha _ hw => g.run a w ha hw⟩

def pureOp (sl : Nat -> Bool) : Op -> Bool
  | .move _ | .assign _ | .pick _ _ _ | .extract _ _ | .nilCheck _ | .unOp _ _ _ | .binOp _ _ _ _ _ | .makeFunc _ _ _ | .load _ _ | .index _ _ _ | .slice _ _ _ _ _ | .indexAddr _ _ _ | .fieldAddr _ _ _ | .build _ _ => true
  | .convert _ t _ => !sl t
  | .call c => match c.callee with
    | .builtin .len => true
    | .builtin .cap => true
    | _ => false
  | _ => false
theorem G.drawAll (sl : Nat -> Bool) {id : Nat} {l : List Oper} (_ : (l.all fun o => pureOp sl o.op) = true) (hm : E.P.follows .mixedOrders = true) (hB : Region.lexB .any l.toArray = true)
    (g : G E (.ops (.still []) l.toArray l :: k) f h H) : G E (.code (.region id l.toArray true) :: k) f h H := by
  refine ⟨fun a w ha hw => wp_region_still_lit hm hB ?_⟩
  have hw' : St E.c h H { w with drawn := w.drawn + 1 } := ⟨hw.os, hw.tape, hw.output, hw.size, hw.fr, hw.mono, hw.imm, hw.own, hw.nodup, hw.sep, hw.ksub, hw.isub⟩
  exact g.run a _ ha hw'
def inL : Nat -> List Nat -> Bool
  | _, [] => false
  | i, j :: r => Nat.beq i j || inL i r
def edgesIn (done : List Nat) : List Edge -> Bool
  | [] => true
  | e :: r => (match e.ground with | .textOnly _ => true | .gcOnly _ => true | _ => inL e.on done) && edgesIn done r
def autoGo (sl : Nat -> Bool) : List Oper -> Nat -> List Nat -> Option (List Oper × List Nat × List Nat)
  | [], _, done => some ([], [], done)
  | o :: r, i, done => bif pureOp sl o.op && !inL i done && edgesIn done o.after.toList then (match autoGo sl r (i + 1) (i :: done) with
      | some (l, idx, d) => some (o :: l, i :: idx, d)
      | none => none) else autoGo sl r (i + 1) done
theorem autoGo_spec {sl : Nat -> Bool} {l0 : List Oper} : ∀ (r : List Oper) (i : Nat) (done : List Nat) (l : List Oper) (idx d : List Nat), autoGo sl r i done = some (l, idx, d) -> (∀ j, r[j]? = l0[i + j]?) →
    idx.mapM (fun i => l0[i]?) = some l /\ d = idx.reverse ++ done
  | [], i, done, l, idx, d, h, _ => by
    simp only [autoGo, Option.some.injEq, Prod.mk.injEq] at h
    obtain ⟨rfl, rfl, rfl⟩ := h
    simp
  | o :: r, i, done, l, idx, d, h, hr => by
    have hr' : ∀ j, r[j]? = l0[i + 1 + j]? := fun j => by rw [show i + 1 + j = i + (j + 1) by omega, ← hr (j + 1)]; simp
    simp only [autoGo] at h
    cases hc : (pureOp sl o.op && !inL i done && edgesIn done o.after.toList) with
    | true =>
      rw [hc] at h
      simp only [cond_true] at h
      split at h
      . rename_i l' idx' d' he
        simp only [Option.some.injEq, Prod.mk.injEq] at h
        obtain ⟨rfl, rfl, rfl⟩ := h
        obtain ⟨p1, p2⟩ := autoGo_spec r (i + 1) (i :: done) l' idx' d' he hr'
        have h0 : l0[i]? = some o := by rw [<- Nat.add_zero i, ← hr 0]; rfl
        refine ⟨by simp [h0, p1], by simp [p2]⟩
      . cases h
    | false =>
      rw [hc] at h
      exact autoGo_spec r (i + 1) done l idx d h hr'
def rootOf : List Oper -> Nat -> Nat
  | [], s => s
  | o :: r, s => match o.dst with
    | some d => bif Nat.beq d s then (match o.op with
      | .move (.tmp t) => t
      | _ => s) else rootOf r s
    | none => rootOf r s
def argSlots (l0 : List Oper) : List Operand -> List (Option Nat) -> Option (List (Option Nat))
  | [], l => some l
  | .tmp s :: r, l => match argSlots l0 r l with
    | some q => some (some (rootOf l0 s) :: q)
    | none => none
  | _ :: r, l => argSlots l0 r l
def stSlots (l0 : List Oper) : List Oper -> Option (List (Option Nat))
  | [] => some []
  | o :: r => match stSlots l0 r with
    | some l => match o.op with
      | .store _ (.tmp s) _ => bif r.isEmpty then some l else some (some s :: l)
      | .call c => match c.callee with
        | .builtin .append => some (none :: l)
        | .value _ => argSlots l0 c.args.toList l
        | _ => some l
      | _ => some l
    | none => none
inductive DropRows : List Chunk -> List Chunk -> Prop
  | nil : DropRows [] []
  | drop {v : Value} {e sz : Nat} {rows : List (List Value)} {H H1 : List Chunk} : DropRows H H1 -> DropRows (.row v e sz rows :: H) H1
  | keep {x : Chunk} {H H1 : List Chunk} : DropRows H H1 -> DropRows (x :: H) (x :: H1)
theorem DropRows.sub {H H1 : List Chunk} (d : DropRows H H1) : SubH H1 H := by
  induction d with
  | nil => exact SubH.rfl_ _
  | drop _ ih => obtain ⟨C, hC⟩ := ih; exact ⟨_ :: C, (List.Perm.cons _ hC).trans List.perm_middle.symm⟩
  | keep _ ih => obtain ⟨C, hC⟩ := ih; exact ⟨C, List.Perm.cons _ hC⟩
theorem SubH.head (x : Chunk) (l : List Chunk) : SubH [x] (x :: l) := ⟨l, by simp⟩
theorem SubH.trans {A B C : List Chunk} (h : SubH A B) (k : SubH B C) : SubH A C := by
  obtain ⟨X, hX⟩ := h
  obtain ⟨Y, hY⟩ := k
  exact ⟨X ++ Y, hY.trans (by rw [<- List.append_assoc]; exact List.Perm.append_right _ hX)⟩
inductive DropS (f : Fr) : List (Option Nat) -> List Chunk -> List Chunk -> Prop
  | nil {H : List Chunk} : DropS f [] H H
  | rows {l : List (Option Nat)} {H H1 H2 : List Chunk} : DropRows H H1 -> DropS f l H1 H2 -> DropS f (none :: l) H H2
  | cons {s : Nat} {l : List (Option Nat)} {g o : Nat} {cs : List Value} {e : TypeId} {H H1 H2 : List Chunk} : Fr.get f s = some (.pointer (some ⟨g, o, none⟩)) -> Take (.blk g cs e) H H1 -> DropS f l H1 H2 -> DropS f (some s :: l) H H2
  | skip {s : Nat} {l : List (Option Nat)} {H H1 : List Chunk} : DropS f l H H1 -> DropS f (some s :: l) H H1
theorem DropS.sub {f : Fr} {l : List (Option Nat)} {H H1 : List Chunk} (d : DropS f l H H1) : SubH H1 H := by
  induction d with
  | nil => exact SubH.rfl_ _
  | rows r _ ih => exact ih.trans r.sub
  | cons _ t _ ih =>
    obtain ⟨C, hC⟩ := ih
    exact ⟨_ :: C, t.perm.trans ((List.Perm.cons _ hC).trans List.perm_middle.symm)⟩
  | skip _ ih => exact ih
theorem G.anyAutoX (sl : Nat -> Bool) {l0 : List Oper} {h0 : Heap} {H1 : List Chunk} {done done' idx : List Nat} {o : Oper} {l : List Oper} {ss : List (Option Nat)} (hss : stSlots l0 l0 = some ss) (hx : autoGo sl l0 0 done = some (o :: l, idx, done'))
    (hs : (Region.noSelect l0.toArray && takeOkC l0.toArray (l0.length - done.length) done idx) = true) (hh : Heap.le h0 h) (hd : DropS f ss H H1)
    (g : G E (.ops (.held h H1) l0.toArray (o :: l) :: .back h H :: .any h H1 l0.toArray done' :: k) f h H1) : G E (.any h0 [] l0.toArray done :: k) f h H := by
  obtain ⟨p1, p2⟩ := autoGo_spec (l0 := l0) l0 0 done _ _ _ hx (fun j => by simp)
  exact G.anyTake p1 p2 hs hh (SubH.nil _) hd.sub g

def rdyL : List Oper -> Nat -> List Nat -> Option (List (Nat × Oper))
  | [], _, _ => some []
  | o :: r, i, done => match rdyL r (i + 1) done with
    | some l => bif !inL i done && edgesIn done o.after.toList then some ((i, o) :: l) else some l
    | none => none
theorem rdyL_spec {l0 : List Oper} : ∀ (r : List Oper) (i : Nat) (done : List Nat) (l : List (Nat × Oper)), rdyL r i done = some l -> (∀ j, r[j]? = l0[i + j]?) -> ∀ x ∈ l, l0[x.1]? = some x.2
  | [], i, done, l, h, _, x, hx => by simp [rdyL] at h; subst h; simp at hx
  | o :: r, i, done, l, h, hr, x, hx => by
    have hr' : ∀ j, r[j]? = l0[i + 1 + j]? := fun j => by rw [show i + 1 + j = i + (j + 1) by omega, ← hr (j + 1)]; simp
    simp only [rdyL] at h
    split at h
    . rename_i l' he
      have ih := rdyL_spec r (i + 1) done l' he hr'
      cases hc : (!inL i done && edgesIn done o.after.toList) with
      | true =>
        rw [hc] at h
        simp only [cond_true, Option.some.injEq] at h
        subst h
        rcases List.mem_cons.1 hx with rfl | hx
        . show l0[i]? = some o
          rw [<- Nat.add_zero i, ← hr 0]; rfl
        . exact ih x hx
      | false =>
        rw [hc] at h
        simp only [cond_false, Option.some.injEq] at h
        subst h
        exact ih x hx
    . cases h
theorem fuel_step {n : Nat} {done : List Nat} {i : Nat} (h : Nat.blt done.length n = true) : n - done.length = (n - (i :: done).length) + 1 := by
  rw [Nat.blt_eq] at h
  simp only [List.length_cons]; omega
theorem last_ok {all : Array Oper} {S : Prop} (hS : S) : ∀ done, lastOk all S done
  | [] => trivial
  | _ :: _ => fun _ => hS
theorem G.anyOne {l0 : List Oper} {h0 : Heap} {H0 : List Chunk} {done : List Nat} {i : Nat} {o : Oper} (ho : rdyL l0 0 done = some [(i, o)]) (hr : (Nat.blt done.length l0.length && Region.ready .any l0.toArray (lst l0.length done) == [i]) = true)
    (hh : Heap.le h0 h) (hs1 : SubH H0 H)
    (g : G E (.ops .seq l0.toArray [o] :: .any h0 H0 l0.toArray (i :: done) :: k) f h H) : G E (.any h0 H0 l0.toArray done :: k) f h H := by
  rw [Bool.and_eq_true] at hr
  have ho' := rdyL_spec (l0 := l0) l0 0 done _ ho (fun j => by simp) (i, o) (by simp)
  refine ⟨fun a w ha hw => ⟨last_ok (hw.toI.weak hh hs1) _, ?_⟩⟩
  have hf := fuel_step (n := l0.toArray.size) (i := i) (by simpa using hr.1)
  rw [hf]
  refine wpAnyS_all (rs := [i]) (by simpa using hr.2) (by simp) fun j hj => ?_
  simp at hj
  subst hj
  exact any_step (by simpa using ho') (g.run a w ha hw)
theorem G.anyTwo {l0 : List Oper} {h0 : Heap} {H0 : List Chunk} {done : List Nat} {i j : Nat} {o p : Oper} (ho : rdyL l0 0 done = some [(i, o), (j, p)]) (hr : (Nat.blt done.length l0.length && Region.ready .any l0.toArray (lst l0.length done) == [i, j]) = true)
    (hh : Heap.le h0 h) (hs1 : SubH H0 H)
    (g : G E (.ops .seq l0.toArray [o] :: .any h0 H0 l0.toArray (i :: done) :: k) f h H) (g' : G E (.ops .seq l0.toArray [p] :: .any h0 H0 l0.toArray (j :: done) :: k) f h H) : G E (.any h0 H0 l0.toArray done :: k) f h H := by
  rw [Bool.and_eq_true] at hr
  have ho' := rdyL_spec (l0 := l0) l0 0 done _ ho (fun j => by simp) (i, o) (by simp)
  have hp' := rdyL_spec (l0 := l0) l0 0 done _ ho (fun j => by simp) (j, p) (by simp)
  refine ⟨fun a w ha hw => ⟨last_ok (hw.toI.weak hh hs1) _, ?_⟩⟩
  have hf := fuel_step (n := l0.toArray.size) (i := i) (by simpa using hr.1)
  rw [hf]
  refine wpAnyS_all (rs := [i, j]) (by simpa using hr.2) (by simp) fun q hq => ?_
  simp at hq
  rcases hq with rfl | rfl
  . exact any_step (by simpa using ho') (g.run a w ha hw)
  . exact any_step (by simpa using hp') (g'.run a w ha hw)
theorem G.anyEnd {l0 : List Oper} {h0 : Heap} {H0 : List Chunk} {done : List Nat} (hr : (Region.ready .any l0.toArray (lst l0.length done)).isEmpty = true) (hh : Heap.le h0 h) (hs1 : SubH H0 H) (g : G E k f h H) :
    G E (.any h0 H0 l0.toArray done :: k) f h H :=
  ⟨fun a w ha hw => ⟨last_ok (hw.toI.weak hh hs1) _, wpAnyS_done (by simpa using hr) (g.run a w ha hw) _⟩⟩
theorem G.anyEndX {l0 : List Oper} {h0 : Heap} {H0 : List Chunk} {i : Nat} {done : List Nat} (hr : ((Region.ready .any l0.toArray (lst l0.length (i :: done))).isEmpty && sinkOp l0.toArray i) = true) (g : G E k f h H) :
    G E (.any h0 H0 l0.toArray (i :: done) :: k) f h H := by
  rw [Bool.and_eq_true] at hr
  exact ⟨fun a w ha hw => ⟨fun e => (by rw [hr.2] at e; cases e), wpAnyS_done (by simpa using hr.1) (g.run a w ha hw) _⟩⟩
theorem Heap.none_le (h : Heap) : Heap.le (fun _ => none) h := fun _ _ e => by cases e
theorem G.atAny {h0 : Heap} {H0 : List Chunk} {all : Array Oper} {done : List Nat} (g : G E (.any h0 H0 all done :: k) f h H) : G E (.any h0 H0 all done :: k) f h H := g

def gslot (l : List Oper) (j : Nat) : Option Nat := match l[j]? with | some o => o.dst | none => none
theorem yielded_of {l : List Oper} {j s : Nat} {b : Bool} {a : Act} (hs : gslot l j = some s) (ha : FSat E.n f a) (hg : Fr.get f s = some (.bool b)) : yielded l.toArray a.tmps j = some b := by
  have h1 := ha.get s _ hg
  have hlt : s < a.tmps.size := by
    rcases Nat.lt_or_ge s a.tmps.size with hl | hl
    . exact hl
    . rw [Array.getD_eq_getD_getElem?, Array.getElem?_eq_none hl] at h1; simp [undef] at h1
  have h2 : a.tmps[s]? = some (.bool b) := by
    rw [Array.getD_eq_getD_getElem?, Array.getElem?_eq_getElem hlt] at h1
    rw [Array.getElem?_eq_getElem hlt]; simpa using h1
  unfold gslot at hs
  unfold yielded
  simp only [List.getElem?_toArray]
  cases hl : l[j]? with
  | none => rw [hl] at hs; cases hs
  | some o => rw [hl] at hs; simp only at hs; simp [hs, h2]

theorem G.guard {st : Md} {l : List Oper} {rest : List Oper} {op : Op} {d : Option Nat} {ty : TypeId} {pos : String} {aft : Array Edge} {j s : Nat} {want b : Bool}
    (hs : gslot l j = some s) (hg : Fr.get f s = some (.bool b))
    (yes : b = want -> G E (.ops st l.toArray (⟨d, op, ty, pos, aft, none⟩ :: rest) :: k) ((s, .bool want) :: f) h H)
    (no : b = !want -> G E (.ops st l.toArray rest :: k) ((s, .bool (!want)) :: f) h H) (hfr : ∀ i, d = some i -> Fr.get ((s, .bool (!want)) :: f) i = none) :
    G E (.ops st l.toArray (⟨d, op, ty, pos, aft, some (j, want)⟩ :: rest) :: k) f h H := by
  refine ⟨fun a w ha hw => ?_⟩
  have hy := yielded_of (E := E) hs ha hg
  have hcons := ha.cons s _ (ha.get s _ hg)
  by_cases hb : b = want
  . subst hb
    have := (yes rfl).run a w hcons hw
    cases st with
    | seq =>
      have h1 : wpList E.P l.toArray (den E k) (⟨d, op, ty, pos, aft, none⟩ :: rest) a w := this
      show wpList E.P l.toArray (den E k) (⟨d, op, ty, pos, aft, some (j, b)⟩ :: rest) a w
      unfold wpList at h1 ⊢
      have hw1 : Region.wanted ⟨d, op, ty, pos, aft, some (j, b)⟩ (yielded l.toArray a.tmps) = true := by simp [Region.wanted, hy]
      have hw2 : Region.wanted ⟨d, op, ty, pos, aft, none⟩ (yielded l.toArray a.tmps) = true := rfl
      rw [if_pos hw1]
      rw [if_pos hw2] at h1
      exact h1
    | held h0 H0 =>
      obtain ⟨v, hy1, hr⟩ := this
      refine ⟨v, ?_, hr⟩
      rcases hy1 with ⟨_, h2⟩ | ⟨h2, _⟩
      . exact .inl ⟨by simp [Region.wanted, hy], h2⟩
      . simp [Region.wanted] at h2
    | still tail =>
      have h1 : wpStill E.P l.toArray w (fun a' => wpList E.P l.toArray (den E k) tail a' w) (⟨d, op, ty, pos, aft, none⟩ :: rest) a := this
      show wpStill E.P l.toArray w (fun a' => wpList E.P l.toArray (den E k) tail a' w) (⟨d, op, ty, pos, aft, some (j, b)⟩ :: rest) a
      unfold wpStill at h1 ⊢
      have hw1 : Region.wanted ⟨d, op, ty, pos, aft, some (j, b)⟩ (yielded l.toArray a.tmps) = true := by simp [Region.wanted, hy]
      have hw2 : Region.wanted ⟨d, op, ty, pos, aft, none⟩ (yielded l.toArray a.tmps) = true := rfl
      rw [if_pos hw1]
      rw [if_pos hw2] at h1
      exact h1
  . have hb' : b = !want := by cases b <;> cases want <;> simp_all
    subst hb'
    have := (no rfl).run _ w (hcons.putU d undef hfr) hw
    have hw1 : ¬ Region.wanted ⟨d, op, ty, pos, aft, some (j, want)⟩ (yielded l.toArray a.tmps) = true := by
      simp [Region.wanted, hy]
    cases st with
    | seq =>
      show wpList E.P l.toArray (den E k) (⟨d, op, ty, pos, aft, some (j, want)⟩ :: rest) a w
      unfold wpList
      rw [if_neg hw1]
      exact this
    | held h0 H0 => exact ⟨undef, .inr ⟨by simpa using hw1, rfl⟩, this⟩
    | still tail =>
      show wpStill E.P l.toArray w (fun a' => wpList E.P l.toArray (den E k) tail a' w) (⟨d, op, ty, pos, aft, some (j, want)⟩ :: rest) a
      unfold wpStill
      rw [if_neg hw1]
      exact this
theorem G.guardYes {st : Md} {l : List Oper} {rest : List Oper} {op : Op} {d : Option Nat} {ty : TypeId} {pos : String} {aft : Array Edge} {j s : Nat}  {want : Bool}
    (hs : gslot l j = some s) (hg : Fr.get f s = some (.bool want)) (yes : G E (.ops st l.toArray (⟨d, op, ty, pos, aft, none⟩ :: rest) :: k) f h H) :
    G E (.ops st l.toArray (⟨d, op, ty, pos, aft, some (j, want)⟩ :: rest) :: k) f h H := by
  refine ⟨fun a w ha hw => ?_⟩
  have hy := yielded_of (E := E) hs ha hg
  have hw1 : Region.wanted ⟨d, op, ty, pos, aft, some (j, want)⟩ (yielded l.toArray a.tmps) = true := by simp [Region.wanted, hy]
  have hw2 : Region.wanted ⟨d, op, ty, pos, aft, none⟩ (yielded l.toArray a.tmps) = true := rfl
  have := yes.run a w ha hw
  cases st with
  | seq =>
    have h1 : wpList E.P l.toArray (den E k) (⟨d, op, ty, pos, aft, none⟩ :: rest) a w := this
    show wpList E.P l.toArray (den E k) (⟨d, op, ty, pos, aft, some (j, want)⟩ :: rest) a w
    unfold wpList at h1 ⊢
    rw [if_pos hw1]
    rw [if_pos hw2] at h1
    exact h1
  | held h0 H0 =>
    obtain ⟨v, hy1, hr⟩ := this
    refine ⟨v, ?_, hr⟩
    rcases hy1 with ⟨_, h2⟩ | ⟨h2, _⟩
    . exact .inl ⟨hw1, h2⟩
    . rw [hw2] at h2; cases h2
  | still tail =>
    have h1 : wpStill E.P l.toArray w (fun a' => wpList E.P l.toArray (den E k) tail a' w) (⟨d, op, ty, pos, aft, none⟩ :: rest) a := this
    show wpStill E.P l.toArray w (fun a' => wpList E.P l.toArray (den E k) tail a' w) (⟨d, op, ty, pos, aft, some (j, want)⟩ :: rest) a
    unfold wpStill at h1 ⊢
    rw [if_pos hw1]
    rw [if_pos hw2] at h1
    exact h1
theorem G.guardNo {st : Md} {l : List Oper} {rest : List Oper} {op : Op} {d : Option Nat} {ty : TypeId} {pos : String} {aft : Array Edge} {j s : Nat}  {want : Bool}
    (hs : gslot l j = some s) (hg : Fr.get f s = some (.bool (!want))) (no : G E (.ops st l.toArray rest :: k) f h H) (hfr : ∀ i, d = some i -> Fr.get f i = none) :
    G E (.ops st l.toArray (⟨d, op, ty, pos, aft, some (j, want)⟩ :: rest) :: k) f h H := by
  refine ⟨fun a w ha hw => ?_⟩
  have hy := yielded_of (E := E) hs ha hg
  have hw1 : ¬ Region.wanted ⟨d, op, ty, pos, aft, some (j, want)⟩ (yielded l.toArray a.tmps) = true := by
    cases want <;> simp [Region.wanted, hy]
  have := no.run _ w (ha.putU d undef hfr) hw
  cases st with
  | seq =>
    show wpList E.P l.toArray (den E k) (⟨d, op, ty, pos, aft, some (j, want)⟩ :: rest) a w
    unfold wpList
    rw [if_neg hw1]
    exact this
  | held h0 H0 => exact ⟨undef, .inr ⟨by simpa using hw1, rfl⟩, this⟩
  | still tail =>
    show wpStill E.P l.toArray w (fun a' => wpList E.P l.toArray (den E k) tail a' w) (⟨d, op, ty, pos, aft, some (j, want)⟩ :: rest) a
    unfold wpStill
    rw [if_neg hw1]
    exact this

theorem G.guardS {st : Md} {l : List Oper} {rest : List Oper} {op : Op} {d : Nat} {ty : TypeId} {pos : String} {aft : Array Edge} {j s : Nat} {want b : Bool}
    (hs : gslot l j = some s) (hg : Fr.get f s = some (.bool b)) (hd : Nat.blt d E.n = true)
    (yes : b = want -> G E (.ops st l.toArray (⟨some d, op, ty, pos, aft, none⟩ :: rest) :: k) ((s, .bool want) :: f) h H)
    (no : b = !want -> G E (.ops st l.toArray rest :: k) ((d, undef) :: (s, .bool (!want)) :: f) h H) :
    G E (.ops st l.toArray (⟨some d, op, ty, pos, aft, some (j, want)⟩ :: rest) :: k) f h H := by
  refine ⟨fun a w ha hw => ?_⟩
  by_cases hb : b = want
  . subst hb
    exact (G.guardYes (E := E) (f := (s, .bool b) :: f) hs (by simp [Fr.get]) (yes rfl)).run a w (ha.cons s _ (ha.get s _ hg)) hw
  . have hb' : b = !want := by cases b <;> cases want <;> simp_all
    subst hb'
    have hy := yielded_of (E := E) hs ha hg
    have hw1 : ¬ Region.wanted ⟨some d, op, ty, pos, aft, some (j, want)⟩ (yielded l.toArray a.tmps) = true := by simp [Region.wanted, hy]
    have hcons := ha.cons s _ (ha.get s _ hg)
    have := (no rfl).run _ w (hcons.put d undef hd) hw
    cases st with
    | seq =>
      show wpList E.P l.toArray (den E k) (⟨some d, op, ty, pos, aft, some (j, want)⟩ :: rest) a w
      unfold wpList
      rw [if_neg hw1]
      exact this
    | held h0 H0 => exact ⟨undef, .inr ⟨by simpa using hw1, rfl⟩, this⟩
    | still tail =>
      show wpStill E.P l.toArray w (fun a' => wpList E.P l.toArray (den E k) tail a' w) (⟨some d, op, ty, pos, aft, some (j, want)⟩ :: rest) a
      unfold wpStill
      rw [if_neg hw1]
      exact this
theorem G.guardNoS {st : Md} {l : List Oper} {rest : List Oper} {op : Op} {d : Nat} {ty : TypeId} {pos : String} {aft : Array Edge} {j s : Nat} {want : Bool}
    (hs : gslot l j = some s) (hg : Fr.get f s = some (.bool (!want))) (hd : Nat.blt d E.n = true) (no : G E (.ops st l.toArray rest :: k) ((d, undef) :: f) h H) :
    G E (.ops st l.toArray (⟨some d, op, ty, pos, aft, some (j, want)⟩ :: rest) :: k) f h H := by
  refine ⟨fun a w ha hw => ?_⟩
  have hy := yielded_of (E := E) hs ha hg
  have hw1 : ¬ Region.wanted ⟨some d, op, ty, pos, aft, some (j, want)⟩ (yielded l.toArray a.tmps) = true := by
    cases want <;> simp [Region.wanted, hy]
  have := no.run _ w (ha.put d undef hd) hw
  cases st with
  | seq =>
    show wpList E.P l.toArray (den E k) (⟨some d, op, ty, pos, aft, some (j, want)⟩ :: rest) a w
    unfold wpList
    rw [if_neg hw1]
    exact this
  | held h0 H0 => exact ⟨undef, .inr ⟨by simpa using hw1, rfl⟩, this⟩
  | still tail =>
    show wpStill E.P l.toArray w (fun a' => wpList E.P l.toArray (den E k) tail a' w) (⟨some d, op, ty, pos, aft, some (j, want)⟩ :: rest) a
    unfold wpStill
    rw [if_neg hw1]
    exact this
theorem G.guardU {st : Md} {l : List Oper} {rest : List Oper} {op : Op} {d : Nat} {ty : TypeId} {pos : String} {aft : Array Edge} {j s : Nat} {want : Bool}
    (hs : gslot l j = some s) (hg : Fr.get f s = some undef) (hd : Nat.blt d E.n = true) (no : G E (.ops st l.toArray rest :: k) ((d, undef) :: f) h H) :
    G E (.ops st l.toArray (⟨some d, op, ty, pos, aft, some (j, want)⟩ :: rest) :: k) f h H := by
  refine ⟨fun a w ha hw => ?_⟩
  have hy : yielded l.toArray a.tmps j = none := by
    have h1 := ha.get s _ hg
    have hb : ∀ b, a.tmps[s]? ≠ some (.bool b) := fun b e => by rw [Array.getD_eq_getD_getElem?, e] at h1; cases h1
    unfold gslot at hs
    unfold yielded
    simp only [List.getElem?_toArray]
    cases hl : l[j]? with
    | none => rfl
    | some o =>
      rw [hl] at hs
      simp only at hs
      simp only [hs, Option.bind_some]
  have hw1 : ¬ Region.wanted ⟨some d, op, ty, pos, aft, some (j, want)⟩ (yielded l.toArray a.tmps) = true := by
    cases want <;> simp [Region.wanted, hy]
  have := no.run _ w (ha.put d undef hd) hw
  cases st with
  | seq =>
    show wpList E.P l.toArray (den E k) (⟨some d, op, ty, pos, aft, some (j, want)⟩ :: rest) a w
    unfold wpList
    rw [if_neg hw1]
    exact this
  | held h0 H0 => exact ⟨undef, .inr ⟨by simpa using hw1, rfl⟩, this⟩
  | still tail =>
    show wpStill E.P l.toArray w (fun a' => wpList E.P l.toArray (den E k) tail a' w) (⟨some d, op, ty, pos, aft, some (j, want)⟩ :: rest) a
    unfold wpStill
    rw [if_neg hw1]
    exact this
theorem G.stopBlk (id : Nat) {b y : Code} (g : G E (.stop (.seq (.block id b) y) :: k) f h H) : G E (.code (.seq (.block id b) y) :: k) f h H := ⟨fun a w ha hw => g.run a w ha hw⟩
end
end Go.Proofs.YtibkffoeioidlaaDoor
