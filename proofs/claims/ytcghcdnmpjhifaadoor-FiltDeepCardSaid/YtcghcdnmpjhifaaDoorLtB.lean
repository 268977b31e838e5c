/- The judgement 'G' of the light walk, its rules for control and for operations that only compute. -/
import Derived.Test.YtcghcdnmpjhifaaDoorLtA
import Derived.OrdersHeld
namespace Go.Proofs.YtcghcdnmpjhifaaDoor
set_option linter.all false
open Go.RowKit

/-- How the listed operations are run: one behind the other; those that leave memory alone in any order and then the tail; taken first, over every memory of that make. -/
inductive Md where
  | seq
  | still (tail : List Oper)
  | held (h0 : Heap) (H0 : List Chunk)
class OkMd (st : Md) (h : Heap) (H : List Chunk) : Prop where
  ok : ∀ h0 H0, st = .held h0 H0 → h0 = h ∧ H0 = H
instance okSeq (h : Heap) (H : List Chunk) : OkMd .seq h H := ⟨fun _ _ e => by cases e⟩
instance okStill (t : List Oper) (h : Heap) (H : List Chunk) : OkMd (.still t) h H := ⟨fun _ _ e => by cases e⟩
instance okHeld (h : Heap) (H : List Chunk) : OkMd (.held h H) h H := ⟨fun _ _ e => by cases e; exact ⟨rfl, rfl⟩⟩

inductive It where
  | code (c : Code)
  | blk (id : Nat)
  | ops (st : Md) (all : Array Oper) (l : List Oper)
  | cut (J : Fr → Heap → List Chunk → Prop)
  | any (h0 : Heap) (H0 : List Chunk) (all : Array Oper) (listed : List Nat)
  | back (h : Heap) (H : List Chunk)
  | stop (c : Code)
  | sco

def lst (n : Nat) : List Nat → Array Bool
  | [] => Array.replicate n false
  | i :: r => (lst n r).setIfInBounds i true

structure Env where
  P : Program
  fn : Func
  n : Nat
  c : Ctx
  R : Value → Heap → List Chunk → Prop

def Env.post (E : Env) : Ending → World → Prop := fun e w' => ∃ v h' H', e = .returned v ∧ E.R v h' H' ∧ St E.c h' H' w'

def Held (E : Env) (J : Fr → Heap → List Chunk → Prop) : Act → World → Prop := fun a w => ∃ f h H, J f h H ∧ FSat E.n f a ∧ St E.c h H w

/-- It waits for j, itself or through others. -/
def ancOp (ops : Array Oper) : Nat → Nat → Nat → Bool
  | 0, _, _ => false
  | n + 1, i, j => match ops[i]? with
    | none => false
    | some o => o.after.any fun e => Region.binds .any e && (e.on == j || ancOp ops n e.on j)
/-- Each other one comes up ahead of it, or behind it. -/
def sinkOp (ops : Array Oper) (i : Nat) : Bool := match ops[i]? with
  | none => false
  | some _ => (List.range ops.size).all fun j => j == i || ancOp ops 3 i j || ancOp ops 3 j i
/-- What is listed came up behind all that it waits for. -/
def Closed (ops : Array Oper) (listed : Array Bool) : Prop := ∀ j o, ops[j]? = some o → listed.getD j false = true → ∀ e ∈ o.after, Region.binds .any e = true → listed.getD e.on false = true
theorem Closed.set {ops : Array Oper} {listed : Array Bool} (hc : Closed ops listed) {i : Nat} (hr : i ∈ Region.ready .any ops listed) : Closed ops (listed.setIfInBounds i true) := by
  obtain ⟨_, oi, hoi, hall⟩ := mem_ready.1 hr
  have hm : ∀ j, listed.getD j false = true → (listed.setIfInBounds i true).getD j false = true := fun j hj => by
    simp only [Array.getD_eq_getD_getElem?, Array.getElem?_setIfInBounds] at *
    by_cases hij : i = j
    · subst hij
      rcases Nat.lt_or_ge i listed.size with h1 | h1
      · simp [h1]
      · rw [Array.getElem?_eq_none h1] at hj; simp at hj
    · simpa [hij] using hj
  intro j o ho hj e he hb
  refine hm _ ?_
  by_cases hij : i = j
  · subst hij
    rw [hoi] at ho
    injection ho with ho
    subst ho
    exact hall e he hb
  · refine hc j o ho ?_ e he hb
    simp only [Array.getD_eq_getD_getElem?, Array.getElem?_setIfInBounds] at *
    simpa [hij] using hj
/-- Whatever order is picked from here on; S holds behind every operation, but for one that waits for all others. -/
def wpAnyS (P : Program) (ops : Array Oper) (Q : Exit → Act → World → Prop) (S : World → Prop) : Nat → Array Bool → Act → World → Prop
  | 0, listed, a, w => Region.ready .any ops listed = [] ∧ Q .normal a w
  | fuel + 1, listed, a, w =>
    (Region.ready .any ops listed = [] → Q .normal a w) ∧
    ∀ i ∈ Region.ready .any ops listed, wpOp P ops Q i (fun a' w' => (sinkOp ops i = false → S w') ∧ wpAnyS P ops Q S fuel (listed.setIfInBounds i true) a' w') a w
/-- Behind the last one that came up S holds, if it isn't one that waits for all others. -/
def lastOk (all : Array Oper) (S : Prop) : List Nat → Prop
  | [] => True
  | i :: _ => sinkOp all i = false → S

/-- Each of these may be taken first: its value is the same over every memory that meets S. -/
def wpTk (P : Program) (all : Array Oper) (S : World → Prop) (Q : Act → Prop) : List Oper → Act → Prop
  | [], a => Q a
  | o :: l, a => ∃ v, YieldsIf P all S o v a ∧ wpTk P all S Q l (a.put o.dst v)

def den (E : Env) : List It → Exit → Act → World → Prop
  | [] => bodyPost E.P E.fn E.post
  | .code y :: k => Exit.then (y.wp E.P (den E k)) (den E k)
  | .blk id :: k => Exit.inBlock id (den E k)
  | .ops .seq all l :: k => Exit.then (fun a w => wpList E.P all (den E k) l a w) (den E k)
  | .ops (.still tail) all l :: k => Exit.then (fun a w => wpStill E.P all w (fun a' => wpList E.P all (den E k) tail a' w) l a) (den E k)
  | .ops (.held h0 H0) all l :: k => Exit.then (fun a w => wpTk E.P all (StI h0 H0) (fun a' => den E k .normal a' w) l a) (den E k)
  | .any h0 H0 all listed :: k => Exit.then (fun a w => lastOk all (StI h0 H0 w) listed ∧ wpAnyS E.P all (den E k) (StI h0 H0) (all.size - listed.length) (lst all.size listed) a w) (den E k)
  | .back h H :: k => Exit.then (fun a w => St E.c h H w → den E k .normal a w) (den E k)
  | .stop c :: k => Exit.then (c.wp E.P (den E k)) (den E k)
  | .sco :: k => Exit.noGoto (den E k)
  | .cut J :: k => Exit.then (Held E J) (den E k)

structure G (E : Env) (k : List It) (f : Fr) (h : Heap) (H : List Chunk) : Prop where
  run : ∀ a w, FSat E.n f a → St E.c h H w → den E k .normal a w

def argFr : Nat → List Value → Fr
  | _, [] => []
  | i, v :: r => (i, v) :: argFr (i + 1) r

theorem argFr_get : ∀ (l : List Value) (j i : Nat) (v : Value), Fr.get (argFr j l) i = some v → j ≤ i ∧ l[i - j]? = some v
  | [], _, _, _, h => by cases h
  | u :: r, j, i, v, h => by
    simp only [argFr, Fr.get] at h
    cases hb : Nat.beq j i with
    | true =>
      rw [hb] at h
      have := Nat.eq_of_beq_eq_true hb
      subst this
      simp at h
      subst h
      simp
    | false =>
      rw [hb] at h
      obtain ⟨h1, h2⟩ := argFr_get r (j + 1) i v h
      refine ⟨by omega, ?_⟩
      rw [show i - j = (i - (j + 1)) + 1 by omega]
      simpa using h2

theorem Spec.enter {P : Program} {g : FuncId} {fn : Func} {c : Code} {args : List Value} {h : Heap} {H : List Chunk} {R : Value → Heap → List Chunk → Prop}
    (hf : P.funcs[g]? = some fn) (hb : fn.body = some c) (hn : Nat.ble args.length fn.ntmps = true)
    (hg : ∀ w0, G ⟨P, fn, fn.ntmps, ⟨w0, keys H, h⟩, R⟩ [.code c] (argFr 0 args) h H) : Spec P g args h H R := by
  refine ⟨fun w hw => ?_⟩
  refine calls_of_wp hf hb ?_
  have hn' : args.length ≤ fn.ntmps := by simpa [Nat.ble_eq] using hn
  refine (hg w).run _ w ⟨by simp; omega, rfl, fun i v hv => ?_⟩ hw.start
  obtain ⟨_, h2⟩ := argFr_get args 0 i v hv
  simp only [Nat.sub_zero] at h2
  have hi : i < args.length := (List.getElem?_eq_some_iff.1 h2).1
  rw [Array.getD_eq_getD_getElem?, Array.getElem?_append_left (by simpa using hi)]
  simp only [List.getElem?_toArray, h2, Option.getD_some]

section
variable {E : Env} {k : List It} {f : Fr} {h : Heap} {H : List Chunk}

theorem G.seq {x y : Code} (g : G E (.code x :: .code y :: k) f h H) : G E (.code (.seq x y) :: k) f h H := ⟨fun a w ha hw => wp_seq (g.run a w ha hw)⟩
theorem G.block {id : Nat} {x : Code} (g : G E (.code x :: .blk id :: k) f h H) : G E (.code (.block id x) :: k) f h H := ⟨fun a w ha hw => wp_block (g.run a w ha hw)⟩
theorem G.endBlk {id : Nat} (g : G E k f h H) : G E (.blk id :: k) f h H := ⟨fun a w ha hw => g.run a w ha hw⟩
/-- A scope through which the run goes without a jump. -/
theorem G.scope {c : Code} (g : G E (.code c :: .sco :: k) f h H) : G E (.code (.scope c) :: k) f h H := ⟨fun a w ha hw => wp_scope_straight (wp_mono (g.run a w ha hw) (fun e a w q => by cases e <;> exact q))⟩
theorem G.skip (g : G E k f h H) : G E (.code .skip :: k) f h H := ⟨fun a w ha hw => wp_skip (g.run a w ha hw)⟩
theorem G.region {id : Nat} {l : List Oper} (g : G E (.ops .seq l.toArray l :: k) f h H) : G E (.code (.region id l.toArray false) :: k) f h H := ⟨fun a w ha hw => wp_region_lit (g.run a w ha hw)⟩
theorem G.endOps {all : Array Oper} (g : G E k f h H) : G E (.ops .seq all [] :: k) f h H := ⟨fun a w ha hw => wpList_nil (P := E.P) (ops := all) (Q := den E k) (g.run a w ha hw)⟩
theorem G.cond {c : Operand} {x y : Code} {b : Bool} (hc : ev f c = some (.bool b)) (ht : b = true → G E (.code x :: k) f h H) (hf : b = false → G E (.code y :: k) f h H) :
    G E (.code (.cond c x y) :: k) f h H := ⟨fun a w ha hw => wp_cond_split (ev_eq ha hc) (fun e => (ht e).run a w ha hw) (fun e => (hf e).run a w ha hw)⟩
theorem G.cut {J : Fr → Heap → List Chunk → Prop} (hj : J f h H) : G E (.cut J :: k) f h H := ⟨fun _ _ ha hw => ⟨f, h, H, hj, ha, hw⟩⟩
theorem G.chunks {H' : List Chunk} (hH : SubH H' H) (gg : G E k f h H') : G E k f h H := ⟨fun a w ha hw => gg.run a w ha (hw.sub hH)⟩

theorem G.stopLoop {c : Code} (g : G E (.stop (.loop c) :: k) f h H) : G E (.code (.loop c) :: k) f h H := ⟨fun a w ha hw => g.run a w ha hw⟩
theorem G.go {c : Code} (g : G E (.code c :: k) f h H) : G E (.stop c :: k) f h H := ⟨fun a w ha hw => g.run a w ha hw⟩
theorem G.met {σ : Type} {fr : σ → Fr} {Hs : σ → List Chunk} {inv : σ → Heap → Prop} {h' : Heap} (y : σ) (h1 : SubFr (fr y) f) (h2 : SubH (Hs y) H) (hle : Heap.le h' h) (h3 : inv y h) :
    G E (.cut (fun f'' h'' H'' => ∃ y, SubFr (fr y) f'' ∧ SubH (Hs y) H'' ∧ Heap.le h' h'' ∧ inv y h'') :: k) f h H := G.cut ⟨y, h1, h2, hle, h3⟩
/-- A loop: σ is what its rounds are about. -/
theorem G.loop {c : Code} {σ : Type} (fr : σ → Fr) (Hs : σ → List Chunk) (inv : σ → Heap → Prop) (μ : σ → Nat) (x0 : σ)
    (h1 : SubFr (fr x0) f) (h2 : SubH (Hs x0) H) (h3 : inv x0 h)
    (round : ∀ x h', Heap.le h h' → inv x h' → G E (.code c :: .cut (fun f'' h'' H'' => ∃ y, μ y < μ x ∧ SubFr (fr y) f'' ∧ SubH (Hs y) H'' ∧ Heap.le h' h'' ∧ inv y h'') :: k) (fr x) h' (Hs x)) :
    G E (.code (.loop c) :: k) f h H := by
  refine ⟨fun a w ha hw => ?_⟩
  have key : ∀ n, ∀ x h' a w, μ x = n → Heap.le h h' → inv x h' → FSat E.n (fr x) a → St E.c h' (Hs x) w → (Code.loop c).wp E.P (den E k) a w := by
    intro n0 x0 hh0 a0 w0 hμ hle hinv hfs hst
    refine wp_loop (fun a w => ∃ x h', Heap.le h h' ∧ inv x h' ∧ FSat E.n (fr x) a ∧ St E.c h' (Hs x) w)
      (fun a w => Classical.epsilon (fun m => (∃ x h', Heap.le h h' ∧ inv x h' ∧ FSat E.n (fr x) a ∧ St E.c h' (Hs x) w ∧ μ x = m) ∧ ∀ m', (∃ x h', Heap.le h h' ∧ inv x h' ∧ FSat E.n (fr x) a ∧ St E.c h' (Hs x) w ∧ μ x = m') → m ≤ m'))
      ⟨x0, hh0, hle, hinv, hfs, hst⟩ ?_
    intro a w hI
    have least : ∀ a w, (∃ x h', Heap.le h h' ∧ inv x h' ∧ FSat E.n (fr x) a ∧ St E.c h' (Hs x) w) →
        ∃ m, (∃ x h', Heap.le h h' ∧ inv x h' ∧ FSat E.n (fr x) a ∧ St E.c h' (Hs x) w ∧ μ x = m) ∧ ∀ m', (∃ x h', Heap.le h h' ∧ inv x h' ∧ FSat E.n (fr x) a ∧ St E.c h' (Hs x) w ∧ μ x = m') → m ≤ m' := by
      intro a w ⟨x, h', p1, p2, p3, p4⟩
      have : ∀ n m, m ≤ n → (∃ x h', Heap.le h h' ∧ inv x h' ∧ FSat E.n (fr x) a ∧ St E.c h' (Hs x) w ∧ μ x = m) →
          ∃ m, (∃ x h', Heap.le h h' ∧ inv x h' ∧ FSat E.n (fr x) a ∧ St E.c h' (Hs x) w ∧ μ x = m) ∧ ∀ m', (∃ x h', Heap.le h h' ∧ inv x h' ∧ FSat E.n (fr x) a ∧ St E.c h' (Hs x) w ∧ μ x = m') → m ≤ m' := by
        intro n
        induction n with
        | zero => intro m hm hx; exact ⟨m, hx, fun m' _ => by omega⟩
        | succ n ih =>
          intro m hm hx
          by_cases hlt : ∃ m', m' < m ∧ (∃ x h', Heap.le h h' ∧ inv x h' ∧ FSat E.n (fr x) a ∧ St E.c h' (Hs x) w ∧ μ x = m')
          · obtain ⟨m', hlt, hx'⟩ := hlt
            exact ih m' (by omega) hx'
          · exact ⟨m, hx, fun m' hx' => by
              rcases Nat.lt_or_ge m' m with h1 | h1
              · exact absurd ⟨m', h1, hx'⟩ hlt
              · exact h1⟩
      exact this (μ x) (μ x) (Nat.le_refl _) ⟨x, h', p1, p2, p3, p4, rfl⟩
    have hl := Classical.epsilon_spec (least a w hI)
    obtain ⟨⟨x, h', p1, p2, p3, p4, p5⟩, pmin⟩ := hl
    rw [← p5]
    have hr := (round x h' p1 p2).run a w p3 p4
    refine wp_mono hr fun e a' w' q => ?_
    cases e with
    | normal =>
      obtain ⟨f'', h'', H'', ⟨y, hy, q1, q2, q3, q4⟩, q5, q6⟩ := q
      have hI' : ∃ x h', Heap.le h h' ∧ inv x h' ∧ FSat E.n (fr x) a' ∧ St E.c h' (Hs x) w' := ⟨y, h'', Heap.le_trans p1 q3, q4, q5.sub q1, q6.sub q2⟩
      refine ⟨hI', ?_⟩
      have hl' := Classical.epsilon_spec (least a' w' hI')
      have := hl'.2 (μ y) ⟨y, h'', Heap.le_trans p1 q3, q4, q5.sub q1, q6.sub q2, rfl⟩
      exact Nat.lt_of_le_of_lt this hy
    | _ => exact q
  exact key _ x0 h a w rfl (Heap.le_refl h) h3 (ha.sub h1) (hw.sub h2)

/-- The round's end. -/
theorem G.again {σ : Type} {fr : σ → Fr} {Hs : σ → List Chunk} {inv : σ → Heap → Prop} {μ : σ → Nat} {m : Nat} {h' : Heap} (y : σ) (h1 : SubFr (fr y) f) (h2 : SubH (Hs y) H) (h3 : inv y h) (hle : Heap.le h' h) (hm : μ y < m) :
    G E (.cut (fun f'' h'' H'' => ∃ y, μ y < m ∧ SubFr (fr y) f'' ∧ SubH (Hs y) H'' ∧ Heap.le h' h'' ∧ inv y h'') :: k) f h H := G.cut ⟨y, hm, h1, h2, hle, h3⟩

def popTo (id : Nat) : List It → Option (List It)
  | [] => none
  | .blk i :: k => bif Nat.beq i id then some k else popTo id k
  | _ :: k => popTo id k
theorem den_exit {id : Nat} {a : Act} {w : World} : ∀ {k k' : List It}, popTo id k = some k' → den E k' .normal a w → den E k (.exit id) a w
  | [], _, hp, _ => by cases hp
  | .blk i :: k, k', hp, hd => by
    simp only [popTo] at hp
    simp only [den, Exit.inBlock]
    cases hb : Nat.beq i id with
    | true =>
      rw [hb] at hp
      simp at hp
      subst hp
      have := Nat.eq_of_beq_eq_true hb
      rw [if_pos this.symm]
      exact hd
    | false =>
      rw [hb] at hp
      rw [if_neg (fun e => by subst e; simp at hb)]
      exact den_exit hp hd
  | .code _ :: k, _, hp, hd => den_exit (k := k) hp hd
  | .ops .seq _ _ :: k, _, hp, hd => den_exit (k := k) hp hd
  | .ops (.still _) _ _ :: k, _, hp, hd => den_exit (k := k) hp hd
  | .ops (.held _ _) _ _ :: k, _, hp, hd => den_exit (k := k) hp hd
  | .any _ _ _ _ :: k, _, hp, hd => den_exit (k := k) hp hd
  | .back _ _ :: k, _, hp, hd => den_exit (k := k) hp hd
  | .stop _ :: k, _, hp, hd => den_exit (k := k) hp hd
  | .sco :: k, _, hp, hd => den_exit (k := k) hp hd
  | .cut _ :: k, _, hp, hd => den_exit (k := k) hp hd
theorem G.exit {id : Nat} {k' : List It} (hp : popTo id k = some k') (g : G E k' f h H) : G E (.code (.exit id) :: k) f h H := ⟨fun a w ha hw => wp_exit (den_exit hp (g.run a w ha hw))⟩

theorem den_ret {a : Act} {w : World} (hb : bodyPost E.P E.fn E.post .ret a w) : ∀ k : List It, den E k .ret a w
  | [] => hb
  | .blk _ :: k => den_ret hb k
  | .code _ :: k => den_ret hb k
  | .ops .seq _ _ :: k => den_ret hb k
  | .ops (.still _) _ _ :: k => den_ret hb k
  | .ops (.held _ _) _ _ :: k => den_ret hb k
  | .any _ _ _ _ :: k => den_ret hb k
  | .back _ _ :: k => den_ret hb k
  | .stop _ :: k => den_ret hb k
  | .sco :: k => den_ret hb k
  | .cut _ :: k => den_ret hb k
theorem G.ret (g : G E [] f h H) : G E (.code .ret :: k) f h H := ⟨fun a w ha hw => wp_ret (den_ret (g.run a w ha hw) k)⟩

theorem FSat.tmps {n : Nat} {a : Act} (ha : FSat n f a) {t : Nat} {v : Value} (hg : Fr.get f t = some v) : a.tmps.getD t undef = v := ha.get t v hg

theorem G.done1 {t : Nat} {v : Value} (hr : E.fn.results = #[.tmp t]) (hg : Fr.get f t = some v) (H' : List Chunk) (hs : SubH H' H) (hR : E.R v h H') : G E [] f h H := by
  refine ⟨fun a w ha hw => ?_⟩
  refine ⟨ha.defers, _, results_tmp hr _ _ _, _, h, H', rfl, ?_, hw.sub hs⟩
  rw [ha.tmps hg]; exact hR
theorem G.done2 {t t' : Nat} {v v' : Value} (hr : E.fn.results = #[.tmp t, .tmp t']) (hg : Fr.get f t = some v) (hg' : Fr.get f t' = some v') (H' : List Chunk) (hs : SubH H' H)
    (hR : E.R (.tuple #[v, v']) h H') : G E [] f h H := by
  refine ⟨fun a w ha hw => ?_⟩
  refine ⟨ha.defers, _, results_tmp2 hr _ _ _, _, h, H', rfl, ?_, hw.sub hs⟩
  rw [ha.tmps hg, ha.tmps hg']; exact hR
theorem res3 {fn : Func} {t u v : Tmp} (h : fn.results = #[.tmp t, .tmp u, .tmp v]) (tmps : Array Value) (P : Program) (w : World) :
    (results fn tmps).run P w = .ok (.tuple #[tmps.getD t undef, tmps.getD u undef, tmps.getD v undef]) w := by simp [results, h]
theorem G.done3 {t t' t2 : Nat} {v v' v2 : Value} (hr : E.fn.results = #[.tmp t, .tmp t', .tmp t2]) (hg : Fr.get f t = some v) (hg' : Fr.get f t' = some v') (hg2 : Fr.get f t2 = some v2)
    (H' : List Chunk) (hs : SubH H' H) (hR : E.R (.tuple #[v, v', v2]) h H') : G E [] f h H := by
  refine ⟨fun a w ha hw => ?_⟩
  refine ⟨ha.defers, _, res3 hr _ _ _, _, h, H', rfl, ?_, hw.sub hs⟩
  rw [ha.tmps hg, ha.tmps hg', ha.tmps hg2]; exact hR

-- OPERATIONS
/-- Any operation that yields a value and may change the memory. -/
theorem G.opGen {all : Array Oper} {rest : List Oper} {op : Op} {d : Option Nat} {ty : TypeId} {pos : String} {aft : Array Edge}
    (s : ∀ a w, FSat E.n f a → St E.c h H w → ∃ nx w' f' h' H', (execOp a.eval ⟨d, op, ty, pos, aft, none⟩).run E.P w = .ok nx w' ∧
      ((∃ v, nx = .value v ∧ FSat E.n f' (a.put d v)) ∨ (nx = .skip ∧ FSat E.n f' (a.put d undef))) ∧ St E.c h' H' w' ∧ G E (.ops .seq all rest :: k) f' h' H') :
    G E (.ops .seq all (⟨d, op, ty, pos, aft, none⟩ :: rest) :: k) f h H := by
  refine ⟨fun a w ha hw => ?_⟩
  obtain ⟨nx, w', f', h', H', hrun, hnx, hst, g⟩ := s a w ha hw
  show wpList E.P all (den E k) (⟨d, op, ty, pos, aft, none⟩ :: rest) a w
  refine wpList_plain rfl fun K hK => ?_
  unfold Oper.wp
  rw [hrun]
  rcases hnx with ⟨v, rfl, hf⟩ | ⟨rfl, hf⟩
  · exact hK _ _ (g.run _ _ hf hst)
  · exact hK _ _ (g.run _ _ hf hst)

/-- An operation that yields a value and leaves memory alone. -/
theorem G.opVal {st : Md} [hk : OkMd st h H] {all : Array Oper} {rest : List Oper} {op : Op} {d : Nat} {ty : TypeId} {pos : String} {aft : Array Edge} {v : Value} (hd : Nat.blt d E.n = true)
    (s : ∀ c a w, FSat E.n f a → St c h H w → (execOp a.eval ⟨some d, op, ty, pos, aft, none⟩).run E.P w = .ok (.value v) w)
    (g : G E (.ops st all rest :: k) ((d, v) :: f) h H) :
    G E (.ops st all (⟨some d, op, ty, pos, aft, none⟩ :: rest) :: k) f h H := by
  cases st with
  | seq => exact G.opGen fun a w ha hw => ⟨_, w, _, h, H, s _ a w ha hw, .inl ⟨v, rfl, ha.put d v hd⟩, hw, g⟩
  | still tail =>
    refine ⟨fun a w ha hw => ?_⟩
    show wpStill E.P all w _ (⟨some d, op, ty, pos, aft, none⟩ :: rest) a
    refine wpStill_step fun K hK => ?_
    rw [if_pos (by simp [Region.wanted])]
    unfold Oper.still
    rw [s _ a w ha hw]
    exact ⟨rfl, hK _ (g.run _ w (ha.put d v hd) hw)⟩
  | held h0 H0 =>
    obtain ⟨rfl, rfl⟩ := hk.ok h0 H0 rfl
    exact ⟨fun a w ha hw => ⟨v, .inl ⟨rfl, fun w' hw' => s _ a w' ha hw'.start⟩, g.run _ w (ha.put d v hd) hw⟩⟩

theorem G.endStill {all : Array Oper} {tail : List Oper} (g : G E (.ops .seq all tail :: k) f h H) : G E (.ops (.still tail) all [] :: k) f h H :=
  ⟨fun a w ha hw => wpStill_nil (P := E.P) (ops := all) (w := w) (Q := fun a' => wpList E.P all (den E k) tail a' w) (g.run a w ha hw)⟩
/-- A region that draws its order: n operations that leave memory alone, then the others one by one. -/
theorem G.draw {id : Nat} {l : List Oper} (n : Nat) (hm : E.P.follows .mixedOrders = true) (hB : Region.lexTailB .any l.toArray n = true) {l1 l2 : List Oper} (h1 : l.take n = l1) (h2 : l.drop n = l2)
    (g : G E (.ops (.still l2) l.toArray l1 :: k) f h H) : G E (.code (.region id l.toArray true) :: k) f h H := by
  subst h1 h2
  refine ⟨fun a w ha hw => wp_region_still_tail n hm hB ?_⟩
  have hw' : St E.c h H { w with drawn := w.drawn + 1 } := ⟨hw.os, hw.tape, hw.output, hw.size, hw.fr, hw.mono, hw.imm, hw.own, hw.nodup, hw.sep, hw.ksub, hw.isub⟩
  exact g.run a _ ha hw'
theorem G.back {h' : Heap} {H' : List Chunk} (g : G E k f h' H') : G E (.back h' H' :: k) f h H := ⟨fun a w ha _ hw => g.run a w ha hw⟩

/-- Operations that leave memory alone, by their make; 'sl' says which types are slices. -/
def pureOp (sl : Nat → Bool) : Op → Bool
  | .move _ | .assign _ | .pick _ _ _ | .extract _ _ | .nilCheck _ | .unOp _ _ _ | .binOp _ _ _ _ _ | .makeFunc _ _ _ | .load _ _ | .index _ _ _ | .slice _ _ _ _ _ | .indexAddr _ _ _ | .fieldAddr _ _ _ | .build _ _ => true
  | .convert _ t _ => !sl t
  | .call c => match c.callee with
    | .builtin .len => true
    | .builtin .cap => true
    | _ => false
  | _ => false
/-- A region that draws its order, all of whose operations leave memory alone. -/
theorem G.drawAll (sl : Nat → Bool) {id : Nat} {l : List Oper} (_ : (l.all fun o => pureOp sl o.op) = true) (hm : E.P.follows .mixedOrders = true) (hB : Region.lexB .any l.toArray = true)
    (g : G E (.ops (.still []) l.toArray l :: k) f h H) : G E (.code (.region id l.toArray true) :: k) f h H := by
  refine ⟨fun a w ha hw => wp_region_still_lit hm hB ?_⟩
  have hw' : St E.c h H { w with drawn := w.drawn + 1 } := ⟨hw.os, hw.tape, hw.output, hw.size, hw.fr, hw.mono, hw.imm, hw.own, hw.nodup, hw.sep, hw.ksub, hw.isub⟩
  exact g.run a _ ha hw'
/-- Without the rows. -/
inductive DropRows : List Chunk → List Chunk → Prop
  | nil : DropRows [] []
  | drop {v : Value} {e sz : Nat} {rows : List (List Value)} {H H1 : List Chunk} : DropRows H H1 → DropRows (.row v e sz rows :: H) H1
  | keep {x : Chunk} {H H1 : List Chunk} : DropRows H H1 → DropRows (x :: H) (x :: H1)
theorem DropRows.sub {H H1 : List Chunk} (d : DropRows H H1) : SubH H1 H := by
  induction d with
  | nil => exact SubH.rfl_ _
  | drop _ ih => obtain ⟨C, hC⟩ := ih; exact ⟨_ :: C, (List.Perm.cons _ hC).trans List.perm_middle.symm⟩
  | keep _ ih => obtain ⟨C, hC⟩ := ih; exact ⟨C, List.Perm.cons _ hC⟩
theorem SubH.head (x : Chunk) (l : List Chunk) : SubH [x] (x :: l) := ⟨l, by simp⟩
theorem SubH.trans {A B C : List Chunk} (h : SubH A B) (k : SubH B C) : SubH A C := by
  obtain ⟨X, hX⟩ := h
  obtain ⟨Y, hY⟩ := k
  exact ⟨X ++ Y, hY.trans (by rw [← List.append_assoc]; exact List.Perm.append_right _ hX)⟩
/-- What lies there is set aside. -/
inductive DropS (f : Fr) : List (Option Nat) → List Chunk → List Chunk → Prop
  | nil {H : List Chunk} : DropS f [] H H
  | rows {l : List (Option Nat)} {H H1 H2 : List Chunk} : DropRows H H1 → DropS f l H1 H2 → DropS f (none :: l) H H2
  | cons {s : Nat} {l : List (Option Nat)} {g o : Nat} {cs : List Value} {e : TypeId} {H H1 H2 : List Chunk} : Fr.get f s = some (.pointer (some ⟨g, o, none⟩)) → Take (.blk g cs e) H H1 → DropS f l H1 H2 → DropS f (some s :: l) H H2
  | skip {s : Nat} {l : List (Option Nat)} {H H1 : List Chunk} : DropS f l H H1 → DropS f (some s :: l) H H1
theorem DropS.sub {f : Fr} {l : List (Option Nat)} {H H1 : List Chunk} (d : DropS f l H H1) : SubH H1 H := by
  induction d with
  | nil => exact SubH.rfl_ _
  | rows r _ ih => exact ih.trans r.sub
  | cons _ t _ ih =>
    obtain ⟨C, hC⟩ := ih
    exact ⟨_ :: C, t.perm.trans ((List.Perm.cons _ hC).trans List.perm_middle.symm)⟩
  | skip _ ih => exact ih
/-- A guarded operation: the guard's slot. -/
def gslot (l : List Oper) (j : Nat) : Option Nat := match l[j]? with | some o => o.dst | none => none
theorem yielded_of {l : List Oper} {j s : Nat} {b : Bool} {a : Act} (hs : gslot l j = some s) (ha : FSat E.n f a) (hg : Fr.get f s = some (.bool b)) : yielded l.toArray a.tmps j = some b := by
  have h1 := ha.get s _ hg
  have hlt : s < a.tmps.size := by
    rcases Nat.lt_or_ge s a.tmps.size with hl | hl
    · exact hl
    · rw [Array.getD_eq_getD_getElem?, Array.getElem?_eq_none hl] at h1; simp [undef] at h1
  have h2 : a.tmps[s]? = some (.bool b) := by
    rw [Array.getD_eq_getD_getElem?, Array.getElem?_eq_getElem hlt] at h1
    rw [Array.getElem?_eq_getElem hlt]; simpa using h1
  unfold gslot at hs
  unfold yielded
  simp only [List.getElem?_toArray]
  cases hl : l[j]? with
  | none => rw [hl] at hs; cases hs
  | some o => rw [hl] at hs; simp only at hs; simp [hs, h2]

theorem G.guard {st : Md} {l : List Oper} {rest : List Oper} {op : Op} {d : Option Nat} {ty : TypeId} {pos : String} {aft : Array Edge} {j s : Nat} {want b : Bool}
    (hs : gslot l j = some s) (hg : Fr.get f s = some (.bool b))
    (yes : b = want → G E (.ops st l.toArray (⟨d, op, ty, pos, aft, none⟩ :: rest) :: k) ((s, .bool want) :: f) h H)
    (no : b = !want → G E (.ops st l.toArray rest :: k) ((s, .bool (!want)) :: f) h H) (hfr : ∀ i, d = some i → Fr.get ((s, .bool (!want)) :: f) i = none) :
    G E (.ops st l.toArray (⟨d, op, ty, pos, aft, some (j, want)⟩ :: rest) :: k) f h H := by
  refine ⟨fun a w ha hw => ?_⟩
  have hy := yielded_of (E := E) hs ha hg
  have hcons := ha.cons s _ (ha.get s _ hg)
  by_cases hb : b = want
  · subst hb
    have := (yes rfl).run a w hcons hw
    cases st with
    | seq =>
      have h1 : wpList E.P l.toArray (den E k) (⟨d, op, ty, pos, aft, none⟩ :: rest) a w := this
      show wpList E.P l.toArray (den E k) (⟨d, op, ty, pos, aft, some (j, b)⟩ :: rest) a w
      unfold wpList at h1 ⊢
      have hw1 : Region.wanted ⟨d, op, ty, pos, aft, some (j, b)⟩ (yielded l.toArray a.tmps) = true := by simp [Region.wanted, hy]
      have hw2 : Region.wanted ⟨d, op, ty, pos, aft, none⟩ (yielded l.toArray a.tmps) = true := rfl
      rw [if_pos hw1]
      rw [if_pos hw2] at h1
      exact h1
    | held h0 H0 =>
      obtain ⟨v, hy1, hr⟩ := this
      refine ⟨v, ?_, hr⟩
      rcases hy1 with ⟨_, h2⟩ | ⟨h2, _⟩
      · exact .inl ⟨by simp [Region.wanted, hy], h2⟩
      · simp [Region.wanted] at h2
    | still tail =>
      have h1 : wpStill E.P l.toArray w (fun a' => wpList E.P l.toArray (den E k) tail a' w) (⟨d, op, ty, pos, aft, none⟩ :: rest) a := this
      show wpStill E.P l.toArray w (fun a' => wpList E.P l.toArray (den E k) tail a' w) (⟨d, op, ty, pos, aft, some (j, b)⟩ :: rest) a
      unfold wpStill at h1 ⊢
      have hw1 : Region.wanted ⟨d, op, ty, pos, aft, some (j, b)⟩ (yielded l.toArray a.tmps) = true := by simp [Region.wanted, hy]
      have hw2 : Region.wanted ⟨d, op, ty, pos, aft, none⟩ (yielded l.toArray a.tmps) = true := rfl
      rw [if_pos hw1]
      rw [if_pos hw2] at h1
      exact h1
  · have hb' : b = !want := by cases b <;> cases want <;> simp_all
    subst hb'
    have := (no rfl).run _ w (hcons.putU d undef hfr) hw
    have hw1 : ¬ Region.wanted ⟨d, op, ty, pos, aft, some (j, want)⟩ (yielded l.toArray a.tmps) = true := by
      simp [Region.wanted, hy]
    cases st with
    | seq =>
      show wpList E.P l.toArray (den E k) (⟨d, op, ty, pos, aft, some (j, want)⟩ :: rest) a w
      unfold wpList
      rw [if_neg hw1]
      exact this
    | held h0 H0 => exact ⟨undef, .inr ⟨by simpa using hw1, rfl⟩, this⟩
    | still tail =>
      show wpStill E.P l.toArray w (fun a' => wpList E.P l.toArray (den E k) tail a' w) (⟨d, op, ty, pos, aft, some (j, want)⟩ :: rest) a
      unfold wpStill
      rw [if_neg hw1]
      exact this
theorem G.guardYes {st : Md} {l : List Oper} {rest : List Oper} {op : Op} {d : Option Nat} {ty : TypeId} {pos : String} {aft : Array Edge} {j s : Nat}  {want : Bool}
    (hs : gslot l j = some s) (hg : Fr.get f s = some (.bool want)) (yes : G E (.ops st l.toArray (⟨d, op, ty, pos, aft, none⟩ :: rest) :: k) f h H) :
    G E (.ops st l.toArray (⟨d, op, ty, pos, aft, some (j, want)⟩ :: rest) :: k) f h H := by
  refine ⟨fun a w ha hw => ?_⟩
  have hy := yielded_of (E := E) hs ha hg
  have hw1 : Region.wanted ⟨d, op, ty, pos, aft, some (j, want)⟩ (yielded l.toArray a.tmps) = true := by simp [Region.wanted, hy]
  have hw2 : Region.wanted ⟨d, op, ty, pos, aft, none⟩ (yielded l.toArray a.tmps) = true := rfl
  have := yes.run a w ha hw
  cases st with
  | seq =>
    have h1 : wpList E.P l.toArray (den E k) (⟨d, op, ty, pos, aft, none⟩ :: rest) a w := this
    show wpList E.P l.toArray (den E k) (⟨d, op, ty, pos, aft, some (j, want)⟩ :: rest) a w
    unfold wpList at h1 ⊢
    rw [if_pos hw1]
    rw [if_pos hw2] at h1
    exact h1
  | held h0 H0 =>
    obtain ⟨v, hy1, hr⟩ := this
    refine ⟨v, ?_, hr⟩
    rcases hy1 with ⟨_, h2⟩ | ⟨h2, _⟩
    · exact .inl ⟨hw1, h2⟩
    · rw [hw2] at h2; cases h2
  | still tail =>
    have h1 : wpStill E.P l.toArray w (fun a' => wpList E.P l.toArray (den E k) tail a' w) (⟨d, op, ty, pos, aft, none⟩ :: rest) a := this
    show wpStill E.P l.toArray w (fun a' => wpList E.P l.toArray (den E k) tail a' w) (⟨d, op, ty, pos, aft, some (j, want)⟩ :: rest) a
    unfold wpStill at h1 ⊢
    rw [if_pos hw1]
    rw [if_pos hw2] at h1
    exact h1
/-- Where it is not wanted nothing is left in its slot. -/
theorem G.guardS {st : Md} {l : List Oper} {rest : List Oper} {op : Op} {d : Nat} {ty : TypeId} {pos : String} {aft : Array Edge} {j s : Nat} {want b : Bool}
    (hs : gslot l j = some s) (hg : Fr.get f s = some (.bool b)) (hd : Nat.blt d E.n = true)
    (yes : b = want → G E (.ops st l.toArray (⟨some d, op, ty, pos, aft, none⟩ :: rest) :: k) ((s, .bool want) :: f) h H)
    (no : b = !want → G E (.ops st l.toArray rest :: k) ((d, undef) :: (s, .bool (!want)) :: f) h H) :
    G E (.ops st l.toArray (⟨some d, op, ty, pos, aft, some (j, want)⟩ :: rest) :: k) f h H := by
  refine ⟨fun a w ha hw => ?_⟩
  by_cases hb : b = want
  · subst hb
    exact (G.guardYes (E := E) (f := (s, .bool b) :: f) hs (by simp [Fr.get]) (yes rfl)).run a w (ha.cons s _ (ha.get s _ hg)) hw
  · have hb' : b = !want := by cases b <;> cases want <;> simp_all
    subst hb'
    have hy := yielded_of (E := E) hs ha hg
    have hw1 : ¬ Region.wanted ⟨some d, op, ty, pos, aft, some (j, want)⟩ (yielded l.toArray a.tmps) = true := by simp [Region.wanted, hy]
    have hcons := ha.cons s _ (ha.get s _ hg)
    have := (no rfl).run _ w (hcons.put d undef hd) hw
    cases st with
    | seq =>
      show wpList E.P l.toArray (den E k) (⟨some d, op, ty, pos, aft, some (j, want)⟩ :: rest) a w
      unfold wpList
      rw [if_neg hw1]
      exact this
    | held h0 H0 => exact ⟨undef, .inr ⟨by simpa using hw1, rfl⟩, this⟩
    | still tail =>
      show wpStill E.P l.toArray w (fun a' => wpList E.P l.toArray (den E k) tail a' w) (⟨some d, op, ty, pos, aft, some (j, want)⟩ :: rest) a
      unfold wpStill
      rw [if_neg hw1]
      exact this
theorem G.guardNoS {st : Md} {l : List Oper} {rest : List Oper} {op : Op} {d : Nat} {ty : TypeId} {pos : String} {aft : Array Edge} {j s : Nat} {want : Bool}
    (hs : gslot l j = some s) (hg : Fr.get f s = some (.bool (!want))) (hd : Nat.blt d E.n = true) (no : G E (.ops st l.toArray rest :: k) ((d, undef) :: f) h H) :
    G E (.ops st l.toArray (⟨some d, op, ty, pos, aft, some (j, want)⟩ :: rest) :: k) f h H := by
  refine ⟨fun a w ha hw => ?_⟩
  have hy := yielded_of (E := E) hs ha hg
  have hw1 : ¬ Region.wanted ⟨some d, op, ty, pos, aft, some (j, want)⟩ (yielded l.toArray a.tmps) = true := by
    cases want <;> simp [Region.wanted, hy]
  have := no.run _ w (ha.put d undef hd) hw
  cases st with
  | seq =>
    show wpList E.P l.toArray (den E k) (⟨some d, op, ty, pos, aft, some (j, want)⟩ :: rest) a w
    unfold wpList
    rw [if_neg hw1]
    exact this
  | held h0 H0 => exact ⟨undef, .inr ⟨by simpa using hw1, rfl⟩, this⟩
  | still tail =>
    show wpStill E.P l.toArray w (fun a' => wpList E.P l.toArray (den E k) tail a' w) (⟨some d, op, ty, pos, aft, some (j, want)⟩ :: rest) a
    unfold wpStill
    rw [if_neg hw1]
    exact this
/-- The guard itself was not wanted. -/
theorem G.guardU {st : Md} {l : List Oper} {rest : List Oper} {op : Op} {d : Nat} {ty : TypeId} {pos : String} {aft : Array Edge} {j s : Nat} {want : Bool}
    (hs : gslot l j = some s) (hg : Fr.get f s = some undef) (hd : Nat.blt d E.n = true) (no : G E (.ops st l.toArray rest :: k) ((d, undef) :: f) h H) :
    G E (.ops st l.toArray (⟨some d, op, ty, pos, aft, some (j, want)⟩ :: rest) :: k) f h H := by
  refine ⟨fun a w ha hw => ?_⟩
  have hy : yielded l.toArray a.tmps j = none := by
    have h1 := ha.get s _ hg
    have hb : ∀ b, a.tmps[s]? ≠ some (.bool b) := fun b e => by rw [Array.getD_eq_getD_getElem?, e] at h1; cases h1
    unfold gslot at hs
    unfold yielded
    simp only [List.getElem?_toArray]
    cases hl : l[j]? with
    | none => rfl
    | some o =>
      rw [hl] at hs
      simp only at hs
      simp only [hs, Option.bind_some]
  have hw1 : ¬ Region.wanted ⟨some d, op, ty, pos, aft, some (j, want)⟩ (yielded l.toArray a.tmps) = true := by
    cases want <;> simp [Region.wanted, hy]
  have := no.run _ w (ha.put d undef hd) hw
  cases st with
  | seq =>
    show wpList E.P l.toArray (den E k) (⟨some d, op, ty, pos, aft, some (j, want)⟩ :: rest) a w
    unfold wpList
    rw [if_neg hw1]
    exact this
  | held h0 H0 => exact ⟨undef, .inr ⟨by simpa using hw1, rfl⟩, this⟩
  | still tail =>
    show wpStill E.P l.toArray w (fun a' => wpList E.P l.toArray (den E k) tail a' w) (⟨some d, op, ty, pos, aft, some (j, want)⟩ :: rest) a
    unfold wpStill
    rw [if_neg hw1]
    exact this
end
end Go.Proofs.YtcghcdnmpjhifaaDoor
