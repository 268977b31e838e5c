/- slices.Sort of texts, strings.Join with a text between, as contracts of the light walk; rows that are only read, cut short. -/
import Derived.Test.YtibkffoeioidlaaDoorLtY
import Derived.Test.YtibkffoeioidlaaDoorLtQ
import Derived.Test.YtibkffoeioidlaaDoorTy
import Derived.Test.YtibkffoeioidlaaDoorLtA
import Derived.Test.YtibkffoeioidlaaDoorProg
import Derived.Ground.NamesProg
import Derived.Shelf.Sort.Plain
import Derived.Shelf.Strings.OnBuilder
import Derived.Shelf.Slices.In.SortNone
import Derived.Test.YtibkffoeioidlaaDoorWrY
import Derived.Test.YtibkffoeioidlaaDoorWrW
import Derived.Test.YtibkffoeioidlaaDoorWrO
import Derived.Test.YtibkffoeioidlaaDoorTlvD
import Derived.Test.YtibkffoeioidlaaDoorWrJ
namespace Go.Proofs.YtibkffoeioidlaaDoor
set_option linter.all false
set_option maxRecDepth 4000
open Go.RowKit

theorem St.grow {c : Ctx} {h : Heap} {H : List Chunk} {w w' : World} (s : St c h H w) {os : Array Obj} (hh : w'.heap = w.heap ++ os) (ho : w'.os = w.os) (ht : w'.tape = w.tape) (hp : w'.output = w.output) : St c h H w' := by
  have hk : ∀ b, b < w.heap.size → w'.heap[b]? = w.heap[b]? := fun b hb => by rw [hh, Array.getElem?_append_left hb]
  refine ⟨ho.trans s.os, ht.trans s.tape, hp.trans s.output, by rw [hh, Array.size_append]; have := s.size; omega, fun b hb hK => ?_, s.mono, fun b o hb => ?_, fun x hx => ?_, s.nodup, s.sep, s.ksub, s.isub⟩
  · rw [hk b (Nat.lt_of_lt_of_le hb s.size)]; exact s.fr b hb hK
  · rw [hk b (lt_of_get (s.imm b o hb))]; exact s.imm b o hb
  · exact Chunk.holds_congr (fun g hg => hk g (Chunk.holds_lt (s.own x hx) g hg)) (s.own x hx)
/-- What was there stays: nothing that is held changes. -/
theorem St.below {h : Heap} {H : List Chunk} {w w' : World} (s : StI h H w) (b : Below w.heap.size w w') : St ⟨w, keys H, h⟩ h H w' := by
  have hk : ∀ x ∈ H, ∀ g, x.key = some g → w'.heap[g]? = w.heap[g]? := fun x hx g hg => b.block g (Chunk.holds_lt (s.own x hx) g hg)
  exact ⟨b.os, b.tape, b.output, b.size, fun q hq _ => b.block q hq, Heap.le_refl h, fun q o ho => by
      have h1 := s.imm q o ho
      rw [b.block q (lt_of_get h1)]; exact h1, fun x hx => Chunk.holds_congr (hk x hx) (s.own x hx), s.nodup, s.sep, fun g hg => .inl hg, fun q o ho => .inl ⟨o, ho⟩⟩
end Go.Proofs.YtibkffoeioidlaaDoor
namespace Go.Proofs.YtibkffoeioidlaaDoor
set_option linter.all false
set_option maxRecDepth 4000
open Go.RowKit

theorem callAwake11 : Callable Tryd.prog 26 := ⟨_, Tryd.func26, by kernel_rfl, rfl⟩
theorem RdR.ok_inv {m : Ms} {u : Value} {h' : Heap} (h : RdR (.ok m) u h') : ∃ pv kv nv av mv cv, u = .tuple #[.agg (msR m pv kv nv av mv cv).toArray, .int .i64 0] ∧ MsV h' m pv kv nv av mv cv := by
  obtain ⟨m', pv, kv, nv, av, mv, cv, e, rfl, hV, ⟨rfl, h⟩ | ⟨_, h, _⟩⟩ := h
  · injection h with h
    subst h
    exact ⟨_, _, _, _, _, _, rfl, hV⟩
  · cases h
def awM : Ms := { zM with id := 7, op := 2 }
def awN : Ms := { zM with id := 1, op := 0, ver := 3 }
theorem aw1 : writeM awM = ([48, 5, 2, 1, 7, 66, 0], 0) := by kernel_rfl
theorem aw2 : writeM awN = ([48, 12, 2, 1, 1, 96, 7, 2, 1, 3, 4, 0, 128, 0], 0) := by kernel_rfl
theorem aw3 : readM [48, 5, 2, 1, 7, 66, 0] = .ok awM := by
  have h := write_read (m := awM) (by rw [aw1])
  rw [aw1] at h
  exact h
theorem awN_I : MsI awN := by
  constructor <;> first | (simp only [inR, awN, zM]; omega) | (intro x hx; cases hx)
set_option maxRecDepth 8000 in
set_option maxHeartbeats 2000000 in
theorem law11_awake (h : Heap) (hT : TabW h) : Spec Tryd.prog 26 [] h [] (fun u _ H' => u = .bool true ∧ H' = []) := by
  have hR := fun h hT => wire_Read [48, 5, 2, 1, 7, 66, 0] (by decide) h hT
  rw [aw3] at hR
  have hW := fun h hT => wire_Write awN awN_I (by decide) nilV nilV nilV nilV nilV nilV h hT (zV rfl rfl rfl rfl rfl)
  rw [aw2] at hW
  refine Spec.enter Tryd.func26 rfl rfl ?_; intro w0
  repeat' (first | (show G _ (.ops .seq _ (⟨some _, .call { callee := .value (.func 28), args := _, argTypes := _ }, _, _, _, none⟩ :: _) :: _) _ _ _; refine G.call callReadW rfl rfl (hR _ (hT.mono (by solve | (repeat (first | assumption | exact Heap.le_refl _ | (refine Heap.le_trans ?_ (by assumption))))))) (by solve | (repeat (first | apply Takes.nil | apply Take.hd | apply Take.tl | apply Takes.cons))) ?_; rintro _ h2 H2 ⟨hr, rfl⟩ hle2; obtain ⟨pv, kv, nv, av, mv, cv, rfl, hV⟩ := hr.ok_inv; obtain ⟨⟨pA, pn, pc, rfl⟩, ⟨kA, kn, kc, rfl⟩, ⟨nA, nn, nc, rfl⟩, ⟨aA, an, ac, rfl⟩, ⟨mA, mn, mc, rfl⟩, ⟨cA, cn, cc, rfl⟩⟩ := hV.forms) | (show G _ (.ops .seq _ (⟨some _, .call { callee := .value (.func 24), args := _, argTypes := _ }, _, _, _, none⟩ :: _) :: _) _ _ _; refine G.call callWriteW rfl rfl (hW _ (hT.mono (by solve | (repeat (first | assumption | exact Heap.le_refl _ | (refine Heap.le_trans ?_ (by assumption))))))) (by solve | (repeat (first | apply Takes.nil | apply Take.hd | apply Take.tl | apply Takes.cons))) ?_; rintro _ h3 H3 ⟨rfl, rfl⟩ hle3) | (refine G.atCode ?_; first | refine G.seq ?_ | refine G.region ?_ | refine G.ret ?_) | refine G.endOps ?_ | (refine G.atGd ?_; first | refine G.guardYes rfl rfl ?_) | (refine G.atBin ?_; first | (refine G.atEql ?_; first | refine G.op rfl rfl ?_ | refine G.eqStr rfl rfl rfl ?_)) | refine G.op rfl rfl ?_ | (refine G.atLoad ?_; first | refine G.loadOwn1 rfl (tyy rfl) rfl rfl (by solve | (repeat (first | apply Take.hd | apply Take.tl))) rfl rfl ?_) | (refine G.atFld ?_; first | refine G.fieldAddr rfl (tyy rfl) rfl rfl ?_) | (refine G.atSto ?_; refine G.storeOwn rfl rfl (tyy rfl) (by solve | (repeat (first | apply Take.hd | apply Take.tl))) rfl rfl rfl rfl ?_) | (refine G.atAlc ?_; refine G.alloc (tyy rfl) rfl rfl ?_; intro _) | (refine G.atBld ?_; refine G.build (tyy rfl) rfl rfl rfl ?_))
  all_goals first | (exfalso; omega) | (exfalso; simp_all; done) | exact G.done1 rfl rfl [] (SubH.nil _) ⟨by simp, rfl⟩ | skip
-- A MESSAGE'S BEGINNING
theorem byte_take {w : Bs} {k i : Nat} (h : i < k) : byteAt (w.take k) i = byteAt w i := by
  unfold byteAt
  rw [List.getElem?_take_of_lt h]
theorem getV_take {w : Bs} {k : Nat} {a n : Int} (hok : getOk (w.take k) a n = true) : getOk w a n = true ∧ getV (w.take k) a n = getV w a n := by
  have h1 := hok
  unfold getOk at h1
  rw [decide_eq_true_eq, List.length_take] at h1
  have h2 : getOk w a n = true := by
    unfold getOk
    rw [decide_eq_true_eq]
    omega
  refine ⟨h2, ?_⟩
  unfold getV
  rw [if_pos hok, if_pos h2, List.drop_take, List.take_take]
  congr 2
  omega
theorem cut_prefix {w : Bs} (h : cutM w = ((w.length : Int), 0)) {k : Nat} (hk : k < w.length) : cutM (w.take k) = (0, 0) := by
  have hl : (w.take k).length = k := by rw [List.length_take]; omega
  by_cases h0 : k = 0
  · subst h0; rfl
  unfold cutM at h ⊢
  simp only at h ⊢
  rw [hl, if_neg h0, byte_take (by omega)]
  rw [if_neg (by omega)] at h
  split at h
  · injection h with _ h; cases h
  rename_i h1
  rw [if_neg h1]
  by_cases h2 : k < 2
  · rw [if_pos h2]
  rw [if_neg h2, byte_take (by omega)]
  rw [if_neg (by omega)] at h
  generalize (byteAt w 1 : Int) = b at *
  split at h
  · rename_i h3
    rw [if_pos h3]
    split at h
    · injection h with h _; omega
    · injection h with h _
      rw [if_pos (by omega)]
  rename_i h3
  rw [if_neg h3]
  split at h
  · injection h with _ h; cases h
  rename_i h4
  rw [if_neg h4]
  split at h
  · injection h with h _; omega
  rename_i h5
  split at h
  · injection h with _ h; cases h
  rename_i h6
  split at h
  · injection h with h _; omega
  rename_i h7
  injection h with h _
  cases hg : getOk (w.take k) 2 (b - 128) with
  | false => rw [if_pos rfl]
  | true =>
    obtain ⟨_, g2⟩ := getV_take hg
    rw [if_neg (by simp), g2, if_neg h6, if_pos (by omega)]
theorem feed_NextP (g : Nat) (w : Bs) (hm : Msg w) (k : Nat) (hk : k < w.length) (hl : w.length ≤ 9223372036854775807) (h : Heap) :
    Spec Tryd.prog 31 [.pointer (some ⟨g, 0, none⟩)] h [buf g (w.take k) 0] (fun v _ H' => H' = [buf g (w.take k) 0] ∧ v = .tuple #[str [], .bool false, .int .i64 0]) := by
  have h0 := hm.2 []
  rw [List.append_nil] at h0
  have hc := cut_prefix h0 hk
  exact feed_Next g (w.take k) (by rw [List.length_take]; omega) 0 (by rw [hc]; rfl) (by rw [hc]) h
theorem feed_NextW (g : Nat) (w : Bs) (hm : Msg w) (hl : w.length ≤ 9223372036854775807) (h : Heap) :
    Spec Tryd.prog 31 [.pointer (some ⟨g, 0, none⟩)] h [buf g w 0] (fun v _ H' => H' = [buf g [] 0] ∧ v = .tuple #[str w, .bool true, .int .i64 0]) := by
  have := feed_NextM g w [] hm (by rw [List.append_nil]; exact hl) h
  rw [List.append_nil] at this
  exact this
-- RESULTS
end Go.Proofs.YtibkffoeioidlaaDoor
