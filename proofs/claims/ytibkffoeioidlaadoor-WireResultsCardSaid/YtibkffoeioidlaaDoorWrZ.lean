/- strings.Join, as the kit's shelf has it, for this program. -/
import Derived.Test.YtibkffoeioidlaaDoorLtA
import Derived.Test.YtibkffoeioidlaaDoorProg
import Derived.Ground.NamesProg
import Derived.Shelf.Strings.OnBuilder
import Derived.Test.YtibkffoeioidlaaDoorLtY
import Derived.Test.YtibkffoeioidlaaDoorLtQ
import Derived.Test.YtibkffoeioidlaaDoorTy
import Derived.Shelf.Sort.Plain
import Derived.Shelf.Slices.In.SortNone
import Derived.Test.YtibkffoeioidlaaDoorWrY
import Derived.Test.YtibkffoeioidlaaDoorWrW
import Derived.Test.YtibkffoeioidlaaDoorWrO
import Derived.Test.YtibkffoeioidlaaDoorTlvD
import Derived.Test.YtibkffoeioidlaaDoorWrJ
namespace Go.Proofs.YtibkffoeioidlaaDoor
set_option linter.all false
set_option maxRecDepth 4000
open Go.Shelf
def laysJoin_ren : Go.Shelf.Ren := ⟨fun | 156 => 66 | 165 => 97 | 166 => 98 | 169 => 99 | 240 => 109 | 241 => 110 | 276 => 114 | 277 => 115 | n => n, fun | 31 => 46 | 9 => 9 | 3 => 3 | 4 => 4 | 0 => 0 | 20 => 20 | 72 => 163 | 76 => 167 | 70 => 161 | 37 => 129 | 75 => 166 | 127 => 182 | 164 => 191 | 5 => 5 | 80 => 73 | n => n, fun | n => n⟩
theorem laysJoin : Go.Proofs.Lays.n156 Tryd.prog laysJoin_ren := {
  mixed := by kernel_rfl
  f156 := Tryd.func66.trans (congrArg some (by kernel_rfl))
  f165 := Tryd.func97.trans (congrArg some (by kernel_rfl))
  f166 := Tryd.func98.trans (congrArg some (by kernel_rfl))
  f169 := Tryd.func99.trans (congrArg some (by kernel_rfl))
  f240 := Tryd.func109.trans (congrArg some (by kernel_rfl))
  f241 := Tryd.func110.trans (congrArg some (by kernel_rfl))
  f276 := Tryd.func114.trans (congrArg some (by kernel_rfl))
  f277 := Tryd.func115.trans (congrArg some (by kernel_rfl))
  t0 := Tryd.underlying0
  a0 := Tryd.isAgg0
  z0 := Tryd.sizeOf0
  v0 := Tryd.zeroValue0
  t3 := Tryd.underlying3
  a3 := Tryd.isAgg3
  z3 := Tryd.sizeOf3
  v3 := Tryd.zeroValue3
  t4 := Tryd.underlying4
  a4 := Tryd.isAgg4
  z4 := Tryd.sizeOf4
  v4 := Tryd.zeroValue4
  t9 := Tryd.underlying9
  a9 := Tryd.isAgg9
  z9 := Tryd.sizeOf9
  v9 := Tryd.zeroValue9
  t20 := Tryd.underlying20
  a20 := Tryd.isAgg20
  z20 := Tryd.sizeOf20
  v20 := Tryd.zeroValue20
  t31 := Tryd.underlying46
  a31 := Tryd.isAgg46
  z31 := Tryd.sizeOf46
  v31 := Tryd.zeroValue46
  t37 := Tryd.underlying129
  a37 := Tryd.isAgg129
  z37 := Tryd.sizeOf129
  v37 := Tryd.zeroValue129
  t70 := Tryd.underlying161
  a70 := Tryd.isAgg161
  z70 := Tryd.sizeOf161
  v70 := Tryd.zeroValue161
  t72 := Tryd.underlying163
  a72 := Tryd.isAgg163
  z72 := Tryd.sizeOf163
  v72 := Tryd.zeroValue163
  t75 := Tryd.underlying166
  a75 := Tryd.isAgg166
  z75 := Tryd.sizeOf166
  v75 := Tryd.zeroValue166
  t76 := Tryd.underlying167
  a76 := Tryd.isAgg167
  z76 := Tryd.sizeOf167
  v76 := Tryd.zeroValue167
  t127 := Tryd.underlying182
  a127 := Tryd.isAgg182
  z127 := Tryd.sizeOf182
  v127 := Tryd.zeroValue182
  t164 := Tryd.underlying191
  a164 := Tryd.isAgg191
  z164 := Tryd.sizeOf191
  v164 := Tryd.zeroValue191 }
end Go.Proofs.YtibkffoeioidlaaDoor
namespace Go.Proofs.YtibkffoeioidlaaDoor
set_option linter.all false
set_option maxRecDepth 4000
open Go.RowKit

theorem St.grow {c : Ctx} {h : Heap} {H : List Chunk} {w w' : World} (s : St c h H w) {os : Array Obj} (hh : w'.heap = w.heap ++ os) (ho : w'.os = w.os) (ht : w'.tape = w.tape) (hp : w'.output = w.output) : St c h H w' := by
  have hk : ∀ b, b < w.heap.size → w'.heap[b]? = w.heap[b]? := fun b hb => by rw [hh, Array.getElem?_append_left hb]
  refine ⟨ho.trans s.os, ht.trans s.tape, hp.trans s.output, by rw [hh, Array.size_append]; have := s.size; omega, fun b hb hK => ?_, s.mono, fun b o hb => ?_, fun x hx => ?_, s.nodup, s.sep, s.ksub, s.isub⟩
  · rw [hk b (Nat.lt_of_lt_of_le hb s.size)]; exact s.fr b hb hK
  · rw [hk b (lt_of_get (s.imm b o hb))]; exact s.imm b o hb
  · exact Chunk.holds_congr (fun g hg => hk g (Chunk.holds_lt (s.own x hx) g hg)) (s.own x hx)
theorem sflat (L : List (List UInt8)) : (strsR L).flatten = L.map str := by
  induction L with
  | nil => rfl
  | cons x r ih => simp only [strsR, List.map_cons, List.flatten_cons] at ih ⊢; rw [ih]; rfl
theorem extraJ : Builder.Extra Tryd.prog laysJoin_ren where
  sizeBuilder := by kernel_rfl
  liesBuilder := by kernel_rfl
  t5 := Tryd.underlying5
  a5 := Tryd.isAgg5
  z5 := Tryd.sizeOf5
  v5 := Tryd.zeroValue5
  infoByte := by kernel_rfl
  cellsByte := by kernel_rfl
  sizeByte := by kernel_rfl
  neB5 := by decide
/-- What was there stays: nothing that is held changes. -/
theorem St.below {h : Heap} {H : List Chunk} {w w' : World} (s : StI h H w) (b : Below w.heap.size w w') : St ⟨w, keys H, h⟩ h H w' := by
  have hk : ∀ x ∈ H, ∀ g, x.key = some g → w'.heap[g]? = w.heap[g]? := fun x hx g hg => b.block g (Chunk.holds_lt (s.own x hx) g hg)
  exact ⟨b.os, b.tape, b.output, b.size, fun q hq _ => b.block q hq, Heap.le_refl h, fun q o ho => by
      have h1 := s.imm q o ho
      rw [b.block q (lt_of_get h1)]; exact h1, fun x hx => Chunk.holds_congr (hk x hx) (s.own x hx), s.nodup, s.sep, fun g hg => .inl hg, fun q o ho => .inl ⟨o, ho⟩⟩
theorem callJoinS : Callable Tryd.prog 66 := ⟨_, Tryd.func66, by kernel_rfl, rfl⟩
end Go.Proofs.YtibkffoeioidlaaDoor
namespace Go.Proofs.YtibkffoeioidlaaDoor
set_option linter.all false
set_option maxRecDepth 4000
open Go.RowKit

/-- strings.Join of a row that is only read. -/
theorem strs_JoinH (v : Value) (sep : List UInt8) (L : List (List UInt8)) (hne : L ≠ []) (hL : L.length ≤ 1000000000) (hf : (Lib.join L sep).length ≤ 1000000000) (h : Heap) (hv : HSl h v 1 (strsR L)) :
    Spec Tryd.prog 66 [v, str sep] h [] (fun u _ H' => u = str (Lib.join L sep) ∧ H' = []) := by
  refine ⟨fun w hw => ?_⟩
  obtain ⟨A, c, rfl, hc1, hc2, hcs⟩ := hv.form
  rw [strsR_length] at *
  obtain ⟨ad, rfl, hcell⟩ := hcs (fun e => hne (List.map_eq_nil_iff.1 e))
  have hpos : 0 < L.length := List.length_pos_iff.2 hne
  obtain ⟨bk, o, sp⟩ := ad
  have hh : ∀ (j : Nat) (l : List UInt8), L[j]? = some l → h.cell? ((⟨bk, o, sp⟩ : Addr).add j) = some (str l) := fun j l hl => hcell j _ (by rw [sflat, List.getElem?_map, hl]; rfl)
  have h00 := hh 0 _ (List.getElem?_eq_getElem hpos)
  have hsp : sp = none := by
    cases sp with
    | none => rfl
    | some s =>
      exfalso
      simp only [Addr.add, if_true] at h00
      unfold Heap.cell? at h00
      simp only at h00
      split at h00
      · simp at h00
      · cases h00
  subst hsp
  obtain ⟨ob, hob⟩ : ∃ ob, h bk = some ob := by
    cases hb : h bk with
    | some ob => exact ⟨ob, rfl⟩
    | none =>
      exfalso
      unfold Heap.cell? at h00
      simp only [Addr.add, if_true, hb] at h00
      cases h00
  have hwb := hw.imm bk ob hob
  have hcw : ∀ (j : Nat) (l : List UInt8), L[j]? = some l → w.cell? ⟨bk, o + j, none⟩ = some (str l) := fun j l hl => by
    have h1 := hh j l hl
    rw [Addr.add_lit] at h1
    exact imm_cell hw.start h1
  have hmap : (L.map fun l => (⟨l.toArray⟩ : ByteArray)).map (·.data.toList) = L := by
    rw [List.map_map, show ((fun x : ByteArray => x.data.toList) ∘ fun l : List UInt8 => (⟨l.toArray⟩ : ByteArray)) = id from by funext l; simp, List.map_id]
  have hlen : (L.map fun l => (⟨l.toArray⟩ : ByteArray)).length = L.length := by simp
  have hj : (Lib.join ((L.map fun l => (⟨l.toArray⟩ : ByteArray)).map (·.data.toList)) (⟨sep.toArray⟩ : ByteArray).data.toList).length ≤ 140737488355328 := by
    rw [hmap, show (⟨sep.toArray⟩ : ByteArray).data.toList = sep from by simp]; omega
  have := Any.strings_Join laysJoin extraJ bk o c (L.map fun l => (⟨l.toArray⟩ : ByteArray)) ⟨sep.toArray⟩ w (fun j x hx => by
    rw [List.getElem?_map] at hx
    cases hl : L[j]? with
    | none => rw [hl] at hx; cases hx
    | some l =>
      rw [hl] at hx
      simp only [Option.map_some, Option.some.injEq] at hx
      subst hx
      exact hcw j l hl) (lt_of_get hwb) (by rw [hlen]; omega) (by rw [hlen]; exact hc1) hj
  rw [hlen] at this
  refine this.mono ?_
  rintro e' w' ⟨rfl, hb⟩
  rw [hmap, show (⟨sep.toArray⟩ : ByteArray).data.toList = sep from by simp]
  exact ⟨_, h, _, rfl, ⟨rfl, rfl⟩, St.below hw hb⟩
theorem strs_JoinA (v : Value) (sep : List UInt8) (L : List (List UInt8)) (hL : L.length ≤ 1000000000) (hf : (Lib.join L sep).length ≤ 1000000000) (h : Heap) (hv : HSl h v 1 (strsR L)) :
    Spec Tryd.prog 66 [v, str sep] h [] (fun u _ H' => u = str (Lib.join L sep) ∧ H' = []) := by
  by_cases hne : L = []
  · subst hne
    obtain ⟨A, c, rfl, _⟩ := hv.form
    refine ⟨fun w hw => ?_⟩
    refine (Any.strings_Join_none laysJoin extraJ A c ⟨sep.toArray⟩ w).mono fun e' w' ⟨he, hw'⟩ => ?_
    subst hw'
    exact ⟨_, h, [], by rw [he]; rfl, ⟨rfl, rfl⟩, St.below hw (Below.refl _ _)⟩
  · exact strs_JoinH v sep L hne hL hf h hv
theorem join_nil : ∀ L : List (List UInt8), Lib.join L [] = L.flatten
  | [] => rfl
  | [a] => by simp [Lib.join, List.intercalate]
  | a :: b :: l => by
    have ih := join_nil (b :: l)
    unfold Lib.join List.intercalate at ih ⊢
    rw [show List.intersperse [] (a :: b :: l) = a :: [] :: List.intersperse [] (b :: l) from rfl, List.flatten_cons, List.flatten_cons, ih]
    rfl
end Go.Proofs.YtibkffoeioidlaaDoor
namespace Go.Proofs.YtibkffoeioidlaaDoor
set_option linter.all false
set_option maxRecDepth 4000
open Go.RowKit

theorem callAwake11 : Callable Tryd.prog 26 := ⟨_, Tryd.func26, by kernel_rfl, rfl⟩
theorem RdR.ok_inv {m : Ms} {u : Value} {h' : Heap} (h : RdR (.ok m) u h') : ∃ pv kv nv av mv cv, u = .tuple #[.agg (msR m pv kv nv av mv cv).toArray, .int .i64 0] ∧ MsV h' m pv kv nv av mv cv := by
  obtain ⟨m', pv, kv, nv, av, mv, cv, e, rfl, hV, ⟨rfl, h⟩ | ⟨_, h, _⟩⟩ := h
  · injection h with h
    subst h
    exact ⟨_, _, _, _, _, _, rfl, hV⟩
  · cases h
def awM : Ms := { zM with id := 7, op := 2 }
def awN : Ms := { zM with id := 1, op := 0, ver := 3 }
theorem aw1 : writeM awM = ([48, 5, 2, 1, 7, 66, 0], 0) := by kernel_rfl
theorem aw2 : writeM awN = ([48, 12, 2, 1, 1, 96, 7, 2, 1, 3, 4, 0, 128, 0], 0) := by kernel_rfl
theorem aw3 : readM [48, 5, 2, 1, 7, 66, 0] = .ok awM := by
  have h := write_read (m := awM) (by rw [aw1])
  rw [aw1] at h
  exact h
theorem awN_I : MsI awN := by
  constructor <;> first | (simp only [inR, awN, zM]; omega) | (intro x hx; cases hx)
set_option maxRecDepth 8000 in
set_option maxHeartbeats 2000000 in
theorem law11_awake (h : Heap) (hT : TabW h) : Spec Tryd.prog 26 [] h [] (fun u _ H' => u = .bool true ∧ H' = []) := by
  have hR := fun h hT => wire_Read [48, 5, 2, 1, 7, 66, 0] (by decide) h hT
  rw [aw3] at hR
  have hW := fun h hT => wire_Write awN awN_I (by decide) nilV nilV nilV nilV nilV nilV h hT (zV rfl rfl rfl rfl rfl)
  rw [aw2] at hW
  refine Spec.enter Tryd.func26 rfl rfl ?_; intro w0
  repeat' (first | (show G _ (.ops .seq _ (⟨some _, .call { callee := .value (.func 28), args := _, argTypes := _ }, _, _, _, none⟩ :: _) :: _) _ _ _; refine G.call callReadW rfl rfl (hR _ (hT.mono (by solve | (repeat (first | assumption | exact Heap.le_refl _ | (refine Heap.le_trans ?_ (by assumption))))))) (by solve | (repeat (first | apply Takes.nil | apply Take.hd | apply Take.tl | apply Takes.cons))) ?_; rintro _ h2 H2 ⟨hr, rfl⟩ hle2; obtain ⟨pv, kv, nv, av, mv, cv, rfl, hV⟩ := hr.ok_inv; obtain ⟨⟨pA, pn, pc, rfl⟩, ⟨kA, kn, kc, rfl⟩, ⟨nA, nn, nc, rfl⟩, ⟨aA, an, ac, rfl⟩, ⟨mA, mn, mc, rfl⟩, ⟨cA, cn, cc, rfl⟩⟩ := hV.forms) | (show G _ (.ops .seq _ (⟨some _, .call { callee := .value (.func 24), args := _, argTypes := _ }, _, _, _, none⟩ :: _) :: _) _ _ _; refine G.call callWriteW rfl rfl (hW _ (hT.mono (by solve | (repeat (first | assumption | exact Heap.le_refl _ | (refine Heap.le_trans ?_ (by assumption))))))) (by solve | (repeat (first | apply Takes.nil | apply Take.hd | apply Take.tl | apply Takes.cons))) ?_; rintro _ h3 H3 ⟨rfl, rfl⟩ hle3) | (refine G.atCode ?_; first | refine G.seq ?_ | refine G.region ?_ | refine G.ret ?_) | refine G.endOps ?_ | (refine G.atGd ?_; first | refine G.guardYes rfl rfl ?_) | (refine G.atBin ?_; first | (refine G.atEql ?_; first | refine G.op rfl rfl ?_ | refine G.eqStr rfl rfl rfl ?_)) | refine G.op rfl rfl ?_ | (refine G.atLoad ?_; first | refine G.loadOwn1 rfl (tyy rfl) rfl rfl (by solve | (repeat (first | apply Take.hd | apply Take.tl))) rfl rfl ?_) | (refine G.atFld ?_; first | refine G.fieldAddr rfl (tyy rfl) rfl rfl ?_) | (refine G.atSto ?_; refine G.storeOwn rfl rfl (tyy rfl) (by solve | (repeat (first | apply Take.hd | apply Take.tl))) rfl rfl rfl rfl ?_) | (refine G.atAlc ?_; refine G.alloc (tyy rfl) rfl rfl ?_; intro _) | (refine G.atBld ?_; refine G.build (tyy rfl) rfl rfl rfl ?_))
  all_goals first | (exfalso; omega) | (exfalso; simp_all; done) | exact G.done1 rfl rfl [] (SubH.nil _) ⟨by simp, rfl⟩ | skip
-- A MESSAGE'S BEGINNING
theorem byte_take {w : Bs} {k i : Nat} (h : i < k) : byteAt (w.take k) i = byteAt w i := by
  unfold byteAt
  rw [List.getElem?_take_of_lt h]
theorem getV_take {w : Bs} {k : Nat} {a n : Int} (hok : getOk (w.take k) a n = true) : getOk w a n = true ∧ getV (w.take k) a n = getV w a n := by
  have h1 := hok
  unfold getOk at h1
  rw [decide_eq_true_eq, List.length_take] at h1
  have h2 : getOk w a n = true := by
    unfold getOk
    rw [decide_eq_true_eq]
    omega
  refine ⟨h2, ?_⟩
  unfold getV
  rw [if_pos hok, if_pos h2, List.drop_take, List.take_take]
  congr 2
  omega
theorem cut_prefix {w : Bs} (h : cutM w = ((w.length : Int), 0)) {k : Nat} (hk : k < w.length) : cutM (w.take k) = (0, 0) := by
  have hl : (w.take k).length = k := by rw [List.length_take]; omega
  by_cases h0 : k = 0
  · subst h0; rfl
  unfold cutM at h ⊢
  simp only at h ⊢
  rw [hl, if_neg h0, byte_take (by omega)]
  rw [if_neg (by omega)] at h
  split at h
  · injection h with _ h; cases h
  rename_i h1
  rw [if_neg h1]
  by_cases h2 : k < 2
  · rw [if_pos h2]
  rw [if_neg h2, byte_take (by omega)]
  rw [if_neg (by omega)] at h
  generalize (byteAt w 1 : Int) = b at *
  split at h
  · rename_i h3
    rw [if_pos h3]
    split at h
    · injection h with h _; omega
    · injection h with h _
      rw [if_pos (by omega)]
  rename_i h3
  rw [if_neg h3]
  split at h
  · injection h with _ h; cases h
  rename_i h4
  rw [if_neg h4]
  split at h
  · injection h with h _; omega
  rename_i h5
  split at h
  · injection h with _ h; cases h
  rename_i h6
  split at h
  · injection h with h _; omega
  rename_i h7
  injection h with h _
  cases hg : getOk (w.take k) 2 (b - 128) with
  | false => rw [if_pos rfl]
  | true =>
    obtain ⟨_, g2⟩ := getV_take hg
    rw [if_neg (by simp), g2, if_neg h6, if_pos (by omega)]
theorem feed_NextP (g : Nat) (w : Bs) (hm : Msg w) (k : Nat) (hk : k < w.length) (hl : w.length ≤ 9223372036854775807) (h : Heap) :
    Spec Tryd.prog 31 [.pointer (some ⟨g, 0, none⟩)] h [buf g (w.take k) 0] (fun v _ H' => H' = [buf g (w.take k) 0] ∧ v = .tuple #[str [], .bool false, .int .i64 0]) := by
  have h0 := hm.2 []
  rw [List.append_nil] at h0
  have hc := cut_prefix h0 hk
  exact feed_Next g (w.take k) (by rw [List.length_take]; omega) 0 (by rw [hc]; rfl) (by rw [hc]) h
theorem feed_NextW (g : Nat) (w : Bs) (hm : Msg w) (hl : w.length ≤ 9223372036854775807) (h : Heap) :
    Spec Tryd.prog 31 [.pointer (some ⟨g, 0, none⟩)] h [buf g w 0] (fun v _ H' => H' = [buf g [] 0] ∧ v = .tuple #[str w, .bool true, .int .i64 0]) := by
  have := feed_NextM g w [] hm (by rw [List.append_nil]; exact hl) h
  rw [List.append_nil] at this
  exact this
-- RESULTS
theorem callResultW : Callable Tryd.prog 33 := ⟨_, Tryd.func33, by kernel_rfl, rfl⟩
def resM (id op code : Int) (text : Bs) : Ms := { zM with id := id, op := op, code := code, text := text }
theorem wire_Result (id op code : Int) (l : List Bs) (v : Value) (hl : l.length ≤ 1000000000) (hf : l.flatten.length ≤ 1000000000) (h : Heap) (hv : HSl h v 1 (strsR l)) :
    Spec Tryd.prog 33 [.int .i64 id, .int .i64 op, .int .i64 code, v] h [] (fun u _ H' => u = .agg (msR (resM id op code l.flatten) nilV nilV nilV nilV nilV nilV).toArray ∧ H' = []) := by
  have hJ := fun h hv => strs_JoinA v [] l hl (by rw [join_nil]; exact hf) h hv
  rw [join_nil] at hJ
  refine Spec.enter Tryd.func33 rfl rfl ?_; intro w0
  repeat' (first | (show G _ (.ops .seq _ (⟨some _, .call { callee := .value (.func 66), args := _, argTypes := _ }, _, _, _, none⟩ :: _) :: _) _ _ _; refine G.call callJoinS rfl rfl (hJ _ (hv.mono (by solve | (repeat (first | assumption | exact Heap.le_refl _ | (refine Heap.le_trans ?_ (by assumption))))))) (by solve | (repeat (first | apply Takes.nil | apply Take.hd | apply Take.tl | apply Takes.cons))) ?_; rintro _ h2 H2 ⟨rfl, rfl⟩ hle2) | (refine G.atCode ?_; first | refine G.seq ?_ | refine G.region ?_ | refine G.ret ?_) | refine G.endOps ?_ | refine G.op rfl rfl ?_ | (refine G.atSto ?_; refine G.storeOwn rfl rfl (tyy rfl) (by solve | (repeat (first | apply Take.hd | apply Take.tl))) rfl rfl rfl rfl ?_) | (refine G.atAlc ?_; refine G.alloc (tyy rfl) rfl rfl ?_; intro _) | (refine G.atBld ?_; refine G.build (tyy rfl) rfl rfl rfl ?_))
  all_goals first | exact G.done (rs := [.cell 8 51]) rfl (.cellA rfl (tyy rfl) rfl rfl (by solve | (repeat (first | apply Take.hd | apply Take.tl))) rfl .nil) rfl [] (SubH.nil _) ⟨rfl, rfl⟩ | skip
set_option maxRecDepth 8000 in
set_option maxHeartbeats 4000000 in
theorem law_WireResults (id code : Int) (l : List Bs) (v : Value) (h : Heap) (hT : TabW h) (hv : HSl h v 1 (strsR l)) :
    Spec Tryd.prog 8 [.int .i64 id, .int .i64 code, v] h [] (fun u _ _ => u = .bool true) := by
  have hsl := strsR_length l
  obtain ⟨A, c, rfl, hc1, hc2, _⟩ := hv.form
  rw [hsl] at *
  simp only [maxLen] at hc2
  refine Spec.enter Tryd.func8 rfl rfl ?_; intro w0
  repeat' (first | (show G _ (.ops .seq _ (⟨some _, .call { callee := .value (.func 26), args := _, argTypes := _ }, _, _, _, none⟩ :: _) :: _) _ _ _; refine G.call callAwake11 rfl rfl (law11_awake _ (hT.mono (by solve | (repeat (first | assumption | exact Heap.le_refl _ | (refine Heap.le_trans ?_ (by assumption))))))) (by solve | (repeat (first | apply Takes.nil | apply Take.hd | apply Take.tl | apply Takes.cons))) ?_; rintro _ h5 H5 ⟨rfl, rfl⟩ hle5) | (refine G.atCode ?_; refine G.stopLoop ?_) | (refine G.atCode ?_; first | refine G.seq ?_ | refine G.region ?_ | refine G.block ?_ | refine G.skip ?_ | refine G.ret ?_ | (refine G.cond rfl ?_ ?_ <;> intro hc <;> (try simp only [tests, reduceCtorEq] at hc) <;> (try (exfalso; first | omega | exact absurd hc (by with_reducible assumption) | exact absurd (by with_reducible assumption) hc | exact Bool.noConfusion hc | exact hc | exact hc trivial | fail)))) | refine G.endOps ?_ | (refine G.atBin ?_; first | refine G.op rfl rfl ?_) | refine G.op rfl rfl ?_ | (refine G.atLen ?_; first | refine G.lenSlice rfl (tyy rfl) rfl ?_))
  all_goals first | (exfalso; omega) | exact G.done1 rfl rfl [] (SubH.nil _) rfl | skip
  refine G.go ?_
  have hlen : l.length ≤ 50 := by omega
  refine G.loop (σ := Nat) (fun i => [(17, .int .i64 i), (16, .int .i64 l.length), (15, .slice A l.length c), (7, str (l.take i).flatten), (2, .slice A l.length c), (1, .int .i64 code), (0, .int .i64 id)])
    (fun _ => []) (fun i _ => i ≤ l.length ∧ (l.take i).flatten.length ≤ 1000 * i) (fun i => l.length - i) 0 ⟨rfl, rfl, rfl, rfl, rfl, rfl, rfl, trivial⟩ (SubH.nil _) ⟨Nat.zero_le _, by simp⟩ ?_
  rintro i h3 hle3 ⟨hi, hfl⟩
  by_cases hlt : i < l.length
  · have hsa : l[i]? = some (strAt l i) := by unfold strAt; rw [List.getElem?_eq_getElem hlt]; rfl
    have hnx : (l.take (i + 1)).flatten = (l.take i).flatten ++ strAt l i := by rw [take_get hsa]; simp
    repeat' (first | (show G _ (.ops .seq _ (⟨some _, .call { callee := .value (.func 26), args := _, argTypes := _ }, _, _, _, none⟩ :: _) :: _) _ _ _; refine G.call callAwake11 rfl rfl (law11_awake _ (hT.mono (by solve | (repeat (first | assumption | exact Heap.le_refl _ | (refine Heap.le_trans ?_ (by assumption))))))) (by solve | (repeat (first | apply Takes.nil | apply Take.hd | apply Take.tl | apply Takes.cons))) ?_; rintro _ h5 H5 ⟨rfl, rfl⟩ hle5) | (refine G.atIdx ?_; refine G.idxImmS rfl rfl (tyy rfl) (tyy rfl) (hv.mono (by solve | (repeat (first | assumption | exact Heap.le_refl _ | (refine Heap.le_trans ?_ (by assumption)))))) (by first | (simp only [Int.reduceToNat]; rfl) | with_reducible apply Int.toNat_natCast | exact Eq.refl _) rfl (by omega) ?_; intro _ _) | (refine G.atCode ?_; first | refine G.seq ?_ | refine G.region ?_ | refine G.block ?_ | refine G.skip ?_ | refine G.ret ?_ | (refine G.cond rfl ?_ ?_ <;> intro hc <;> (try simp only [tests, reduceCtorEq] at hc) <;> (try (exfalso; first | omega | exact absurd hc (by with_reducible assumption) | exact absurd (by with_reducible assumption) hc | exact Bool.noConfusion hc | exact hc | exact hc trivial | fail)))) | refine G.endOps ?_ | refine G.endBlk ?_ | (refine G.atBin ?_; first | (refine G.atAdd ?_; first | refine G.arith rfl rfl rfl rfl rfl (by simp only [inR]; omega) ?_ | refine G.catStr rfl rfl rfl (by first | omega | (simp only [lens] at *; omega)) ?_) | refine G.op rfl rfl ?_) | refine G.op rfl rfl ?_ | (refine G.atLen ?_; first | refine G.lenStr rfl (tyy rfl) rfl ?_) | (refine G.atLoad ?_; first | refine G.loadImm1 rfl (tyy rfl) rfl rfl (by assumption) rfl ?_))
    all_goals first | (exfalso; omega) | exact G.done1 rfl rfl [] (SubH.nil _) rfl | skip
    refine G.again (i + 1) ?_ (SubH.nil _) ⟨by omega, by rw [hnx, List.length_append]; omega⟩ (by solve | (repeat (first | assumption | exact Heap.le_refl _ | (refine Heap.le_trans ?_ (by assumption))))) (by omega)
    simp only [hnx]
    exact ⟨sint (by omega), rfl, rfl, rfl, rfl, rfl, rfl, trivial⟩
  · obtain rfl : i = l.length := by omega
    rw [List.take_length] at hfl ⊢
    have hS := fun h => ref11_Same (resM id 9 code l.flatten) nilV nilV nilV nilV nilV nilV nilV nilV nilV nilV nilV nilV h (zV rfl rfl rfl rfl rfl) (zV rfl rfl rfl rfl rfl)
    repeat' (first | (show G _ (.ops .seq _ (⟨some _, .call { callee := .value (.func 26), args := _, argTypes := _ }, _, _, _, none⟩ :: _) :: _) _ _ _; refine G.call callAwake11 rfl rfl (law11_awake _ (hT.mono (by solve | (repeat (first | assumption | exact Heap.le_refl _ | (refine Heap.le_trans ?_ (by assumption))))))) (by solve | (repeat (first | apply Takes.nil | apply Take.hd | apply Take.tl | apply Takes.cons))) ?_; rintro _ h5 H5 ⟨rfl, rfl⟩ hle5) | (show G _ (.ops .seq _ (⟨some _, .call { callee := .value (.func 33), args := _, argTypes := _ }, _, _, _, none⟩ :: _) :: _) _ _ _; refine G.call callResultW rfl rfl (wire_Result id 9 code l _ (by omega) (by omega) _ (hv.mono (by solve | (repeat (first | assumption | exact Heap.le_refl _ | (refine Heap.le_trans ?_ (by assumption))))))) (by solve | (repeat (first | apply Takes.nil | apply Take.hd | apply Take.tl | apply Takes.cons))) ?_; rintro _ h6 H6 ⟨rfl, rfl⟩ hle6) | (show G _ (.ops .seq _ (⟨some _, .call { callee := .value (.func 27), args := _, argTypes := _ }, _, _, _, none⟩ :: _) :: _) _ _ _; refine G.call callSame11 rfl rfl (hS _) (by solve | (repeat (first | apply Takes.nil | apply Take.hd | apply Take.tl | apply Takes.cons))) ?_; rintro _ h7 H7 ⟨rfl, rfl⟩ hle7) | (refine G.atCode ?_; first | refine G.seq ?_ | refine G.region ?_ | refine G.exit rfl ?_ | refine G.ret ?_ | (refine G.cond rfl ?_ ?_ <;> intro hc <;> (try simp only [tests, reduceCtorEq] at hc) <;> (try (exfalso; first | omega | exact absurd hc (by with_reducible assumption) | exact absurd (by with_reducible assumption) hc | exact Bool.noConfusion hc | exact hc | exact hc trivial | fail)))) | refine G.endOps ?_ | (refine G.atGd ?_; first | refine G.guardYes rfl rfl ?_) | (refine G.atBin ?_; first | refine G.op rfl rfl ?_) | refine G.op rfl rfl ?_ | (refine G.atLoad ?_; first | refine G.loadOwnA rfl (tyy rfl) rfl rfl (by solve | (repeat (first | apply Take.hd | apply Take.tl))) rfl rfl ?_) | (refine G.atSto ?_; refine G.storeOwn rfl rfl (tyy rfl) (by solve | (repeat (first | apply Take.hd | apply Take.tl))) rfl rfl rfl rfl ?_) | (refine G.atAlc ?_; refine G.alloc (tyy rfl) rfl rfl ?_; intro _) | (refine G.atBld ?_; refine G.build (tyy rfl) rfl rfl rfl ?_))
    all_goals first | (exfalso; omega) | (exfalso; simp_all; done) | exact G.done1 rfl rfl [] (SubH.nil _) rfl | skip
end Go.Proofs.YtibkffoeioidlaaDoor
