/- What stands in the reference's Read. -/
import Derived.Test.YtdlkobmlnpijgaaDoorObjRead
namespace Go.Proofs.YtdlkobmlnpijgaaDoor
open Go.RowKit
set_option linter.unusedVariables false
set_option linter.unusedSimpArgs false
def ObjD.wId (O : ObjD) (x : ByteArray) : ObjD := { O with id := x }
def ObjD.wTyp (O : ObjD) (x : Int) : ObjD := { O with typ := x }
def ObjD.wAlg (O : ObjD) (x : Int) : ObjD := { O with alg := x }
def ObjD.wLen (O : ObjD) (x : Int) : ObjD := { O with len := x }
def ObjD.wMask (O : ObjD) (x : Int) : ObjD := { O with mask := x }
def ObjD.wMat (O : ObjD) (x : List UInt8) : ObjD := { O with mat := x }
def ObjD.wSt (O : ObjD) (x : Int) : ObjD := { O with st := x }
def ObjD.wReason (O : ObjD) (x : Int) : ObjD := { O with reason := x }
def ObjD.wText (O : ObjD) (x : ByteArray) : ObjD := { O with msg := x }
def ObjD.wNames (O : ObjD) (x : List ByteArray) : ObjD := { O with names := x }
def ObjD.wLinks (O : ObjD) (x : List (Int × ByteArray)) : ObjD := { O with links := x }
def ObjD.wCustom (O : ObjD) (x : List (ByteArray × ByteArray)) : ObjD := { O with custom := x }
theorem oA_eq (p : PS) : ((((((zObj.wId (q1 p).1).wTyp (q2 p).1).wAlg (q3 p).1).wLen (q4 p).1).wMask (q5 p).1).wMat (q6 p).1).wSt (q7 p).1 = oA p := by
  unfold oA ObjD.wSt ObjD.wMat ObjD.wMask ObjD.wLen ObjD.wAlg ObjD.wTyp ObjD.wId zObj
  rfl
theorem oC_eq (ref : Bool) (p : PS) : (((oA p).wDates (q8 ref p).1).wReason (q9 ref p).1).wText (q10 ref p).1 = oC ref p := by
  unfold oC ObjD.wMsg ObjD.wText ObjD.wReason
  rfl
theorem oD_eq (ref : Bool) (p : PS) : (((oC ref p).wNames (q11 ref p).1).wLinks (q12 ref p).1).wCustom (q13 ref p).1 = oD ref p := by
  unfold oD ObjD.wLists ObjD.wCustom ObjD.wLinks ObjD.wNames
  rfl
theorem set_same {C : Array Value} {j : Nat} {v : Value} (h : C[j]? = some v) : C.setIfInBounds j v = C := by
  refine Array.ext_getElem? fun i => ?_
  rw [Array.getElem?_setIfInBounds]
  split
  · rename_i e
    subst e
    have := (Array.getElem?_eq_some_iff.1 h).1
    rw [if_pos this, h]
  · rfl
theorem seDH (O : ObjD) (s : ObjV) (hl : O.dates.length = 10) (k : Nat) (hk : k < 10) (h : Bool) : (objCells O s).setIfInBounds (7 + k * 2) (.bool h) = objCells (O.setDate k (h, (O.dat k).2)) s := by
  rw [← osD O s hl k hk h (O.dat k).2]
  refine (set_same ?_).symm
  rw [Array.getElem?_setIfInBounds, if_neg (by omega)]
  exact ocT O s k hk
theorem seDT (O : ObjD) (s : ObjV) (hl : O.dates.length = 10) (k : Nat) (hk : k < 10) (t : Int) : (objCells O s).setIfInBounds (7 + k * 2 + 1) (.int .i64 t) = objCells (O.setDate k ((O.dat k).1, t)) s := by
  rw [← osD O s hl k hk (O.dat k).1 t, set_same (ocH O s k hk)]
theorem setDate_ln (O : ObjD) (k : Nat) (d : Bool × Int) : (O.setDate k d).dates.length = O.dates.length := by unfold ObjD.setDate; simp
theorem setDate_twice (O : ObjD) (k : Nat) (d e : Bool × Int) : (O.setDate k d).setDate k e = O.setDate k e := by unfold ObjD.setDate; simp
theorem oB_dat (ref : Bool) (p : PS) (k : Nat) (hk : k < 10) : (oB ref p k).dat k = (false, 0) := by
  show ((rep (dateP ref) k (q7 p).2).1 ++ List.replicate (10 - k) (false, 0)).getD k (false, 0) = (false, 0)
  have hl := rep_len (dateP ref) k (q7 p).2
  rw [List.getD_eq_getElem?_getD, List.getElem?_append_right (by omega), hl, Nat.sub_self, List.getElem?_replicate, if_pos (by omega)]
  rfl
/-- The call's blocks: the result's b, the reader p, the object ob; F: the reader's, the argument's among them. -/
structure RdQ (OT RT : TypeId) (O : ObjD) (s : ObjV) (w : World) (b p ob : Nat) (F : List Nat) (ps : PS) (W : World) : Prop where
  res : W.heap[b]? = some (.cells (objCells zObj zObjV) OT (0, 0))
  box : W.heap[ob]? = some (.cells (objCells O s) OT (0, 0))
  rd : RdS RT W p ps F
  m : ObjM W O s
  foot : ∀ k ∈ s.foot, ob < k
  bel : Below b w W
  ord : b < p ∧ p < ob
  low : ∀ k ∈ F, k ≠ b ∧ k < ob
section
variable {OT PT RT : TypeId} {O O' : ObjD} {s s' : ObjV} {w W W' : World} {b p ob : Nat} {F : List Nat} {ps ps' : PS}
theorem RdQ.lt (h : RdQ OT RT O s w b p ob F ps W) : ob < W.heap.size := block_lt h.box
theorem RdQ.reader (h : RdQ OT RT O s w b p ob F ps W) (hc : Chg [p] W W') (hr : RdS RT W' p ps' F) : RdQ OT RT O s w b p ob F ps' W' := by
  have ho := h.ord
  refine ⟨(hc.block _ (block_lt h.res) (nin1 (by omega))).trans h.res, (hc.block _ (block_lt h.box) (nin1 (by omega))).trans h.box, hr,
    h.m.keep hc (fun k hk hm => by have := h.foot k hk; have := List.mem_singleton.1 hm; omega), h.foot, h.bel.trans (hc.below (fun k hk => by have := List.mem_singleton.1 hk; omega) (Nat.le_of_lt (block_lt h.res))), h.ord, h.low⟩
theorem RdQ.below (h : RdQ OT RT O s w b p ob F ps W) (hb : Below W.heap.size W W') : RdQ OT RT O s w b p ob F ps W' :=
  h.reader (Chg.of_below hb [p]) (h.rd.below hb)
theorem RdQ.store (h : RdQ OT RT O s w b p ob F ps W) (hc : Chg [ob] W W') (hb : W'.heap[ob]? = some (.cells (objCells O' s') OT (0, 0))) (hm : ObjM W O' s') (hf : ∀ k ∈ s'.foot, ob < k) : RdQ OT RT O' s' w b p ob F ps W' := by
  have ho := h.ord
  refine ⟨(hc.block _ (block_lt h.res) (nin1 (by omega))).trans h.res, hb, h.rd.keep hc (fun k hk hm => by have := (h.low k hk).2; have := List.mem_singleton.1 hm; omega),
    hm.keep hc (fun k hk hm => by have := hf k hk; have := List.mem_singleton.1 hm; omega), hf, h.bel.trans (hc.below (fun k hk => by have := List.mem_singleton.1 hk; omega) (Nat.le_of_lt (block_lt h.res))), h.ord, h.low⟩
theorem RdQ.set (h : RdQ OT RT O s w b p ob F ps W) (j : Nat) (v : Value) (he : (objCells O s).setIfInBounds j v = objCells O' s') (hm : ObjM W O' s') (hf : ∀ k ∈ s'.foot, ob < k) : RdQ OT RT O' s' w b p ob F ps (W.setCell ⟨ob, j, none⟩ v) :=
  h.store ((Chg.refl [ob] W).setCell (.inl (by simp)) v) (he ▸ block_setCell h.box v) hm hf
theorem RdQ.fz (h : RdQ OT RT O s w b p ob F ps W) (j : Nat) : W.frozen? ⟨ob, j, none⟩ = false := frozen_of_block h.box
theorem RdQ.cell (h : RdQ OT RT O s w b p ob F ps W) {j : Nat} {v : Value} (hv : (objCells O s)[j]? = some v) : W.cell? ⟨ob, j, none⟩ = some v := cell_of_block h.box hv
theorem RdQ.sId (h : RdQ OT RT O s w b p ob F ps W) (x : ByteArray) : RdQ OT RT (O.wId x) s w b p ob F ps (W.setCell ⟨ob, 0, none⟩ (.string x)) := h.set 0 _ rfl (h.m.data rfl rfl rfl rfl h.m.dl) h.foot
theorem RdQ.sTyp (h : RdQ OT RT O s w b p ob F ps W) (x : Int) : RdQ OT RT (O.wTyp x) s w b p ob F ps (W.setCell ⟨ob, 1, none⟩ (.int .i64 x)) := h.set 1 _ rfl (h.m.data rfl rfl rfl rfl h.m.dl) h.foot
theorem RdQ.sAlg (h : RdQ OT RT O s w b p ob F ps W) (x : Int) : RdQ OT RT (O.wAlg x) s w b p ob F ps (W.setCell ⟨ob, 2, none⟩ (.int .i64 x)) := h.set 2 _ rfl (h.m.data rfl rfl rfl rfl h.m.dl) h.foot
theorem RdQ.sLen (h : RdQ OT RT O s w b p ob F ps W) (x : Int) : RdQ OT RT (O.wLen x) s w b p ob F ps (W.setCell ⟨ob, 3, none⟩ (.int .i64 x)) := h.set 3 _ rfl (h.m.data rfl rfl rfl rfl h.m.dl) h.foot
theorem RdQ.sMask (h : RdQ OT RT O s w b p ob F ps W) (x : Int) : RdQ OT RT (O.wMask x) s w b p ob F ps (W.setCell ⟨ob, 4, none⟩ (.int .i64 x)) := h.set 4 _ rfl (h.m.data rfl rfl rfl rfl h.m.dl) h.foot
theorem RdQ.sSt (h : RdQ OT RT O s w b p ob F ps W) (x : Int) : RdQ OT RT (O.wSt x) s w b p ob F ps (W.setCell ⟨ob, 6, none⟩ (.int .i64 x)) := h.set 6 _ rfl (h.m.data rfl rfl rfl rfl h.m.dl) h.foot
theorem RdQ.sReason (h : RdQ OT RT O s w b p ob F ps W) (x : Int) : RdQ OT RT (O.wReason x) s w b p ob F ps (W.setCell ⟨ob, 27, none⟩ (.int .i64 x)) := h.set 27 _ rfl (h.m.data rfl rfl rfl rfl h.m.dl) h.foot
theorem RdQ.sText (h : RdQ OT RT O s w b p ob F ps W) (x : ByteArray) : RdQ OT RT (O.wText x) s w b p ob F ps (W.setCell ⟨ob, 28, none⟩ (.string x)) := h.set 28 _ rfl (h.m.data rfl rfl rfl rfl h.m.dl) h.foot
theorem RdQ.sArch (h : RdQ OT RT O s w b p ob F ps W) (x : Bool) : RdQ OT RT (O.wArch x) s w b p ob F ps (W.setCell ⟨ob, 36, none⟩ (.bool x)) := h.set 36 _ rfl (h.m.data rfl rfl rfl rfl h.m.dl) h.foot
theorem RdQ.sMat (h : RdQ OT RT O s w b p ob F ps W) {xs : List UInt8} {a : Option Addr} {n c : Nat} (hx : SlR W ⟨a, n, c⟩ 1 (xs.map B8)) (hf : ∀ k ∈ (Sl.mk a n c).blk, ob < k) : RdQ OT RT (O.wMat xs) { s with mat := ⟨a, n, c⟩ } w b p ob F ps (W.setCell ⟨ob, 5, none⟩ (.slice a n c)) := by
  refine h.set 5 _ rfl ⟨hx, h.m.names, h.m.links, h.m.custom, h.m.dl⟩ ?_
  intro k hk
  rcases mem_foot.1 hk with h' | h' | h' | h'
  · exact hf k h'
  · exact h.foot k (mem_foot.2 (.inr (.inl h')))
  · exact h.foot k (mem_foot.2 (.inr (.inr (.inl h'))))
  · exact h.foot k (mem_foot.2 (.inr (.inr (.inr h'))))
theorem RdQ.sNames (h : RdQ OT RT O s w b p ob F ps W) {xs : List ByteArray} {a : Option Addr} {n c : Nat} (hx : SlR W ⟨a, n, c⟩ 1 (xs.map Value.string)) (hf : ∀ k ∈ (Sl.mk a n c).blk, ob < k) : RdQ OT RT (O.wNames xs) { s with names := ⟨a, n, c⟩ } w b p ob F ps (W.setCell ⟨ob, 29, none⟩ (.slice a n c)) := by
  refine h.set 29 _ rfl ⟨h.m.mat, hx, h.m.links, h.m.custom, h.m.dl⟩ ?_
  intro k hk
  rcases mem_foot.1 hk with h' | h' | h' | h'
  · exact h.foot k (mem_foot.2 (.inl h'))
  · exact hf k h'
  · exact h.foot k (mem_foot.2 (.inr (.inr (.inl h'))))
  · exact h.foot k (mem_foot.2 (.inr (.inr (.inr h'))))
theorem RdQ.sLinks (h : RdQ OT RT O s w b p ob F ps W) {xs : List (Int × ByteArray)} {a : Option Addr} {n c : Nat} (hx : SlR W ⟨a, n, c⟩ 2 (linkCells xs)) (hf : ∀ k ∈ (Sl.mk a n c).blk, ob < k) : RdQ OT RT (O.wLinks xs) { s with links := ⟨a, n, c⟩ } w b p ob F ps (W.setCell ⟨ob, 30, none⟩ (.slice a n c)) := by
  refine h.set 30 _ rfl ⟨h.m.mat, h.m.names, hx, h.m.custom, h.m.dl⟩ ?_
  intro k hk
  rcases mem_foot.1 hk with h' | h' | h' | h'
  · exact h.foot k (mem_foot.2 (.inl h'))
  · exact h.foot k (mem_foot.2 (.inr (.inl h')))
  · exact hf k h'
  · exact h.foot k (mem_foot.2 (.inr (.inr (.inr h'))))
theorem RdQ.sCustom (h : RdQ OT RT O s w b p ob F ps W) {xs : List (ByteArray × ByteArray)} {a : Option Addr} {n c : Nat} (hx : SlR W ⟨a, n, c⟩ 2 (custCells xs)) (hf : ∀ k ∈ (Sl.mk a n c).blk, ob < k) : RdQ OT RT (O.wCustom xs) { s with custom := ⟨a, n, c⟩ } w b p ob F ps (W.setCell ⟨ob, 31, none⟩ (.slice a n c)) := by
  refine h.set 31 _ rfl ⟨h.m.mat, h.m.names, h.m.links, hx, h.m.dl⟩ ?_
  intro k hk
  rcases mem_foot.1 hk with h' | h' | h' | h'
  · exact h.foot k (mem_foot.2 (.inl h'))
  · exact h.foot k (mem_foot.2 (.inr (.inl h')))
  · exact h.foot k (mem_foot.2 (.inr (.inr (.inl h'))))
  · exact hf k h'
theorem RdQ.sDH (h : RdQ OT RT O s w b p ob F ps W) (k : Nat) (hk : k < 10) (x : Bool) : RdQ OT RT (O.setDate k (x, (O.dat k).2)) s w b p ob F ps (W.setCell ⟨ob, 7 + k * 2, none⟩ (.bool x)) :=
  h.set _ _ (seDH O s h.m.dl k hk x) (h.m.data rfl rfl rfl rfl ((setDate_ln _ _ _).trans h.m.dl)) h.foot
theorem RdQ.sDT (h : RdQ OT RT O s w b p ob F ps W) (k : Nat) (hk : k < 10) (x : Int) : RdQ OT RT (O.setDate k ((O.dat k).1, x)) s w b p ob F ps (W.setCell ⟨ob, 7 + k * 2 + 1, none⟩ (.int .i64 x)) :=
  h.set _ _ (seDT O s h.m.dl k hk x) (h.m.data rfl rfl rfl rfl ((setDate_ln _ _ _).trans h.m.dl)) h.foot
end
/-- The same, but for what the object's slices read as: while a row of the object grows. -/
structure RdK (OT RT : TypeId) (C : Array Value) (w : World) (b p ob : Nat) (F : List Nat) (ps : PS) (W : World) : Prop where
  res : W.heap[b]? = some (.cells (objCells zObj zObjV) OT (0, 0))
  box : W.heap[ob]? = some (.cells C OT (0, 0))
  rd : RdS RT W p ps F
  bel : Below b w W
  ord : b < p ∧ p < ob
  low : ∀ k ∈ F, k ≠ b ∧ k < ob
section
variable {OT RT : TypeId} {O : ObjD} {s : ObjV} {C C' : Array Value} {w W W' : World} {b p ob : Nat} {F G : List Nat} {ps ps' : PS}
theorem RdQ.toK (h : RdQ OT RT O s w b p ob F ps W) : RdK OT RT (objCells O s) w b p ob F ps W := ⟨h.res, h.box, h.rd, h.bel, h.ord, h.low⟩
theorem RdK.toQ (h : RdK OT RT (objCells O s) w b p ob F ps W) (hm : ObjM W O s) (hf : ∀ k ∈ s.foot, ob < k) : RdQ OT RT O s w b p ob F ps W := ⟨h.res, h.box, h.rd, hm, hf, h.bel, h.ord, h.low⟩
theorem RdK.lt (h : RdK OT RT C w b p ob F ps W) : ob < W.heap.size := block_lt h.box
theorem RdK.reader (h : RdK OT RT C w b p ob F ps W) (hc : Chg [p] W W') (hr : RdS RT W' p ps' F) : RdK OT RT C w b p ob F ps' W' := by
  have ho := h.ord
  exact ⟨(hc.block _ (block_lt h.res) (nin1 (by omega))).trans h.res, (hc.block _ (block_lt h.box) (nin1 (by omega))).trans h.box, hr,
    h.bel.trans (hc.below (fun k hk => by have := List.mem_singleton.1 hk; omega) (Nat.le_of_lt (block_lt h.res))), h.ord, h.low⟩
theorem RdK.grow (h : RdK OT RT C w b p ob F ps W) (hc : Chg G W W') (hG : ∀ k ∈ G, ob < k) : RdK OT RT C w b p ob F ps W' := by
  have ho := h.ord
  exact ⟨(hc.block _ (block_lt h.res) (fun hm => by have := hG _ hm; omega)).trans h.res, (hc.block _ (block_lt h.box) (fun hm => by have := hG _ hm; omega)).trans h.box, h.rd.keep hc (fun k hk hm => by have := hG k hm; have := (h.low k hk).2; omega),
    h.bel.trans (hc.below (fun k hk => by have := hG k hk; omega) (Nat.le_of_lt (block_lt h.res))), h.ord, h.low⟩
theorem RdK.set (h : RdK OT RT C w b p ob F ps W) (j : Nat) (v : Value) (he : C.setIfInBounds j v = C') : RdK OT RT C' w b p ob F ps (W.setCell ⟨ob, j, none⟩ v) := by
  have ho := h.ord
  have hc : Chg [ob] W (W.setCell ⟨ob, j, none⟩ v) := (Chg.refl [ob] W).setCell (.inl (by simp)) v
  exact ⟨(hc.block _ (block_lt h.res) (nin1 (by omega))).trans h.res, he ▸ block_setCell h.box v, h.rd.keep hc (fun k hk hm => by have := (h.low k hk).2; have := List.mem_singleton.1 hm; omega),
    h.bel.trans (hc.below (fun k hk => by have := List.mem_singleton.1 hk; omega) (Nat.le_of_lt (block_lt h.res))), h.ord, h.low⟩
theorem RdK.fz (h : RdK OT RT C w b p ob F ps W) (j : Nat) : W.frozen? ⟨ob, j, none⟩ = false := frozen_of_block h.box
theorem RdK.cell (h : RdK OT RT C w b p ob F ps W) {j : Nat} {v : Value} (hv : C[j]? = some v) : W.cell? ⟨ob, j, none⟩ = some v := cell_of_block h.box hv
end
theorem RdS.lackc {T : TypeId} {w : World} {p : Nat} {s : PS} {F : List Nat} (h : RdS T w p s F) : w.cell? ⟨p, 1, none⟩ = some (.bool s.2) := by
  obtain ⟨hl, F', ⟨a, n, c, hn, h1, _⟩, h2⟩ := h
  exact cell_of_block (j := 1) h1 rfl
theorem oC_names (ref : Bool) (p : PS) : (oC ref p).wNames [] = oC ref p := by
  unfold oC oA ObjD.wMsg ObjD.wDates ObjD.wNames
  rfl
theorem oC_links (ref : Bool) (p : PS) (x : List ByteArray) : ((oC ref p).wNames x).wLinks [] = (oC ref p).wNames x := by
  unfold oC oA ObjD.wMsg ObjD.wDates ObjD.wNames ObjD.wLinks
  rfl
theorem oC_custom (ref : Bool) (p : PS) (x : List ByteArray) (y : List (Int × ByteArray)) : (((oC ref p).wNames x).wLinks y).wCustom [] = ((oC ref p).wNames x).wLinks y := by
  unfold oC oA ObjD.wMsg ObjD.wDates ObjD.wNames ObjD.wLinks ObjD.wCustom
  rfl
/-- A new slice of one element, in a block of its own. -/
def stNewR (p B : Nat) (hp : p < B) (size : Nat) (xs : List Value) : St (Chg [p]) :=
  ⟨fun v w => ∃ g, v = .slice (some ⟨g, 0, none⟩) 1 1 ∧ B ≤ g ∧ RdC w (some ⟨g, 0, none⟩) size xs, fun v w w' h hg =>
    let ⟨g, h0, h1, h2⟩ := h
    ⟨g, h0, h1, hg.rdC h2 (fun q off sp hq hm => by cases hq; have := List.mem_singleton.1 hm; omega)⟩⟩
end Go.Proofs.YtdlkobmlnpijgaaDoor
