/- What stands in object.Read; what it answers. -/
import Derived.Test.YtdlkobmlnpijgaaDoorObjList
import Derived.Test.YtdlkobmlnpijgaaDoorObjLayW
namespace Go.Proofs.YtdlkobmlnpijgaaDoor
open Go.RowKit
set_option linter.unusedVariables false
set_option linter.unusedSimpArgs false
def q1 (p : PS) := pT p
def q2 (p : PS) := pI 1 (q1 p).2
def q3 (p : PS) := pI 1 (q2 p).2
def q4 (p : PS) := pI 4 (q3 p).2
def q5 (p : PS) := pI 4 (q4 p).2
def q6 (p : PS) := pS (q5 p).2
def q7 (p : PS) := pI 1 (q6 p).2
def q8 (ref : Bool) (p : PS) := rep (dateP ref) 10 (q7 p).2
def q9 (ref : Bool) (p : PS) := pI 1 (q8 ref p).2
def q10 (ref : Bool) (p : PS) := pT (q9 ref p).2
def q11 (ref : Bool) (p : PS) := listP pT (q10 ref p).2
def q12 (ref : Bool) (p : PS) := listP linkP (q11 ref p).2
def q13 (ref : Bool) (p : PS) := listP custP (q12 ref p).2
def q14 (ref : Bool) (p : PS) := limP ref (q13 ref p).2
def q15 (ref : Bool) (p : PS) := pI 1 (q14 ref p).2
def ObjD.wDates (O : ObjD) (d : List (Bool × Int)) : ObjD := { O with dates := d }
def ObjD.wMsg (O : ObjD) (r : Int) (m : ByteArray) : ObjD := { O with reason := r, msg := m }
def ObjD.wLists (O : ObjD) (n : List ByteArray) (l : List (Int × ByteArray)) (c : List (ByteArray × ByteArray)) : ObjD := { O with names := n, links := l, custom := c }
def ObjD.wLim (O : ObjD) (x : LimD) : ObjD := { O with limHas := x.has, total := x.total, count := x.count, unit := x.unit }
def ObjD.wArch (O : ObjD) (b : Bool) : ObjD := { O with arch := b }
/-- As far as the state is read. -/
def oA (p : PS) : ObjD := { id := (q1 p).1, typ := (q2 p).1, alg := (q3 p).1, len := (q4 p).1, mask := (q5 p).1, mat := (q6 p).1, st := (q7 p).1 }
def oB (ref : Bool) (p : PS) (k : Nat) : ObjD := (oA p).wDates ((rep (dateP ref) k (q7 p).2).1 ++ List.replicate (10 - k) (false, 0))
def oC (ref : Bool) (p : PS) : ObjD := ((oA p).wDates (q8 ref p).1).wMsg (q9 ref p).1 (q10 ref p).1
def oD (ref : Bool) (p : PS) : ObjD := (oC ref p).wLists (q11 ref p).1 (q12 ref p).1 (q13 ref p).1
def oE (ref : Bool) (p : PS) : ObjD := (oD ref p).wLim (q14 ref p).1
def oF (ref : Bool) (p : PS) : ObjD := (oE ref p).wArch ((q15 ref p).1 == 1)
theorem parse_oF (ref : Bool) (p : PS) : parseO ref p = (oF ref p, (q15 ref p).2) := by
  unfold parseO oF oE oD oC oA ObjD.wArch ObjD.wLim ObjD.wLists ObjD.wMsg ObjD.wDates q15 q14 q13 q12 q11 q10 q9 q8 q7 q6 q5 q4 q3 q2 q1
  rfl
theorem rep_zero {α : Type} (one : PS → α × PS) (p : PS) : rep one 0 p = ([], p) := by rw [rep]
theorem rep_len {α : Type} (one : PS → α × PS) : ∀ (n : Nat) (p : PS), (rep one n p).1.length = n
  | 0, _ => rfl
  | n + 1, p => by rw [rep, List.length_cons, rep_len one n]
theorem rep_snoc {α : Type} (one : PS → α × PS) : ∀ (n : Nat) (p : PS), rep one (n + 1) p = ((rep one n p).1 ++ [(one (rep one n p).2).1], (one (rep one n p).2).2)
  | 0, p => rfl
  | n + 1, p => by
    rw [rep, rep_snoc one n]
    rfl
theorem oB_zero (ref : Bool) (p : PS) : oB ref p 0 = oA p := by
  unfold oB
  rw [rep]
  rfl
theorem oB_len (ref : Bool) (p : PS) (k : Nat) (hk : k ≤ 10) : (oB ref p k).dates.length = 10 := by
  show ((rep (dateP ref) k (q7 p).2).1 ++ List.replicate (10 - k) (false, 0)).length = 10
  rw [List.length_append, rep_len]; simp; omega
theorem oB_step (ref : Bool) (p : PS) (k : Nat) (hk : k < 10) : (oB ref p k).setDate k (dateP ref (rep (dateP ref) k (q7 p).2).2).1 = oB ref p (k + 1) := by
  unfold ObjD.setDate oB ObjD.wDates
  simp only [rep_snoc]
  have hl := rep_len (dateP ref) k (q7 p).2
  have : 10 - k = (10 - (k + 1)) + 1 := by omega
  rw [this, List.replicate_succ, List.set_append_right _ _ (by omega), hl, Nat.sub_self, List.set_cons_zero, List.append_assoc]
  rfl
theorem oB_ten (ref : Bool) (p : PS) : oB ref p 10 = (oA p).wDates (q8 ref p).1 := by
  unfold oB q8
  simp
theorem oF_len (ref : Bool) (p : PS) : (oF ref p).dates.length = 10 := rep_len _ 10 _
theorem pS_le (s : PS) : (pS s).1.length ≤ 65535 := by
  have h2 : ∀ l lack, (taken l lack 2).length ≤ 2 := fun l lack => by unfold taken; split <;> simp; omega
  have hn : num (taken s.1 s.2 2) ≤ 65535 := by
    have := h2 s.1 s.2
    generalize taken s.1 s.2 2 = l at *
    match l, this with
    | [], _ => unfold num; simp
    | [c], _ => have := c.toNat_lt; unfold num; simp; omega
    | [c, d], _ => have := c.toNat_lt; have := d.toNat_lt; unfold num; simp; omega
  have h3 : ∀ l lack z, (taken l lack z).length ≤ z.toNat := fun l lack z => by unfold taken; split <;> simp; omega
  refine Nat.le_trans (h3 _ _ _) ?_
  rw [asInt_small _ (by omega)]
  omega
theorem flatMap_le {α : Type} {f : α → List UInt8} {m : Nat} : ∀ (l : List α), (∀ x ∈ l, (f x).length ≤ m) → (l.flatMap f).length ≤ l.length * m
  | [], _ => by simp
  | x :: l, h => by
    rw [List.flatMap_cons, List.length_append, List.length_cons, Nat.add_mul]
    have := h x (by simp)
    have := flatMap_le l (fun y hy => h y (by simp [hy]))
    omega
theorem dateB_len (d : Bool × Int) : (dateB d).length ≤ 9 := by
  obtain ⟨b, z⟩ := d
  have h1 : (be 1 (flagN b)).length = 1 := be_len _ _
  have h8 : (be 8 (u64nat z)).length = 8 := be_len _ _
  unfold dateB
  cases b
  · simp only [Bool.false_eq_true, if_false, List.length_append, List.length_nil, h1]; omega
  · simp only [if_true, List.length_append, h1, h8]; omega
theorem limB_len (O : ObjD) : (limB O).length ≤ 18 := by
  have h1 : (be 1 (flagN O.limHas)).length = 1 := be_len _ _
  have h2 : (be 8 (u64nat O.total)).length = 8 := be_len _ _
  have h3 : (be 8 (u64nat O.count)).length = 8 := be_len _ _
  have h4 : (be 1 (u64nat O.unit)).length = 1 := be_len _ _
  unfold limB
  cases hb : O.limHas
  · rw [hb] at h1; simp only [Bool.false_eq_true, if_false, List.length_append, List.length_nil, h1]; omega
  · rw [hb] at h1; simp only [if_true, List.length_append, h1, h2, h3, h4]; omega
theorem layO_small {O : ObjD} (h : rightO O = true) (hd : O.dates.length = 10) : (layO O).length ≤ 65535 := by
  obtain ⟨h1, h2, h3, h4, h5, h6, h7, h8, h9⟩ := right_sizes h
  have t1 := textB_len h1
  have t3 := textB_len h3
  have e1 := flatMap_le (f := dateB) (m := 9) O.dates (fun x _ => dateB_len x)
  have e2 := flatMap_le (f := textB) (m := 122) O.names (fun x hx => textB_len (h4 x hx))
  have e3 := flatMap_le (f := linkB) (m := 123) O.links (fun x hx => by unfold linkB; rw [List.length_append, be_len]; have := textB_len (h6 x hx); omega)
  have e4 := flatMap_le (f := custB) (m := 244) O.custom (fun x hx => by unfold custB; rw [List.length_append]; have := textB_len (h8 x hx).1; have := textB_len (h8 x hx).2; omega)
  have e5 : (limB O).length ≤ 18 := limB_len O
  have e6 : (shortB O.mat).length = 2 + O.mat.length := by unfold shortB; rw [List.length_append, be_len]
  have e7 : (layO O).length = (textB O.id).length + (1 + (1 + (4 + (4 + ((shortB O.mat).length + (1 + ((O.dates.flatMap dateB).length + (1 + ((textB O.msg).length + (1 + ((O.names.flatMap textB).length + (1 + ((O.links.flatMap linkB).length + (1 + ((O.custom.flatMap custB).length + ((limB O).length + 1)))))))))))))))) := by
    unfold layO
    simp only [List.length_append, be_len]
  generalize (layO O).length = z at *
  clear h h1 h3 h4 h6 h8
  rw [hd] at e1
  omega
/-- What Read answers. -/
def ReadRes (l : List UInt8) (w : World) (e : Ending) (w' : World) : Prop :=
  Below w.heap.size w w' ∧ ∃ (O : ObjD) (s : ObjV), ObjM w' O s ∧ (∀ k ∈ s.foot, w.heap.size ≤ k) ∧
    ((IsObj l O ∧ e = .returned (.tuple #[.agg (objCells O s), .int .i64 0])) ∨ ((∀ P, ¬ IsObj l P) ∧ O = zObj ∧ s = zObjV ∧ e = .returned (.tuple #[.agg (objCells zObj zObjV), .int .i64 5])))
section
variable {ref : Bool} {l : List UInt8}
theorem read_is {P : ObjD} (h : IsObj l P) : oF ref (l, false) = P ∧ (q15 ref (l, false)).2.2 = false := by
  have := isObj_parse ref h
  rw [parse_oF] at this
  exact ⟨(Prod.mk.inj this).1, by rw [(Prod.mk.inj this).2]⟩
theorem read_ok (hr : rightO (oF ref (l, false)) = true) (hl : layO (oF ref (l, false)) = l) : IsObj l (oF ref (l, false)) := ⟨hr, oF_len _ _, hl⟩
theorem read_lack (h : (q15 ref (l, false)).2.2 = true) : ∀ P, ¬ IsObj l P := fun P hP => by
  have := (read_is (ref := ref) hP).2
  rw [h] at this; cases this
theorem read_not (h : rightO (oF ref (l, false)) = false) : ∀ P, ¬ IsObj l P := fun P hP => by
  have := (read_is (ref := ref) hP).1
  rw [this, hP.1] at h; cases h
theorem read_ne (h : layO (oF ref (l, false)) ≠ l) : ∀ P, ¬ IsObj l P := fun P hP => by
  have := (read_is (ref := ref) hP).1
  rw [this] at h; exact h hP.2.2
end
/-- A row of the call's own, whatever else the reader does. -/
def stRow (p B : Nat) (hp : p < B) (T : TypeId) (size m : Nat) (xs : List Value) : St (Chg [p]) :=
  ⟨fun v w => ∃ a n c, v = .slice a n c ∧ n ≤ m ∧ w.ownsRow B T size (.slice a n c) n xs, fun v w w' h hg =>
    let ⟨a, n, c, h0, h1, h2⟩ := h
    ⟨a, n, c, h0, h1, hg.owns h2 (fun q hq hm => by have := (h2.lt q hq).1; have := List.mem_singleton.1 hm; omega)⟩⟩
def stObjA (p B : Nat) (hp : p < B) (T : TypeId) (m : Nat) (O : ObjD) : St (Chg [p]) :=
  ⟨fun v w => ∃ a n c, v = .agg (objCells O { mat := ⟨a, n, c⟩ }) ∧ n ≤ m ∧ w.ownsRow B T 1 (.slice a n c) n (O.mat.map B8), fun v w w' h hg =>
    let ⟨a, n, c, h0, h1, h2⟩ := h
    ⟨a, n, c, h0, h1, hg.owns h2 (fun q hq hm => by have := (h2.lt q hq).1; have := List.mem_singleton.1 hm; omega)⟩⟩
def stBox (p B : Nat) (hp : p < B) (T : TypeId) : St (Chg [p]) :=
  ⟨fun v w => ∃ q, v = .pointer (some ⟨q, 0, none⟩) ∧ B ≤ q ∧ w.heap[q]? = some (.cells (objCells zObj zObjV) T (0, 0)), fun v w w' h hg =>
    let ⟨q, h0, h1, h2⟩ := h
    ⟨q, h0, h1, (hg.block q (block_lt h2) (fun hm => by have := List.mem_singleton.1 hm; omega)).trans h2⟩⟩
/-- The call's blocks: the result's b, the reader p, the variable pv, the object ob. -/
structure RdO (OT PT RT : TypeId) (O : ObjD) (s : ObjV) (w : World) (b pv p ob : Nat) (F : List Nat) (ps : PS) (W : World) : Prop where
  res : W.heap[b]? = some (.cells (objCells zObj zObjV) OT (0, 0))
  var : W.heap[pv]? = some (.cells #[.pointer (some ⟨p, 0, none⟩)] PT (0, 0))
  box : W.heap[ob]? = some (.cells (objCells O s) OT (0, 0))
  rd : RdS RT W p ps F
  m : ObjM W O s
  foot : ∀ k ∈ s.foot, pv < k ∧ k ≠ ob
  bel : Below b w W
  ord : b < p ∧ p < pv ∧ pv < ob
  low : ∀ k ∈ F, b < k ∧ k < pv
section
variable {OT PT RT : TypeId} {O O' : ObjD} {s s' : ObjV} {w W W' : World} {b pv p ob : Nat} {F : List Nat} {ps ps' : PS}
theorem RdO.lt (h : RdO OT PT RT O s w b pv p ob F ps W) : ob < W.heap.size := block_lt h.box
theorem RdO.flt (h : RdO OT PT RT O s w b pv p ob F ps W) : ∀ k ∈ F, k < W.heap.size := fun k hk => by have := (h.low k hk).2; have := h.ord; have := h.lt; omega
theorem RdO.reader (h : RdO OT PT RT O s w b pv p ob F ps W) (hc : Chg [p] W W') (hr : RdS RT W' p ps' F) : RdO OT PT RT O s w b pv p ob F ps' W' := by
  have ho := h.ord
  refine ⟨(hc.block _ (block_lt h.res) (nin1 (by omega))).trans h.res, (hc.block _ (block_lt h.var) (nin1 (by omega))).trans h.var, (hc.block _ (block_lt h.box) (nin1 (by omega))).trans h.box, hr,
    h.m.keep hc (fun k hk hm => by have := (h.foot k hk).1; have := List.mem_singleton.1 hm; omega), h.foot, h.bel.trans (hc.below (fun k hk => by have := List.mem_singleton.1 hk; omega) (Nat.le_of_lt (block_lt h.res))), h.ord, h.low⟩
theorem RdO.below (h : RdO OT PT RT O s w b pv p ob F ps W) (hb : Below W.heap.size W W') : RdO OT PT RT O s w b pv p ob F ps W' :=
  h.reader (Chg.of_below hb [p]) (h.rd.below hb)
theorem RdO.store (h : RdO OT PT RT O s w b pv p ob F ps W) (hc : Chg [ob] W W') (hb : W'.heap[ob]? = some (.cells (objCells O' s') OT (0, 0))) (hm : ObjM W O' s') (hf : ∀ k ∈ s'.foot, pv < k ∧ k ≠ ob) : RdO OT PT RT O' s' w b pv p ob F ps W' := by
  have ho := h.ord
  refine ⟨(hc.block _ (block_lt h.res) (nin1 (by omega))).trans h.res, (hc.block _ (block_lt h.var) (nin1 (by omega))).trans h.var, hb, h.rd.keep hc (fun k hk hm => by have := (h.low k hk).2; have := List.mem_singleton.1 hm; omega),
    hm.keep hc (fun k hk hm => (hf k hk).2 (List.mem_singleton.1 hm)), hf, h.bel.trans (hc.below (fun k hk => by have := List.mem_singleton.1 hk; omega) (Nat.le_of_lt (block_lt h.res))), h.ord, h.low⟩
theorem RdO.set (h : RdO OT PT RT O s w b pv p ob F ps W) (j : Nat) (v : Value) (he : (objCells O s).setIfInBounds j v = objCells O' s') (hm : ObjM W O' s') (hf : ∀ k ∈ s'.foot, pv < k ∧ k ≠ ob) : RdO OT PT RT O' s' w b pv p ob F ps (W.setCell ⟨ob, j, none⟩ v) :=
  h.store ((Chg.refl [ob] W).setCell (.inl (by simp)) v) (he ▸ block_setCell h.box v) hm hf
theorem RdO.both (h : RdO OT PT RT O s w b pv p ob F ps W) (hc : Chg [p, ob] W W') (hr : RdS RT W' p ps' F) (hb : W'.heap[ob]? = some (.cells (objCells O' s) OT (0, 0))) (hm : ObjM W O' s) : RdO OT PT RT O' s w b pv p ob F ps' W' := by
  have ho := h.ord
  have n1 : b ∉ [p, ob] := by simp; omega
  have n2 : pv ∉ [p, ob] := by simp; omega
  refine ⟨(hc.block _ (block_lt h.res) n1).trans h.res, (hc.block _ (block_lt h.var) n2).trans h.var, hb, hr, hm.keep hc (fun k hk hm => ?_), h.foot, h.bel.trans (hc.below (fun k hk => ?_) (Nat.le_of_lt (block_lt h.res))), h.ord, h.low⟩
  · have h1 := h.foot k hk
    simp at hm
    omega
  · simp at hk; omega
theorem RdO.fz (h : RdO OT PT RT O s w b pv p ob F ps W) (j : Nat) : W.frozen? ⟨ob, j, none⟩ = false := frozen_of_block h.box
theorem RdO.cell (h : RdO OT PT RT O s w b pv p ob F ps W) {j : Nat} {v : Value} (hv : (objCells O s)[j]? = some v) : W.cell? ⟨ob, j, none⟩ = some v := cell_of_block h.box hv
theorem RdO.ptr (h : RdO OT PT RT O s w b pv p ob F ps W) : W.cell? ⟨pv, 0, none⟩ = some (.pointer (some ⟨p, 0, none⟩)) := cell_of_block (j := 0) h.var rfl
end
section
variable {W : World} {O : ObjD} {s : ObjV}
theorem ObjM.wMsg (h : ObjM W O s) (r : Int) (m : ByteArray) : ObjM W (O.wMsg r m) s := h.data rfl rfl rfl rfl h.dl
theorem ObjM.wLim (h : ObjM W O s) (x : LimD) : ObjM W (O.wLim x) s := h.data rfl rfl rfl rfl h.dl
theorem ObjM.wArch (h : ObjM W O s) (b : Bool) : ObjM W (O.wArch b) s := h.data rfl rfl rfl rfl h.dl
theorem seMsg (O : ObjD) (s : ObjV) (r : Int) (m : ByteArray) : ((objCells O s).setIfInBounds 27 (.int .i64 r)).setIfInBounds 28 (.string m) = objCells (O.wMsg r m) s := rfl
theorem seLists (O : ObjD) (s : ObjV) (n : List ByteArray) (l : List (Int × ByteArray)) (c : List (ByteArray × ByteArray)) (x y z : Sl) :
    (((objCells O s).setIfInBounds 29 (.slice x.a x.n x.c)).setIfInBounds 30 (.slice y.a y.n y.c)).setIfInBounds 31 (.slice z.a z.n z.c) = objCells (O.wLists n l c) { s with names := x, links := y, custom := z } := rfl
theorem seArch (O : ObjD) (s : ObjV) (b : Bool) : (objCells O s).setIfInBounds 36 (.bool b) = objCells (O.wArch b) s := rfl
theorem segLimW (O : ObjD) (s : ObjV) (x : LimD) : setSeg (objCells O s) 32 [.bool x.has, .int .i64 x.total, .int .i64 x.count, .int .i64 x.unit] = objCells (O.wLim x) s := rfl
end
section
variable {OT PT RT : TypeId} {O : ObjD} {s : ObjV} {w W : World} {b pv p ob : Nat} {F : List Nat} {ps : PS}
theorem RdO.setMsg (h : RdO OT PT RT O s w b pv p ob F ps W) (r : Int) (m : ByteArray) : RdO OT PT RT (O.wMsg r m) s w b pv p ob F ps ((W.setCell ⟨ob, 27, none⟩ (.int .i64 r)).setCell ⟨ob, 28, none⟩ (.string m)) := by
  refine h.store (((Chg.refl [ob] W).setCell (.inl (by simp)) _).setCell (.inl (by simp)) _) ?_ (h.m.wMsg r m) h.foot
  rw [← seMsg]
  exact block_setCell (block_setCell h.box _) _
theorem RdO.setArch (h : RdO OT PT RT O s w b pv p ob F ps W) (r : Bool) : RdO OT PT RT (O.wArch r) s w b pv p ob F ps (W.setCell ⟨ob, 36, none⟩ (.bool r)) := by
  refine h.store ((Chg.refl [ob] W).setCell (.inl (by simp)) _) ?_ (h.m.wArch r) h.foot
  rw [← seArch]
  exact block_setCell h.box _
theorem RdO.setLists (h : RdO OT PT RT O s w b pv p ob F ps W) {n : List ByteArray} {l : List (Int × ByteArray)} {c : List (ByteArray × ByteArray)} {x y z : Sl} (hx : SlR W x 1 (n.map Value.string)) (hy : SlR W y 2 (linkCells l)) (hz : SlR W z 2 (custCells c))
    (fx : ∀ k ∈ x.blk, pv < k ∧ k ≠ ob) (fy : ∀ k ∈ y.blk, pv < k ∧ k ≠ ob) (fz : ∀ k ∈ z.blk, pv < k ∧ k ≠ ob) :
    RdO OT PT RT (O.wLists n l c) { s with names := x, links := y, custom := z } w b pv p ob F ps (((W.setCell ⟨ob, 29, none⟩ (.slice x.a x.n x.c)).setCell ⟨ob, 30, none⟩ (.slice y.a y.n y.c)).setCell ⟨ob, 31, none⟩ (.slice z.a z.n z.c)) := by
  refine h.store ((((Chg.refl [ob] W).setCell (.inl (by simp)) _).setCell (.inl (by simp)) _).setCell (.inl (by simp)) _) ?_ ⟨h.m.mat, hx, hy, hz, h.m.dl⟩ ?_
  · rw [← seLists]
    exact block_setCell (block_setCell (block_setCell h.box _) _) _
  · intro k hk
    rcases mem_foot.1 hk with h' | h' | h' | h'
    · exact h.foot k (mem_foot.2 (.inl h'))
    · exact fx k h'
    · exact fy k h'
    · exact fz k h'
end
theorem wpList_store_partO {P : Program} {w : World} {ops : Array Oper} {rest : List Oper} {op : Oper} {a : Act} {Q : Exit → Act → World → Prop} (hgd : op.guard = none) (ty : TypeId) (x y : Operand) (ho : op.op = .store ty x y)
    (p o : Nat) (cells : Array Value) (hx : a.eval x = .pointer (some ⟨p, o, none⟩)) (hy : a.eval y = .agg cells) {C : Array Value} {T : TypeId} (hg : w.heap[p]? = some (.cells C T (0, 0))) (hroom : o + cells.size ≤ C.size)
    (hi : (P.info? ty).map (·.size) = some cells.size) (h1 : cells.all (·.oneCell') = true) (C' : Array Value) (hC : setSeg C o cells.toList = C')
    (h : ∀ w', w'.heap[p]? = some (.cells C' T (0, 0)) → Chg [p] w w' → wpList P ops Q rest (a.put op.dst undef) w') : wpList P ops Q (op :: rest) a w :=
  wpList_store_mid hgd ty x y ho p o cells hx hy (fun j hj => ⟨by rw [cell_of_block hg (Array.getElem?_eq_getElem (by omega))]; rfl, frozen_of_block hg⟩) hi h1 (h _ (by rw [← hC]; exact setCells_block _ _ _ _ hg) (setCells_chg _ _ _ (Chg.refl _ _) (.inl (by simp))))
theorem wp_store_partO {P : Program} {w : World} {op : Oper} {a : Act} {K : Act → World → Prop} {Q : Exit → Act → World → Prop} (ty : TypeId) (x y : Operand) (ho : op.op = .store ty x y)
    (p o : Nat) (cells : Array Value) (hx : a.eval x = .pointer (some ⟨p, o, none⟩)) (hy : a.eval y = .agg cells) {C : Array Value} {T : TypeId} (hg : w.heap[p]? = some (.cells C T (0, 0))) (hroom : o + cells.size ≤ C.size)
    (hi : (P.info? ty).map (·.size) = some cells.size) (h1 : cells.all (·.oneCell') = true) (C' : Array Value) (hC : setSeg C o cells.toList = C')
    (h : ∀ w', w'.heap[p]? = some (.cells C' T (0, 0)) → Chg [p] w w' → K (a.put op.dst undef) w') : op.wp P a w K Q :=
  wp_store_mid ty x y ho p o cells hx hy (fun j hj => ⟨by rw [cell_of_block hg (Array.getElem?_eq_getElem (by omega))]; rfl, frozen_of_block hg⟩) hi h1 (h _ (by rw [← hC]; exact setCells_block _ _ _ _ hg) (setCells_chg _ _ _ (Chg.refl _ _) (.inl (by simp))))
theorem results_obj_tmp0 {P : Program} {fn : Func} {p q : Tmp} {ty : TypeId} (h : fn.results = #[.cell p ty, .tmp q]) (tmps : Array Value) (w : World) (g : Nat) (t : TypeId) (cs : Array Value) (fr : Nat × Nat) (d : TypeDesc)
    (hp : tmps.getD p undef = .pointer (some ⟨g, 0, none⟩)) (hg : w.heap[g]? = some (.cells cs t fr))
    (hu : P.underlying ty = some d) (hd : (match d with | .struct _ | .array _ _ => true | _ => false) = true) (hi : (P.info? ty).map (·.size) = some cs.size) (v : Value) (hv : tmps.getD q undef = v) :
    (results fn tmps).run P w = .ok (.tuple #[.agg cs, v]) w := by
  have hp' : tmps[p]?.getD undef = .pointer (some ⟨g, 0, none⟩) := by simpa using hp
  have hv' : tmps[q]?.getD undef = v := by simpa using hv
  simp [results, h, hp', hv', asAddr, run_loadVar_row w g t ty cs fr d hg hu hd hi]
theorem buildZO (w : World) : (Instr.build 35 #[]).run Tryd.prog w = .ok (.agg (objCells zObj zObjV)) w := by kernel_rfl
theorem buildA (i : ByteArray) (ty al le mk st : Int) (a : Option Addr) (n c : Nat) (m : List UInt8) (w : World) : (Instr.build 35 #[(0, .string i), (1, .int .i64 ty), (2, .int .i64 al), (3, .int .i64 le), (4, .int .i64 mk), (5, .slice a n c), (6, .int .i64 st)]).run Tryd.prog w =
    .ok (.agg (objCells { id := i, typ := ty, alg := al, len := le, mask := mk, mat := m, st := st } { mat := ⟨a, n, c⟩ })) w := by kernel_rfl
theorem segDate (O : ObjD) (s : ObjV) (hl : O.dates.length = 10) (i : Nat) (hi : i < 10) (d : Bool × Int) : setSeg (objCells O s) (7 + i * 2) [.bool d.1, .int .i64 d.2] = objCells (O.setDate i d) s := by
  rw [← osD O s hl i hi]; rfl
theorem segLim (O : ObjD) (s : ObjV) (h : Bool) (t c u : Int) : setSeg (objCells O s) 32 [.bool h, .int .i64 t, .int .i64 c, .int .i64 u] = objCells { O with limHas := h, total := t, count := c, unit := u } s := rfl
end Go.Proofs.YtdlkobmlnpijgaaDoor
