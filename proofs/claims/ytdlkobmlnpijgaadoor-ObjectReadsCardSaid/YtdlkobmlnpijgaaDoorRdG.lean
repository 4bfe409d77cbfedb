/- A row of the object that the reference reads grows. -/
import Derived.Test.YtdlkobmlnpijgaaDoorRdQ
import Derived.Great.BuildSlice
namespace Go.Proofs.YtdlkobmlnpijgaaDoor
open Go.RowKit
set_option linter.unusedVariables false
set_option linter.unusedSimpArgs false
def ObjD.wLH (O : ObjD) (x : Bool) : ObjD := { O with limHas := x }
def ObjD.wLT (O : ObjD) (x : Int) : ObjD := { O with total := x }
def ObjD.wLC (O : ObjD) (x : Int) : ObjD := { O with count := x }
def ObjD.wLU (O : ObjD) (x : Int) : ObjD := { O with unit := x }
theorem wl4 (O : ObjD) (t c u : Int) : (((O.wLH true).wLT t).wLC c).wLU u = O.wLim ⟨true, t, c, u⟩ := rfl
theorem oD_lim0 (ref : Bool) (p : PS) : (oD ref p).wLH false = (oD ref p).wLim {} := by
  unfold oD oC oA ObjD.wMsg ObjD.wDates ObjD.wLists ObjD.wLH ObjD.wLim
  rfl
section
variable {OT RT T : TypeId} {O : ObjD} {s : ObjV} {w W W1 W3 : World} {b p ob z : Nat} {F : List Nat} {ps ps' : PS} {R : Option Nat} {a : Option Addr} {n c : Nat}
theorem SlR.nil0 (w : World) (size : Nat) : SlR w {} size [] := ⟨⟨by simp, fun j hj => by simp at hj⟩, fun _ => rfl, by simp, fun k hk => by simp [Sl.blk] at hk, Nat.le_refl _⟩
theorem RdQ.toK' (h : RdQ OT RT O s w b p ob F ps W) (hc : Chg [p] W W1) (hr : RdS RT W1 p ps' F) (hg : W1.grownBy W3 R) (hR : ∀ k, R = some k → z ≤ k) (hz : ob < z) : RdK OT RT (objCells O s) w b p ob F ps' W3 := by
  refine (h.toK.reader hc hr).grow (G := R.toList) ((Chg.refl _ W1).grown hg (fun k hk => .inl (by rw [hk]; simp))) (fun k hk => ?_)
  have h1 := hR k (by cases R with | none => cases hk | some y => simp at hk; rw [hk])
  omega
theorem RdQ.growN (h : RdQ OT RT O s w b p ob F ps W) (hc : Chg [p] W W1) (hr : RdS RT W1 p ps' F) (hg : W1.grownBy W3 R) (hR : ∀ k, R = some k → z ≤ k) (hz : ob < z) (hzf : ∀ k ∈ ({ s with names := {} } : ObjV).foot, k < z)
    {ys : List ByteArray} (own : W3.ownsRow z T 1 (.slice a n c) n (ys.map Value.string)) (hn : n ≤ 140737488355328) :
    RdQ OT RT (O.wNames ys) { s with names := ⟨a, n, c⟩ } w b p ob F ps' (W3.setCell ⟨ob, 29, none⟩ (.slice a n c)) ∧ (W3.setCell ⟨ob, 29, none⟩ (.slice a n c)).ownsRow z T 1 (.slice a n c) n (ys.map Value.string) := by
  have hK := (h.toK' hc hr hg hR hz).set 29 (.slice a n c) (C' := objCells (O.wNames ys) { s with names := ⟨a, n, c⟩ }) rfl
  have hG3 : ∀ k ∈ R.toList, z ≤ k := fun k hk => hR k (by cases R with | none => cases hk | some y => simp at hk; rw [hk])
  have hc3 : Chg R.toList W1 W3 := (Chg.refl _ W1).grown hg (fun k hk => .inl (by rw [hk]; simp))
  have hc4 : Chg [ob] W3 (W3.setCell ⟨ob, 29, none⟩ (.slice a n c)) := (Chg.refl [ob] W3).setCell (.inl (by simp)) _
  have own2 := hc4.owns own (fun q hq hm => by have := (own.lt q hq).1; have := List.mem_singleton.1 hm; omega)
  have ho := h.ord
  have M0 : ObjM W (O.wNames []) { s with names := {} } := ⟨h.m.mat, SlR.nil0 W 1, h.m.links, h.m.custom, h.m.dl⟩
  have hsub : ∀ k ∈ ({ s with names := {} } : ObjV).foot, ob < k := fun k hk => by
    rcases mem_foot.1 hk with h' | h' | h' | h'
    · exact h.foot k (mem_foot.2 (.inl h'))
    · simp [Sl.blk] at h'
    · exact h.foot k (mem_foot.2 (.inr (.inr (.inl h'))))
    · exact h.foot k (mem_foot.2 (.inr (.inr (.inr h'))))
  have M := ((M0.keep hc (fun k hk hm => by have := hsub k hk; have := List.mem_singleton.1 hm; omega)).keep hc3 (fun k hk hm => by have := hzf k hk; have := hG3 k hm; omega)).keep hc4 (fun k hk hm => by have := hsub k hk; have := List.mem_singleton.1 hm; omega)
  refine ⟨hK.toQ ⟨M.mat, SlR.of_own (s := ⟨a, n, c⟩) own2 hn, M.links, M.custom, M.dl⟩ (fun k hk => ?_), own2⟩
  rcases mem_foot.1 hk with h' | h' | h' | h'
  · exact h.foot k (mem_foot.2 (.inl h'))
  · have h2 := blk_own (s := ⟨a, n, c⟩) own2 k h'; omega
  · exact h.foot k (mem_foot.2 (.inr (.inr (.inl h'))))
  · exact h.foot k (mem_foot.2 (.inr (.inr (.inr h'))))
theorem RdQ.growL (h : RdQ OT RT O s w b p ob F ps W) (hc : Chg [p] W W1) (hr : RdS RT W1 p ps' F) (hg : W1.grownBy W3 R) (hR : ∀ k, R = some k → z ≤ k) (hz : ob < z) (hzf : ∀ k ∈ ({ s with links := {} } : ObjV).foot, k < z)
    {ys : List (Int × ByteArray)} (own : W3.ownsRow z T 2 (.slice a n c) n (linkCells ys)) (hn : n ≤ 140737488355328) :
    RdQ OT RT (O.wLinks ys) { s with links := ⟨a, n, c⟩ } w b p ob F ps' (W3.setCell ⟨ob, 30, none⟩ (.slice a n c)) ∧ (W3.setCell ⟨ob, 30, none⟩ (.slice a n c)).ownsRow z T 2 (.slice a n c) n (linkCells ys) := by
  have hK := (h.toK' hc hr hg hR hz).set 30 (.slice a n c) (C' := objCells (O.wLinks ys) { s with links := ⟨a, n, c⟩ }) rfl
  have hG3 : ∀ k ∈ R.toList, z ≤ k := fun k hk => hR k (by cases R with | none => cases hk | some y => simp at hk; rw [hk])
  have hc3 : Chg R.toList W1 W3 := (Chg.refl _ W1).grown hg (fun k hk => .inl (by rw [hk]; simp))
  have hc4 : Chg [ob] W3 (W3.setCell ⟨ob, 30, none⟩ (.slice a n c)) := (Chg.refl [ob] W3).setCell (.inl (by simp)) _
  have own2 := hc4.owns own (fun q hq hm => by have := (own.lt q hq).1; have := List.mem_singleton.1 hm; omega)
  have ho := h.ord
  have M0 : ObjM W (O.wLinks []) { s with links := {} } := ⟨h.m.mat, h.m.names, SlR.nil0 W 2, h.m.custom, h.m.dl⟩
  have hsub : ∀ k ∈ ({ s with links := {} } : ObjV).foot, ob < k := fun k hk => by
    rcases mem_foot.1 hk with h' | h' | h' | h'
    · exact h.foot k (mem_foot.2 (.inl h'))
    · exact h.foot k (mem_foot.2 (.inr (.inl h')))
    · simp [Sl.blk] at h'
    · exact h.foot k (mem_foot.2 (.inr (.inr (.inr h'))))
  have M := ((M0.keep hc (fun k hk hm => by have := hsub k hk; have := List.mem_singleton.1 hm; omega)).keep hc3 (fun k hk hm => by have := hzf k hk; have := hG3 k hm; omega)).keep hc4 (fun k hk hm => by have := hsub k hk; have := List.mem_singleton.1 hm; omega)
  refine ⟨hK.toQ ⟨M.mat, M.names, SlR.of_own (s := ⟨a, n, c⟩) own2 hn, M.custom, M.dl⟩ (fun k hk => ?_), own2⟩
  rcases mem_foot.1 hk with h' | h' | h' | h'
  · exact h.foot k (mem_foot.2 (.inl h'))
  · exact h.foot k (mem_foot.2 (.inr (.inl h')))
  · have h2 := blk_own (s := ⟨a, n, c⟩) own2 k h'; omega
  · exact h.foot k (mem_foot.2 (.inr (.inr (.inr h'))))
theorem RdQ.growC (h : RdQ OT RT O s w b p ob F ps W) (hc : Chg [p] W W1) (hr : RdS RT W1 p ps' F) (hg : W1.grownBy W3 R) (hR : ∀ k, R = some k → z ≤ k) (hz : ob < z) (hzf : ∀ k ∈ ({ s with custom := {} } : ObjV).foot, k < z)
    {ys : List (ByteArray × ByteArray)} (own : W3.ownsRow z T 2 (.slice a n c) n (custCells ys)) (hn : n ≤ 140737488355328) :
    RdQ OT RT (O.wCustom ys) { s with custom := ⟨a, n, c⟩ } w b p ob F ps' (W3.setCell ⟨ob, 31, none⟩ (.slice a n c)) ∧ (W3.setCell ⟨ob, 31, none⟩ (.slice a n c)).ownsRow z T 2 (.slice a n c) n (custCells ys) := by
  have hK := (h.toK' hc hr hg hR hz).set 31 (.slice a n c) (C' := objCells (O.wCustom ys) { s with custom := ⟨a, n, c⟩ }) rfl
  have hG3 : ∀ k ∈ R.toList, z ≤ k := fun k hk => hR k (by cases R with | none => cases hk | some y => simp at hk; rw [hk])
  have hc3 : Chg R.toList W1 W3 := (Chg.refl _ W1).grown hg (fun k hk => .inl (by rw [hk]; simp))
  have hc4 : Chg [ob] W3 (W3.setCell ⟨ob, 31, none⟩ (.slice a n c)) := (Chg.refl [ob] W3).setCell (.inl (by simp)) _
  have own2 := hc4.owns own (fun q hq hm => by have := (own.lt q hq).1; have := List.mem_singleton.1 hm; omega)
  have ho := h.ord
  have M0 : ObjM W (O.wCustom []) { s with custom := {} } := ⟨h.m.mat, h.m.names, h.m.links, SlR.nil0 W 2, h.m.dl⟩
  have hsub : ∀ k ∈ ({ s with custom := {} } : ObjV).foot, ob < k := fun k hk => by
    rcases mem_foot.1 hk with h' | h' | h' | h'
    · exact h.foot k (mem_foot.2 (.inl h'))
    · exact h.foot k (mem_foot.2 (.inr (.inl h')))
    · exact h.foot k (mem_foot.2 (.inr (.inr (.inl h'))))
    · simp [Sl.blk] at h'
  have M := ((M0.keep hc (fun k hk hm => by have := hsub k hk; have := List.mem_singleton.1 hm; omega)).keep hc3 (fun k hk hm => by have := hzf k hk; have := hG3 k hm; omega)).keep hc4 (fun k hk hm => by have := hsub k hk; have := List.mem_singleton.1 hm; omega)
  refine ⟨hK.toQ ⟨M.mat, M.names, M.links, SlR.of_own (s := ⟨a, n, c⟩) own2 hn, M.dl⟩ (fun k hk => ?_), own2⟩
  rcases mem_foot.1 hk with h' | h' | h' | h'
  · exact h.foot k (mem_foot.2 (.inl h'))
  · exact h.foot k (mem_foot.2 (.inr (.inl h')))
  · exact h.foot k (mem_foot.2 (.inr (.inr (.inl h'))))
  · have h2 := blk_own (s := ⟨a, n, c⟩) own2 k h'; omega
theorem RdQ.sLH (h : RdQ OT RT O s w b p ob F ps W) (x : Bool) : RdQ OT RT (O.wLH x) s w b p ob F ps (W.setCell ⟨ob, 32, none⟩ (.bool x)) := h.set 32 _ rfl (h.m.data rfl rfl rfl rfl h.m.dl) h.foot
theorem RdQ.sLT (h : RdQ OT RT O s w b p ob F ps W) (x : Int) : RdQ OT RT (O.wLT x) s w b p ob F ps (W.setCell ⟨ob, 33, none⟩ (.int .i64 x)) := h.set 33 _ rfl (h.m.data rfl rfl rfl rfl h.m.dl) h.foot
theorem RdQ.sLC (h : RdQ OT RT O s w b p ob F ps W) (x : Int) : RdQ OT RT (O.wLC x) s w b p ob F ps (W.setCell ⟨ob, 34, none⟩ (.int .i64 x)) := h.set 34 _ rfl (h.m.data rfl rfl rfl rfl h.m.dl) h.foot
theorem RdQ.sLU (h : RdQ OT RT O s w b p ob F ps W) (x : Int) : RdQ OT RT (O.wLU x) s w b p ob F ps (W.setCell ⟨ob, 35, none⟩ (.int .i64 x)) := h.set 35 _ rfl (h.m.data rfl rfl rfl rfl h.m.dl) h.foot
end
/-- A slice of one element, in a block of its own. -/
theorem wp_build1 {P : Program} {o : Oper} {a : Act} {w : World} {K : Act → World → Prop} {Q : Exit → Act → World → Prop} (T E : TypeId) (x : Operand) (ho : o.op = .buildSlice T 1 #[(0, x)]) (v : Value) (hx : a.eval x = v) (C : Array Value) (size : Nat)
    (i : TypeInfo) (z : Value) (hu : P.underlying T = some (.slice E)) (hi : P.info? E = some i) (hz : i.zero = some z) (hs : i.size = size) (h0 : 0 < size) (h1 : size ≤ 100)
    (hf : Instr.fill (fun i => some (i * size, size)) ((Array.range (1 * size)).map (z.cells[· % z.cells.size]!)) [(0, v)] = some C)
    (h : K (a.put o.dst (.slice (some ⟨w.heap.size, 0, none⟩) 1 1)) (w.alloc (.cells C E))) : o.wp P a w K Q := by
  refine wp_buildSlice T E 1 _ ho C i z hu hi hz (by rw [hs]; omega) (by rw [hs]; omega) ?_ h
  rw [hs, show ((#[(0, x)] : Array (Nat × Operand)).map fun (i, x) => (i, a.eval x)).toList = [(0, v)] from by simp [hx]]
  exact hf
def RunN (OT RT : TypeId) (O0 : ObjD) (s0 : ObjV) (w : World) (b p ob z : Nat) (F : List Nat) (k0 : Nat) (s1 : PS) (k : Nat) (wr : World) : Prop :=
  ∃ (st : PS) (xs : List ByteArray) (a : Option Addr) (m c : Nat), m + k ≤ 255 ∧ z ≤ wr.heap.size ∧ wr.ownsRow z 9 1 (.slice a m c) m (xs.map Value.string) ∧ RdQ OT RT (O0.wNames xs) { s0 with names := ⟨a, m, c⟩ } w b p ob F st wr ∧ many pT k0 s1 = (xs ++ (many pT k st).1, (many pT k st).2)
def RunL (OT RT : TypeId) (O0 : ObjD) (s0 : ObjV) (w : World) (b p ob z : Nat) (F : List Nat) (k0 : Nat) (s1 : PS) (k : Nat) (wr : World) : Prop :=
  ∃ (st : PS) (xs : List (Int × ByteArray)) (a : Option Addr) (m c : Nat), m + k ≤ 255 ∧ z ≤ wr.heap.size ∧ wr.ownsRow z 56 2 (.slice a m c) m (linkCells xs) ∧ RdQ OT RT (O0.wLinks xs) { s0 with links := ⟨a, m, c⟩ } w b p ob F st wr ∧ many linkP k0 s1 = (xs ++ (many linkP k st).1, (many linkP k st).2)
def RunC (OT RT : TypeId) (O0 : ObjD) (s0 : ObjV) (w : World) (b p ob z : Nat) (F : List Nat) (k0 : Nat) (s1 : PS) (k : Nat) (wr : World) : Prop :=
  ∃ (st : PS) (xs : List (ByteArray × ByteArray)) (a : Option Addr) (m c : Nat), m + k ≤ 255 ∧ z ≤ wr.heap.size ∧ wr.ownsRow z 58 2 (.slice a m c) m (custCells xs) ∧ RdQ OT RT (O0.wCustom xs) { s0 with custom := ⟨a, m, c⟩ } w b p ob F st wr ∧ many custP k0 s1 = (xs ++ (many custP k st).1, (many custP k st).2)
theorem fillS (s : ByteArray) : Instr.fill (fun i => some (i * 1, 1)) ((Array.range (1 * 1)).map ((Value.string ⟨#[]⟩).cells[· % (Value.string ⟨#[]⟩).cells.size]!)) [(0, .string s)] = some #[.string s] := by kernel_rfl
theorem fillL (n : Int) (s : ByteArray) : Instr.fill (fun i => some (i * 2, 2)) ((Array.range (1 * 2)).map ((Value.agg #[.int .i64 0, .string ⟨#[]⟩]).cells[· % (Value.agg #[.int .i64 0, .string ⟨#[]⟩]).cells.size]!)) [(0, .agg #[.int .i64 n, .string s])] = some #[.int .i64 n, .string s] := by kernel_rfl
theorem fillC (n s : ByteArray) : Instr.fill (fun i => some (i * 2, 2)) ((Array.range (1 * 2)).map ((Value.agg #[.string ⟨#[]⟩, .string ⟨#[]⟩]).cells[· % (Value.agg #[.string ⟨#[]⟩, .string ⟨#[]⟩]).cells.size]!)) [(0, .agg #[.string n, .string s])] = some #[.string n, .string s] := by kernel_rfl
end Go.Proofs.YtdlkobmlnpijgaaDoor
