/- Items made in regions that draw. -/
import Derived.Test.YtbnbofooofedkaaDoorPay7
import Derived.Test.YtbnbofooofedkaaDoorOwnObj
namespace Go.Proofs.YtbnbofooofedkaaDoor
open Go.RowKit
set_option linter.unusedVariables false
set_option linter.unusedSimpArgs false
set_option maxRecDepth 100000
set_option maxHeartbeats 1600000
theorem range_of_block {w : World} {b : Nat} {C : Array Value} {T : TypeId} {fr : Nat × Nat} (h : w.heap[b]? = some (.cells C T fr)) (o : Nat) (cs : List Value) (hc : ∀ (j : Nat) v, cs[j]? = some v → C[o + j]? = some v) : w.rangeAt b o cs :=
 fun j v hv => cell_of_block h (hc j v hv)
theorem cast_eq0 (n : Nat) : ((n : Int) == 0) = decide (n = 0) := by
 cases n with
 | zero => rfl
 | succ n => simp; omega
theorem isEmpty_n {α : Type} {l : List α} {n : Nat} (h : l.length = n) : l.isEmpty = decide (n = 0) := by
 subst h; cases l <;> simp
def numI (t k n : Int) : Itm := { tag := t, typ := k, int := n }
def ofI (t : Int) (l : List Itm) : Itm := { tag := t, typ := 1, kids := l }
def stNewQ (T : TypeId) (C : Array Value) (z : Nat) : St Grow := ⟨fun v w => ∃ p, v = .pointer (some ⟨p, 0, none⟩) ∧ w.heap[p]? = some (.cells C T (0, 0)) ∧ z ≤ p, fun v w w' h hg => let ⟨p, e, h1, h2⟩ := h; ⟨p, e, (hg.block _ (block_lt h1)).trans h1, h2⟩⟩
/-- In a region: items made; a slice of them. -/
def stMade (I : Itm) : St Grow := ⟨fun v w => ∃ x : ItV, v = .agg x.arr ∧ x.it = I ∧ x.ok w, fun v w w' h hg => let ⟨x, e, h1, h2⟩ := h; ⟨x, e, h1, h2.below hg⟩⟩
def stItems (L : List Itm) : St Grow := ⟨fun v w => ∃ (s : Sl) (l : List ItV), v = .slice s.a s.n s.c ∧ l.map ItV.it = L ∧ SlR w s 5 (itmCells l) ∧ ∀ x ∈ l, x.ok w, fun v w w' h hg => let ⟨s, l, e, h1, h2, h3⟩ := h; ⟨s, l, e, h1, h2.below hg, fun x hx => (h3 x hx).below hg⟩⟩
theorem wp_build_items {P : Program} {o : Oper} {a : Act} {w : World} {K : Act → World → Prop} {Q : Exit → Act → World → Prop} (T E : TypeId) (n : Nat) (ps : Array (Nat × Operand)) (ho : o.op = .buildSlice T n ps) (vs : List ItV) (hn : vs.length = n) (h0 : 0 < n) (h9 : n ≤ 100)
  (hx : (ps.map fun (i, x) => (i, a.eval x)).toList = (vs.zipIdx 0).map fun x => (x.2, Value.agg x.1.arr)) (C : Array Value) (hC : C.toList = itmCells vs)
  (i : TypeInfo) (hu : P.underlying T = some (.slice E)) (hi : P.info? E = some i) (hz : i.zero = some (.agg itZ.arr)) (hs : i.size = 5)
  (hf : Instr.fill (fun i => some (i * 5, 5)) ((Array.range (n * 5)).map (itZ.arr[· % itZ.arr.size]!)) ((vs.zipIdx 0).map fun x => (x.2, Value.agg x.1.arr)) = some C)
  (h : ∀ s : Sl, SlR (w.alloc (.cells C E)) s 5 (itmCells vs) → K (a.put o.dst (.slice s.a s.n s.c)) (w.alloc (.cells C E))) : o.wp P a w K Q := by
 refine wp_buildSlice T E n _ ho C i _ hu hi hz (by rw [hs]; omega) (by rw [hs]; omega) ?_ (h ⟨_, _, _⟩ (SlR.built hC hn (by omega)))
 rw [hs, hx]
 exact hf
theorem fill1 (x0 : ItV) : Instr.fill (fun i => some (i * 5, 5)) ((Array.range (1 * 5)).map (itZ.arr[· % itZ.arr.size]!)) (([x0].zipIdx 0).map fun x => (x.2, Value.agg x.1.arr)) = some (x0.arr) := by kernel_rfl
theorem fill2 (x0 x1 : ItV) : Instr.fill (fun i => some (i * 5, 5)) ((Array.range (2 * 5)).map (itZ.arr[· % itZ.arr.size]!)) (([x0, x1].zipIdx 0).map fun x => (x.2, Value.agg x.1.arr)) = some (x0.arr ++ x1.arr) := by kernel_rfl
theorem fill3 (x0 x1 x2 : ItV) : Instr.fill (fun i => some (i * 5, 5)) ((Array.range (3 * 5)).map (itZ.arr[· % itZ.arr.size]!)) (([x0, x1, x2].zipIdx 0).map fun x => (x.2, Value.agg x.1.arr)) = some (x0.arr ++ x1.arr ++ x2.arr) := by kernel_rfl
theorem fill4 (x0 x1 x2 x3 : ItV) : Instr.fill (fun i => some (i * 5, 5)) ((Array.range (4 * 5)).map (itZ.arr[· % itZ.arr.size]!)) (([x0, x1, x2, x3].zipIdx 0).map fun x => (x.2, Value.agg x.1.arr)) = some (x0.arr ++ x1.arr ++ x2.arr ++ x3.arr) := by kernel_rfl
theorem fill5 (x0 x1 x2 x3 x4 : ItV) : Instr.fill (fun i => some (i * 5, 5)) ((Array.range (5 * 5)).map (itZ.arr[· % itZ.arr.size]!)) (([x0, x1, x2, x3, x4].zipIdx 0).map fun x => (x.2, Value.agg x.1.arr)) = some (x0.arr ++ x1.arr ++ x2.arr ++ x3.arr ++ x4.arr) := by kernel_rfl
theorem fill6 (x0 x1 x2 x3 x4 x5 : ItV) : Instr.fill (fun i => some (i * 5, 5)) ((Array.range (6 * 5)).map (itZ.arr[· % itZ.arr.size]!)) (([x0, x1, x2, x3, x4, x5].zipIdx 0).map fun x => (x.2, Value.agg x.1.arr)) = some (x0.arr ++ x1.arr ++ x2.arr ++ x3.arr ++ x4.arr ++ x5.arr) := by kernel_rfl
theorem fill7 (x0 x1 x2 x3 x4 x5 x6 : ItV) : Instr.fill (fun i => some (i * 5, 5)) ((Array.range (7 * 5)).map (itZ.arr[· % itZ.arr.size]!)) (([x0, x1, x2, x3, x4, x5, x6].zipIdx 0).map fun x => (x.2, Value.agg x.1.arr)) = some (x0.arr ++ x1.arr ++ x2.arr ++ x3.arr ++ x4.arr ++ x5.arr ++ x6.arr) := by kernel_rfl
def stMadeL (I : Itm) (lo : Nat) : St Grow := ⟨fun v w => ∃ x : ItV, v = .agg x.arr ∧ x.it = I ∧ x.ok w ∧ ∀ k ∈ x.foot, lo ≤ k, fun v w w' h hg => let ⟨x, e, h1, h2, h3⟩ := h; ⟨x, e, h1, h2.below hg, h3⟩⟩
def stItemL (I : Itm) (lo : Nat) : St Grow := ⟨fun v w => ∃ (s : Sl) (x : ItV), v = .slice s.a s.n s.c ∧ s.n = 1 ∧ x.it = I ∧ SlR w s 5 (itmCells [x]) ∧ x.ok w ∧ ∀ k ∈ x.foot, lo ≤ k, fun v w w' h hg => let ⟨s, x, e, h0, h1, h2, h3, h4⟩ := h; ⟨s, x, e, h0, h1, h2.below hg, h3.below hg, h4⟩⟩
theorem numV_it (t k n : Int) : ItV.it { tag := t, typ := k, int := n } = numI t k n := it_flat _ _ _ _ _
theorem numV_ok (w : World) (t k n : Int) : ItV.ok w { tag := t, typ := k, int := n } := ItV.ok.zero w _ _ _
theorem itZ_it : itZ.it = {} := it_flat _ _ _ _ _
theorem itZ_ok (w : World) : itZ.ok w := ItV.ok.zero w _ _ _
theorem it_tag' (x : ItV) : x.it.tag = x.tag := by rw [ItV.it_eq]
theorem told_it {b : Bool} {x : ItV} {I : Itm} (h : x.it = I) : (if b then x else itZ).it = if b then I else {} := by cases b <;> simp [h, itZ_it]
theorem told_ok {b : Bool} {x : ItV} {w : World} (h : x.ok w) : (if b then x else itZ).ok w := by cases b; exact itZ_ok w; exact h
def someI (L : List Itm) : List Itm := L.filter fun i => i.tag != 0
theorem some_map {l lo : List ItV} {L : List Itm} (h : lo.map ItV.it = (l.filter fun x => x.tag != 0).map ItV.it) (hl : l.map ItV.it = L) : lo.map ItV.it = someI L := by
 rw [h, ← hl, someI, List.filter_map]
 congr 1
 exact List.filter_congr fun x _ => by simp [it_tag']
/-- Cells laid out in one go are the call's own row. -/
theorem own_built {w : World} {T : TypeId} {base size n : Nat} {C : Array Value} (hb : base ≤ w.heap.size) (hC : C.size = n * size) (hn : n ≤ maxLen) : (w.alloc (.cells C T)).ownsRow base T size (.slice (some ⟨w.heap.size, 0, none⟩) n n) n C.toList :=
 ⟨by simp [hC], .inr ⟨w.heap.size, n, C, rfl, hb, block_new _ _, Nat.le_refl _, hn, hC, by rw [← hC, ← Array.length_toList, List.take_length]⟩⟩
def stMadeP (I : Itm) (F : Nat → Prop) : St Grow := ⟨fun v w => ∃ x : ItV, v = .agg x.arr ∧ x.it = I ∧ x.ok w ∧ ∀ k ∈ x.foot, F k, fun v w w' h hg => let ⟨x, e, h1, h2, h3⟩ := h; ⟨x, e, h1, h2.below hg, h3⟩⟩
def stItemsP (L : List Itm) (n : Nat) (F : Nat → Prop) : St Grow := ⟨fun v w => ∃ (s : Sl) (l : List ItV), v = .slice s.a s.n s.c ∧ s.n = n ∧ l.map ItV.it = L ∧ SlR w s 5 (itmCells l) ∧ ∀ x ∈ l, x.ok w ∧ ∀ k ∈ x.foot, F k, fun v w w' h hg => let ⟨s, l, e, h0, h1, h2, h3⟩ := h; ⟨s, l, e, h0, h1, h2.below hg, fun x hx => ⟨(h3 x hx).1.below hg, (h3 x hx).2⟩⟩⟩
/-- A structure whose one kid stands in a row of the call's own. -/
def stHead (T : TypeId) (t : Int) (I : Itm) (z : Nat) : St Grow := ⟨fun v w => ∃ (s : Sl) (y : ItV), v = .agg (ItV.arr { tag := t, typ := 1, ks := s, kids := [y] }) ∧ s.n = 1 ∧ y.it = I ∧ OwnIt T w z 0 s [y], fun v w w' h hg => let ⟨s, y, e, h1, h2, h3⟩ := h; ⟨s, y, e, h1, h2, h3.below hg⟩⟩
def stOwn1 (T : TypeId) (I : Itm) (z : Nat) : St Grow := ⟨fun v w => ∃ (s : Sl) (y : ItV), v = .slice s.a s.n s.c ∧ s.n = 1 ∧ y.it = I ∧ OwnIt T w z 0 s [y], fun v w w' h hg => let ⟨s, y, e, h1, h2, h3⟩ := h; ⟨s, y, e, h1, h2, h3.below hg⟩⟩
theorem numV_foot {t k n : Int} (F : Nat → Prop) : ∀ j ∈ ItV.foot { tag := t, typ := k, int := n }, F j := fun j hj => by have := foot_flat hj; simp [Sl.blk] at this
theorem own_one {w : World} {T : TypeId} {base : Nat} (y : ItV) (hy : y.ok w) (hb : base ≤ w.heap.size) : OwnIt T (w.alloc (.cells y.arr T)) base 0 ⟨some ⟨w.heap.size, 0, none⟩, 1, 1⟩ [y] :=
 ⟨by have h := own_built (w := w) (T := T) (base := base) (size := 5) (n := 1) (C := y.arr) hb rfl (by decide); simpa [itmCells, ItV.cells] using h,
  fun x hx => by rw [List.mem_singleton.1 hx]; exact hy.below ((Below.refl _ _).alloc (Nat.le_refl _) _),
  fun x hx k hk he => by rw [List.mem_singleton.1 hx] at hk; have := hy.lt k hk; simp [Sl.v, Value.ownBlock] at he; omega,
  fun _ _ _ _ => Nat.zero_le _⟩
theorem wp_build_itemsP {P : Program} {o : Oper} {a : Act} {w : World} {K : Act → World → Prop} {Q : Exit → Act → World → Prop} (T E : TypeId) (n : Nat) (ps : Array (Nat × Operand)) (ho : o.op = .buildSlice T n ps) (vs : List ItV) (hn : vs.length = n) (h0 : 0 < n) (h9 : n ≤ 100)
  (hx : (ps.map fun (i, x) => (i, a.eval x)).toList = (vs.zipIdx 0).map fun x => (x.2, Value.agg x.1.arr)) (C : Array Value) (hC : C.toList = itmCells vs)
  (i : TypeInfo) (hu : P.underlying T = some (.slice E)) (hi : P.info? E = some i) (hz : i.zero = some (.agg itZ.arr)) (hs : i.size = 5)
  (hf : Instr.fill (fun i => some (i * 5, 5)) ((Array.range (n * 5)).map (itZ.arr[· % itZ.arr.size]!)) ((vs.zipIdx 0).map fun x => (x.2, Value.agg x.1.arr)) = some C)
  (h : ∀ s : Sl, s.n = n → SlR (w.alloc (.cells C E)) s 5 (itmCells vs) → K (a.put o.dst (.slice s.a s.n s.c)) (w.alloc (.cells C E))) : o.wp P a w K Q :=
 wp_build_items T E n ps ho vs hn h0 h9 hx C hC i hu hi hz hs hf (fun s hs => h s (by rw [← hs.klen, hn]) hs)
end Go.Proofs.YtbnbofooofedkaaDoor
