/- life: change, Move; law11's known. -/
import Derived.Test.YtdlkobmlnpijgaaDoorLife
import Derived.Test.YtdlkobmlnpijgaaDoorHand
namespace Go.Proofs.YtdlkobmlnpijgaaDoor
open Go.RowKit
set_option linter.unusedVariables false
set_option linter.unusedSimpArgs false
set_option maxRecDepth 100000
set_option maxHeartbeats 1600000

/-- An object's box and a result's room. -/
structure Box2 (T : TypeId) (O : ObjD) (s : ObjV) (w W : World) (b : Nat) : Prop where
  obj : W.heap[b]? = some (.cells (objCells O s) T (0, 0))
  res : W.heap[b + 1]? = some (.cells (objCells zObj zObjV) T (0, 0))
  bel : Below b w W
  size : b + 2 ≤ W.heap.size
theorem box2_start {T : TypeId} {O : ObjD} {s : ObjV} {w : World} {b : Nat} (hb : w.heap.size = b) : Box2 T O s w ((w.alloc (.cells (objCells O s) T)).alloc (.cells (objCells zObj zObjV) T)) b := by
  subst hb
  exact ⟨heap_alloc2_old _ _ _, heap_alloc2_new _ _ _, ((Below.refl _ _).alloc (Nat.le_refl _) _).alloc (by simp) _, by simp⟩
section
variable {T : TypeId} {O O' : ObjD} {s s' : ObjV} {w W W' : World} {b : Nat}
theorem Box2.below (h : Box2 T O s w W b) (hb : Below W.heap.size W W') : Box2 T O s w W' b :=
  ⟨(hb.block _ (block_lt h.obj)).trans h.obj, (hb.block _ (block_lt h.res)).trans h.res, h.bel.trans (hb.mono (by have := h.size; omega)), Nat.le_trans h.size hb.size⟩
theorem Box2.store (h : Box2 T O s w W b) (h1 : W'.heap[b]? = some (.cells (objCells O' s') T (0, 0))) (hc : Chg [b] W W') : Box2 T O' s' w W' b :=
  ⟨h1, (hc.block _ (block_lt h.res) (by simp)).trans h.res, h.bel.trans (hc.below (fun k hk => by rw [List.mem_singleton.1 hk]; exact Nat.le_refl _) (by have := h.size; omega)), Nat.le_trans h.size hc.size⟩
theorem Box2.cell (h : Box2 T O s w W b) {j : Nat} {v : Value} (hv : (objCells O s)[j]? = some v) : W.cell? ⟨b, j, none⟩ = some v := cell_of_block h.obj hv
theorem Box2.fz (h : Box2 T O s w W b) (j : Nat) : W.frozen? ⟨b, j, none⟩ = false := frozen_of_block h.obj
theorem Box2.set (h : Box2 T O s w W b) (j : Nat) (v : Value) (he : (objCells O s).setIfInBounds j v = objCells O' s') : Box2 T O' s' w (W.setCell ⟨b, j, none⟩ v) b :=
  h.store (he ▸ block_setCell h.obj v) ((Chg.refl [b] W).setCell (.inl (by simp)) v)
theorem Box2.date (h : Box2 T O s w W b) (hl : O.dates.length = 10) (i : Nat) (hi : i < 10) (x : Bool) (t : Int) : Box2 T (O.setDate i (x, t)) s w ((W.setCell ⟨b, 7 + i * 2, none⟩ (.bool x)).setCell ⟨b, 7 + i * 2 + 1, none⟩ (.int .i64 t)) b := by
  refine h.store ?_ (((Chg.refl [b] W).setCell (.inl (by simp)) _).setCell (.inl (by simp)) _)
  rw [← osD O s hl i hi]
  exact block_setCell (block_setCell h.obj _) _
end
/-- An object's box alone. -/
structure Box1 (T : TypeId) (O : ObjD) (s : ObjV) (w W : World) (b : Nat) : Prop where
  obj : W.heap[b]? = some (.cells (objCells O s) T (0, 0))
  bel : Below b w W
section
variable {T : TypeId} {O O' : ObjD} {s s' : ObjV} {w W W' : World} {b : Nat}
theorem Box1.below (h : Box1 T O s w W b) (hb : Below W.heap.size W W') : Box1 T O s w W' b :=
  ⟨(hb.block _ (block_lt h.obj)).trans h.obj, h.bel.trans (hb.mono (by have := block_lt h.obj; omega))⟩
theorem Box1.store (h : Box1 T O s w W b) (h1 : W'.heap[b]? = some (.cells (objCells O' s') T (0, 0))) (hc : Chg [b] W W') : Box1 T O' s' w W' b :=
  ⟨h1, h.bel.trans (hc.below (fun k hk => by rw [List.mem_singleton.1 hk]; exact Nat.le_refl _) (by have := block_lt h.obj; omega))⟩
theorem Box1.cell (h : Box1 T O s w W b) {j : Nat} {v : Value} (hv : (objCells O s)[j]? = some v) : W.cell? ⟨b, j, none⟩ = some v := cell_of_block h.obj hv
theorem Box1.fz (h : Box1 T O s w W b) (j : Nat) : W.frozen? ⟨b, j, none⟩ = false := frozen_of_block h.obj
theorem Box1.set (h : Box1 T O s w W b) (j : Nat) (v : Value) (he : (objCells O s).setIfInBounds j v = objCells O' s') : Box1 T O' s' w (W.setCell ⟨b, j, none⟩ v) b :=
  h.store (he ▸ block_setCell h.obj v) ((Chg.refl [b] W).setCell (.inl (by simp)) v)
theorem Box1.date (h : Box1 T O s w W b) (hl : O.dates.length = 10) (i : Nat) (hi : i < 10) (x : Bool) (t : Int) : Box1 T (O.setDate i (x, t)) s w ((W.setCell ⟨b, 7 + i * 2, none⟩ (.bool x)).setCell ⟨b, 7 + i * 2 + 1, none⟩ (.int .i64 t)) b := by
  refine h.store ?_ (((Chg.refl [b] W).setCell (.inl (by simp)) _).setCell (.inl (by simp)) _)
  rw [← osD O s hl i hi]
  exact block_setCell (block_setCell h.obj _) _
end
theorem ObjM.zero (w : World) : ObjM w zObj zObjV := by
  have h : ∀ size, SlR w {} size [] := fun size => ⟨⟨by simp, fun j hj => by simp at hj⟩, fun _ => rfl, by simp, fun k hk => by simp [Sl.blk] at hk, Nat.le_refl _⟩
  exact ⟨h 1, h 1, h 2, h 2, rfl⟩
theorem setDate_len (O : ObjD) (i : Nat) (d : Bool × Int) : (O.setDate i d).dates.length = O.dates.length := by simp [ObjD.setDate]

end Go.Proofs.YtdlkobmlnpijgaaDoor
