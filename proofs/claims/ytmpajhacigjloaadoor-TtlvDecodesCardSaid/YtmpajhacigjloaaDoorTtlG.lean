/- A row of items that grows (cut out of the texts of the payloads). -/
import Derived.Test.YtmpajhacigjloaaDoorItem4
import Derived.Test.YtmpajhacigjloaaDoorRegionB
namespace Go.Proofs.YtmpajhacigjloaaDoor
open Go.RowKit
set_option linter.unusedVariables false
set_option linter.unusedSimpArgs false
set_option maxRecDepth 100000
set_option maxHeartbeats 1600000
/-- A slice of one item. -/
theorem wp_build_item {P : Program} {o : Oper} {a : Act} {w : World} {K : Act → World → Prop} {Q : Exit → Act → World → Prop} (T E : TypeId) (x : Operand) (ho : o.op = .buildSlice T 1 #[(0, x)]) (v : ItV) (hx : a.eval x = .agg v.arr)
    (i : TypeInfo) (hu : P.underlying T = some (.slice E)) (hi : P.info? E = some i) (hz : i.zero = some (.agg itZ.arr)) (hs : i.size = 5)
    (h : K (a.put o.dst (.slice (some ⟨w.heap.size, 0, none⟩) 1 1)) (w.alloc (.cells v.arr E))) : o.wp P a w K Q := by
  refine wp_buildSlice T E 1 _ ho v.arr i _ hu hi hz (by rw [hs]; decide) (by rw [hs]; decide) ?_ h
  rw [hs, show ((#[(0, x)] : Array (Nat × Operand)).map fun (i, x) => (i, a.eval x)).toList = [(0, Value.agg v.arr)] from by simp [hx]]
  kernel_rfl
theorem wpList_build_item {P : Program} {ops : Array Oper} {rest : List Oper} {o : Oper} {a : Act} {w : World} {Q : Exit → Act → World → Prop} (hg : o.guard = none) (T E : TypeId) (x : Operand) (ho : o.op = .buildSlice T 1 #[(0, x)]) (v : ItV) (hx : a.eval x = .agg v.arr)
    (i : TypeInfo) (hu : P.underlying T = some (.slice E)) (hi : P.info? E = some i) (hz : i.zero = some (.agg itZ.arr)) (hs : i.size = 5)
    (h : wpList P ops Q rest (a.put o.dst (.slice (some ⟨w.heap.size, 0, none⟩) 1 1)) (w.alloc (.cells v.arr E))) : wpList P ops Q (o :: rest) a w :=
  wpList_plain hg fun _ hK => wp_build_item T E x ho v hx i hu hi hz hs (hK _ _ h)
theorem RdC.of_block {w : World} {p : Nat} {C : Array Value} {T : TypeId} {fr : Nat × Nat} (h : w.heap[p]? = some (.cells C T fr)) : RdC w (some ⟨p, 0, none⟩) C.size C.toList :=
  ⟨by simp, fun j hj => ⟨p, 0, rfl, fun i u hu => by rw [Nat.zero_add]; exact cell_of_block h (by simpa using hu)⟩⟩
theorem wp_store_item {P : Program} {w : World} {op : Oper} {a : Act} {K : Act → World → Prop} {Q : Exit → Act → World → Prop} (ty : TypeId) (x y : Operand) (ho : op.op = .store ty x y)
    (g o : Nat) (hx : a.eval x = .pointer (some ⟨g, o, none⟩)) (v : ItV) (hy : a.eval y = .agg v.arr) {base n m c : Nat} {T : TypeId} {xs zs : List Value} (hown : w.ownsRow base T 5 (.slice (some ⟨g, 0, none⟩) m c) m (xs ++ zs)) (hm : m = n + 1) (hx5 : xs.length = n * 5) (ho5 : o = n * 5)
    (hi : (P.info? ty).map (·.size) = some 5) (h1 : v.arr.all (·.oneCell') = true)
    (h : ∀ w', w'.ownsRow base T 5 (.slice (some ⟨g, 0, none⟩) m c) m (xs ++ v.cells) → Chg [g] w w' → w'.heap.size = w.heap.size → K (a.put op.dst undef) w') : op.wp P a w K Q := by
  subst ho5; subst hm
  have hzs : zs.length = 5 := by have := hown.1; simp at this; omega
  rcases hown.2 with ⟨hv, h0⟩ | ⟨g', cap, cur, hv, hg, hh, hnc, hcm, hcs, ht⟩
  · cases hv
  · simp only [Value.slice.injEq, Option.some.injEq, Addr.mk.injEq] at hv
    obtain ⟨⟨rfl, _⟩, _, rfl⟩ := hv
    have hroom : n * 5 + 5 ≤ cur.size := by rw [hcs]; have := Nat.mul_le_mul_right 5 hnc; omega
    have hvl : v.arr.toList.length = 5 := rfl
    refine wp_store_mid ty x y ho g (n * 5) v.arr hx hy ?_ hi h1 (h _ ?_ ?_ ?_)
    · intro j hj
      have hj5 : j < 5 := hj
      refine ⟨?_, frozen_of_block hh⟩
      rw [cell_of_block hh (Array.getElem?_eq_getElem (by omega))]; rfl
    · refine ⟨by simp [ItV.cells, hx5, hvl]; omega, .inr ⟨g, c, setSeg cur (n * 5) v.arr.toList, rfl, hg, setCells_block _ _ _ _ hh, hnc, hcm, by rw [setSeg_size]; exact hcs, ?_⟩⟩
      refine List.ext_getElem? fun k => ?_
      have hcur : ∀ k, k < n * 5 → cur[k]? = xs[k]? := fun k hk => by
        have := congrArg (fun l => l[k]?) ht
        simp only [List.getElem?_take, if_pos (show k < (n + 1) * 5 by omega), List.getElem?_append_left (show k < xs.length by omega)] at this
        simpa using this
      rw [List.getElem?_take]
      by_cases hk : k < (n + 1) * 5
      · rw [if_pos hk, Array.getElem?_toList, setSeg_get _ _ _ _ (by rw [hvl]; exact hroom), hvl]
        by_cases hkn : k < n * 5
        · rw [if_neg (by omega), hcur k hkn, List.getElem?_append_left (by omega)]
        · rw [if_pos (by omega), List.getElem?_append_right (by omega), hx5]; rfl
      · rw [if_neg hk, List.getElem?_eq_none]
        simp [ItV.cells, hx5]
        have : v.arr.size = 5 := rfl
        omega
    · exact setCells_chg _ _ _ (Chg.refl _ _) (.inl (by simp))
    · have : ∀ (vs : List Value) (o : Nat) (w : World), (w.setCells g o vs).heap.size = w.heap.size := by
        intro vs
        induction vs with
        | nil => intro o w; rfl
        | cons v r ih => intro o w; rw [World.setCells, ih]; simp [World.setCell]
      exact this _ _ _
def stZero (T : TypeId) : St Grow := ⟨fun v w => ∃ p, v = .slice (some ⟨p, 0, none⟩) 1 1 ∧ w.heap[p]? = some (.cells itZ.arr T (0, 0)), fun v w w' h hg => let ⟨p, e, h0⟩ := h; ⟨p, e, (hg.block _ (block_lt h0)).trans h0⟩⟩
end Go.Proofs.YtmpajhacigjloaaDoor
