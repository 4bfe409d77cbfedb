/- PayParses: an item stored within a row; a slice of one field. -/
import Derived.Test.YtpcbofgjnbdfhaaPay13
import Derived.Test.YtpcbofgjnbdfhaaPay11
namespace Go.Proofs.Ytpcbofgjnbdfhaa
open Go.RowKit
set_option linter.unusedVariables false
set_option linter.unusedSimpArgs false
set_option maxRecDepth 100000
set_option maxHeartbeats 1600000
theorem itm_set (l : List ItV) (i : Nat) (y : ItV) (hi : i < l.length) (k : Nat) : (itmCells (l.set i y))[k]? = if i * 5 ≤ k ∧ k < i * 5 + 5 then y.arr.toList[k - i * 5]? else (itmCells l)[k]? := by
  obtain ⟨q, r, hr, rfl⟩ : ∃ q r, r < 5 ∧ k = q * 5 + r := ⟨k / 5, k % 5, by omega, by omega⟩
  rcases Nat.lt_or_ge q l.length with hq | hq
  · by_cases hqi : q = i
    · subst hqi
      rw [if_pos (by omega), itm_get _ q r y (by rw [List.getElem?_set_self hi]) hr, show q * 5 + r - q * 5 = r by omega]; rfl
    · rw [if_neg (by omega), itm_get _ q r l[q] (by rw [List.getElem?_set_ne (by omega), List.getElem?_eq_getElem hq]) hr, itm_get _ q r l[q] (List.getElem?_eq_getElem hq) hr]
  · rw [if_neg (by omega), List.getElem?_eq_none (by rw [itm_len, List.length_set]; omega), List.getElem?_eq_none (by rw [itm_len]; omega)]
theorem wpList_store_at {P : Program} {w : World} {ops : Array Oper} {rest : List Oper} {op : Oper} {a : Act} {Q : Exit → Act → World → Prop} (hgd : op.guard = none) (ty : TypeId) (x y : Operand) (ho : op.op = .store ty x y)
    (g o : Nat) (hx : a.eval x = .pointer (some ⟨g, o, none⟩)) (v : ItV) (hy : a.eval y = .agg v.arr) {base n c : Nat} {T : TypeId} {l : List ItV} (hown : w.ownsRow base T 5 (.slice (some ⟨g, 0, none⟩) n c) n (itmCells l)) (k : Nat) (hk : k < n) (ho5 : o = k * 5)
    (hi : (P.info? ty).map (·.size) = some 5) (h1 : v.arr.all (·.oneCell') = true)
    (h : ∀ w', w'.ownsRow base T 5 (.slice (some ⟨g, 0, none⟩) n c) n (itmCells (l.set k v)) → Chg [g] w w' → w'.heap.size = w.heap.size → wpList P ops Q rest (a.put op.dst undef) w') : wpList P ops Q (op :: rest) a w := by
  subst ho5
  have hll : l.length = n := by have := hown.1; rw [itm_len] at this; omega
  rcases hown.2 with ⟨hv, h0⟩ | ⟨g', cap, cur, hv, hg, hh, hnc, hcm, hcs, ht⟩
  · cases hv
  · simp only [Value.slice.injEq, Option.some.injEq, Addr.mk.injEq] at hv
    obtain ⟨⟨rfl, _⟩, _, rfl⟩ := hv
    have hroom : k * 5 + 5 ≤ cur.size := by rw [hcs]; have := Nat.mul_le_mul_right 5 hnc; omega
    have hvl : v.arr.toList.length = 5 := rfl
    refine wpList_store_mid hgd ty x y ho g (k * 5) v.arr hx hy ?_ hi h1 (h _ ?_ ?_ ?_)
    · intro j hj
      have hj5 : j < 5 := hj
      refine ⟨?_, frozen_of_block hh⟩
      rw [cell_of_block hh (Array.getElem?_eq_getElem (by omega))]; rfl
    · refine ⟨by rw [itm_len, List.length_set, hll], .inr ⟨g, c, setSeg cur (k * 5) v.arr.toList, rfl, hg, setCells_block _ _ _ _ hh, hnc, hcm, by rw [setSeg_size]; exact hcs, ?_⟩⟩
      refine List.ext_getElem? fun q => ?_
      rw [itm_set l k v (by omega) q, List.getElem?_take]
      by_cases hq : q < n * 5
      · rw [if_pos hq, Array.getElem?_toList, setSeg_get _ _ _ _ (by rw [hvl]; exact hroom), hvl]
        by_cases hqn : k * 5 ≤ q ∧ q < k * 5 + 5
        · rw [if_pos hqn, if_pos hqn]
        · rw [if_neg hqn, if_neg hqn]
          have := congrArg (fun l => l[q]?) ht
          simp only [List.getElem?_take, if_pos hq] at this
          simpa using this
      · rw [if_neg hq, if_neg (by omega), List.getElem?_eq_none (by rw [itm_len]; omega)]
    · exact setCells_chg _ _ _ (Chg.refl _ _) (.inl (by simp))
    · have : ∀ (vs : List Value) (o : Nat) (w : World), (w.setCells g o vs).heap.size = w.heap.size := by
        intro vs
        induction vs with
        | nil => intro o w; rfl
        | cons v r ih => intro o w; rw [World.setCells, ih]; simp [World.setCell]
      exact this _ _ _
/-- An item without data and kids. -/
def Flat (x : ItV) : Prop := x.foot = [] ∧ ∀ w, x.ok w
theorem kidV_flat (y : RawD) : Flat (kidV y) := ⟨rfl, fun w => ItV.ok.zero w _ _ _⟩
theorem own_flat {T : TypeId} {w : World} {base : Nat} {s : Sl} {l : List ItV} (h : w.ownsRow base T 5 (.slice s.a s.n s.c) s.n (itmCells l)) (hf : ∀ x ∈ l, Flat x) : OwnIt T w base base s l :=
  ⟨h, fun x hx => (hf x hx).2 w, (fun x hx k hk => by rw [(hf x hx).1] at hk; cases hk), (fun x hx k hk => by rw [(hf x hx).1] at hk; cases hk)⟩
theorem set_flat {l : List ItV} {i : Nat} {y : ItV} (h : ∀ x ∈ l, Flat x) (hy : Flat y) : ∀ x ∈ l.set i y, Flat x := fun x hx => by
  rcases List.mem_or_eq_of_mem_set hx with h' | h'
  · exact h x h'
  · rw [h']; exact hy
theorem wpList_build_fld {P : Program} {ops : Array Oper} {rest : List Oper} {o : Oper} {a : Act} {w : World} {Q : Exit → Act → World → Prop} (hg : o.guard = none) (T E : TypeId) (x : Operand) (ho : o.op = .buildSlice T 1 #[(0, x)]) (v : Fld) (hx : a.eval x = .agg v.arr)
    (i : TypeInfo) (hu : P.underlying T = some (.slice E)) (hi : P.info? E = some i) (hz : i.zero = some (.agg fldZ.arr)) (hs : i.size = 4)
    (h : wpList P ops Q rest (a.put o.dst (.slice (some ⟨w.heap.size, 0, none⟩) 1 1)) (w.alloc (.cells v.arr E))) : wpList P ops Q (o :: rest) a w := by
  refine wpList_buildSlice hg T E 1 _ ho v.arr i _ hu hi hz (by rw [hs]; decide) (by rw [hs]; decide) ?_ h
  rw [hs, show ((#[(0, x)] : Array (Nat × Operand)).map fun (i, x) => (i, a.eval x)).toList = [(0, Value.agg v.arr)] from by simp [hx]]
  kernel_rfl
def stNewF : St Grow := ⟨fun v w => ∃ p, v = .pointer (some ⟨p, 0, none⟩) ∧ w.heap[p]? = some (.cells fldZ.arr 28 (0, 0)), fun v w w' h hg => let ⟨p, e, h1⟩ := h; ⟨p, e, (hg.block _ (block_lt h1)).trans h1⟩⟩
end Go.Proofs.Ytpcbofgjnbdfhaa
