/- law15: fields, known. -/
import Derived.Test.YtbnbofooofedkaaDoorPay12
namespace Go.Proofs.YtbnbofooofedkaaDoor
open Go.RowKit
set_option linter.unusedVariables false
set_option linter.unusedSimpArgs false
set_option maxRecDepth 100000
set_option maxHeartbeats 400000
/-- A slice of items built in one go. -/
theorem SlR.built {w : World} {T : TypeId} {C : Array Value} {vs : List ItV} (hC : C.toList = itmCells vs) {n : Nat} (hn : vs.length = n) (hs : n ≤ 1099511627776) : SlR (w.alloc (.cells C T)) ⟨some ⟨w.heap.size, 0, none⟩, n, n⟩ 5 (itmCells vs) :=
 ⟨RdC.new _ _ _ _ _ hC _ (by rw [itm_len, hn]) _ rfl, by simp, hs, by simp [Sl.blk], Nat.le_refl _⟩
theorem wpList_build_items {P : Program} {ops : Array Oper} {rest : List Oper} {o : Oper} {a : Act} {w : World} {Q : Exit → Act → World → Prop} (hg : o.guard = none) (T E : TypeId) (n : Nat) (ps : Array (Nat × Operand)) (ho : o.op = .buildSlice T n ps) (vs : List ItV) (hn : vs.length = n) (h0 : 0 < n) (h9 : n ≤ 100)
  (hx : (ps.map fun (i, x) => (i, a.eval x)).toList = (vs.zipIdx 0).map fun x => (x.2, Value.agg x.1.arr)) (C : Array Value)
  (i : TypeInfo) (hu : P.underlying T = some (.slice E)) (hi : P.info? E = some i) (hz : i.zero = some (.agg itZ.arr)) (hs : i.size = 5)
  (hf : Instr.fill (fun i => some (i * 5, 5)) ((Array.range (n * 5)).map (itZ.arr[· % itZ.arr.size]!)) ((vs.zipIdx 0).map fun x => (x.2, Value.agg x.1.arr)) = some C)
  (h : wpList P ops Q rest (a.put o.dst (.slice (some ⟨w.heap.size, 0, none⟩) n n)) (w.alloc (.cells C E))) : wpList P ops Q (o :: rest) a w := by
 refine wpList_buildSlice hg T E n _ ho C i _ hu hi hz (by rw [hs]; omega) (by rw [hs]; omega) ?_ h
 rw [hs, hx]
 exact hf
/-- A row of rows, at one place. -/
theorem Rows2.at {T1 T : TypeId} {w : World} {base low : Nat} {s : Sl} {sls : List Sl} {rv : List (List ItV)} {rows : List (List Itm)} (h : Rows2 T1 T w base low s sls rv) (hr : rv.map (fun l => l.map ItV.it) = rows) {k : Nat} {r : List Itm} (hk : rows[k]? = some r) :
  ∃ (sl : Sl) (l : List ItV) (g : Nat), sls[k]? = some sl ∧ rv[k]? = some l ∧ l.map ItV.it = r ∧ OwnIt T w base low sl l ∧ sl.n = r.length ∧ s.a = some ⟨g, 0, none⟩ ∧ w.cell? ⟨g, k, none⟩ = some (.slice sl.a sl.n sl.c) ∧ k < s.n := by
 subst hr
 rw [List.getElem?_map] at hk
 cases hl : rv[k]? with
 | none => rw [hl] at hk; cases hk
 | some l =>
  rw [hl] at hk
  simp only [Option.map_some, Option.some.injEq] at hk
  have hlt := (List.getElem?_eq_some_iff.1 hl).1
  have hlen := h.len
  have hsl : sls[k]? = some (sls[k]'(by omega)) := List.getElem?_eq_getElem _
  have ho := h.each k _ l hsl hl
  have hkn : k < s.n := by have := h.slen; omega
  have hown := h.own
  obtain ⟨g, hg, _, _⟩ := (own_slice hown).2.2 (by omega)
  refine ⟨_, l, g, hsl, rfl, hk, ho, by rw [← ho.len, ← hk, List.length_map], hg, ?_, hkn⟩
  rw [hg] at hown
  rw [hown.cellAt k (by omega), List.getElem?_map, hsl]; rfl
theorem Rows2.rlen {T1 T : TypeId} {w : World} {base low : Nat} {s : Sl} {sls : List Sl} {rv : List (List ItV)} {rows : List (List Itm)} (h : Rows2 T1 T w base low s sls rv) (hr : rv.map (fun l => l.map ItV.it) = rows) : s.n = rows.length := by
 have := h.slen; have := h.len; rw [← hr, List.length_map]; omega

/-- A row of one item. -/
theorem OwnIt.one {T : TypeId} {w : World} {base low : Nat} {sl : Sl} {l : List ItV} {i : Itm} (h : OwnIt T w base low sl l) (hl : l.map ItV.it = [i]) (hn : sl.n ≤ 1099511627776) : ∃ (x : ItV) (g : Nat), l = [x] ∧ x.it = i ∧ sl.a = some ⟨g, 0, none⟩ ∧ w.rangeAt g 0 x.cells ∧ x.ok w ∧ sl.n = 1 := by
 match l, hl with
 | [x], hl =>
  have h1 : sl.n = 1 := by have := h.len; simpa using this.symm
  obtain ⟨g, hg, _, _⟩ := (own_slice h.own).2.2 (by omega)
  obtain ⟨b, off, y, ha, hy, hr⟩ := (h.sl hn).row (k := 0) (by omega)
  rw [hg] at ha
  simp only [Option.some.injEq, Addr.mk.injEq] at ha
  obtain ⟨rfl, rfl, _⟩ := ha
  simp at hy
  subst hy
  exact ⟨x, g, rfl, by simpa using hl, hg, by simpa using hr, h.ok x (by simp), h1⟩
end Go.Proofs.YtbnbofooofedkaaDoor
