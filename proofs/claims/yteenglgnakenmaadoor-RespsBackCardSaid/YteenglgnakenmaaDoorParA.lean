/- Several texts in one. -/
import Derived.Test.YteenglgnakenmaaDoorPay6
import Derived.Test.YteenglgnakenmaaDoorOwnA
namespace Go.Proofs.YteenglgnakenmaaDoor
open Go.RowKit
set_option linter.unusedVariables false
set_option linter.unusedSimpArgs false
set_option maxRecDepth 100000
set_option maxHeartbeats 3200000
theorem grow_on {a b c : World} (h : Below a.heap.size a b) (k : Below b.heap.size b c) : Below a.heap.size a c := h.trans (k.mono h.size)
theorem run_append_empty {P : Program} (w : World) (base : Nat) (t ty e : TypeId) (i : TypeInfo) (z : Value) (size bytes : Nat) (ht : P.underlying t = some (.slice e)) (hi : P.info? e = some i) (hz : i.zero = some z)
    (hsize : i.size = size) (hby : i.bytes = bytes) (hzs : z.cells.size = size) (hsz : 0 < size) (g : Nat) (hg : w.heap[g]? = some (.cells #[] e (0, 0))) (hgb : base ≤ g)
    (a : Option Addr) (m c : Nat) (news : List Value) (hx : RdC w a (m * size) news) (h1 : ∀ u ∈ news, u.oneCell' = true) (hc : a = none → c = 0) (h63 : m ≤ maxLen) (hbytes : m * bytes ≤ 140737488355328) :
    ∃ a' c' w', (Builtin.append_ #[t, t] ty #[.slice (some ⟨g, 0, none⟩) 0 0, .slice a m c]).run P w = .ok (.slice a' m c') w' ∧ w'.ownsRow base e size (.slice a' m c') m news ∧ Below w.heap.size w w' := by
  have hgl := block_lt hg
  have hown : w.ownsRow base e size (.slice (some ⟨g, 0, none⟩) 0 0) 0 [] := ⟨by simp, .inr ⟨g, 0, #[], rfl, hgb, hg, Nat.le_refl _, by unfold maxLen; omega, by simp, by simp⟩⟩
  have hnil : m = 0 → news = [] := fun h => List.eq_nil_of_length_eq_zero (by rw [hx.len, h]; simp)
  cases a with
  | none =>
    obtain rfl := hc rfl
    have hm : m = 0 := by
      rcases Nat.eq_zero_or_pos m with h | h
      · exact h
      · obtain ⟨b, off, ha, _⟩ := hx.cell 0 (Nat.mul_pos h hsz); cases ha
    subst hm
    obtain rfl := hnil rfl
    exact ⟨_, _, w, run_append_owned_none (P := P) (w := w) base t ty e i size ht hi _ 0 [] hown, hown, Below.refl _ _⟩
  | some a =>
    rcases Nat.eq_zero_or_pos m with h | h
    · subst h
      obtain rfl := hnil rfl
      have hr := run_append_room (P := P) w t ty e i ht hi g 0 0 #[] hg a 0 c [] (by simp) (by simp) (by simp) (Nat.le_refl _) (by simp)
      have hch : Chg [] w (w.setRow g (((#[] : Array Value).toList.take (0 * i.size) ++ [] ++ (#[] : Array Value).toList.drop (0 * i.size + ([] : List Value).length)).toArray)) := by
        refine ⟨rfl, rfl, rfl, by simp [World.setRow], fun k hk _ => ?_⟩
        by_cases hkg : k = g
        · subst hkg
          simp [World.setRow, Array.getElem?_modify, hg]
        · simp [World.setRow, Array.getElem?_modify, Ne.symm hkg]
      exact ⟨_, _, _, hr, hch.owns hown (by simp), hch.below (by simp) (Nat.le_refl _)⟩
    · obtain ⟨v', w', hr, h2, h3⟩ := run_append_arg_grows (P := P) w t ty e i z size bytes ht hi hz hsize hby hzs hsz ⟨g, 0, none⟩ 0 0 [] (by simp) (by simp) a m c news hx.len hx.news (by omega) (by omega) (by rw [Nat.zero_add]; exact hbytes)
      rw [Nat.zero_add, List.nil_append] at h2
      obtain ⟨a', c', rfl⟩ : ∃ a' c', v' = .slice a' m c' := by
        rcases h2.2 with ⟨hv, h0⟩ | ⟨g', cap, cur, hv, _⟩
        · exact ⟨none, 0, by rw [hv, h0]⟩
        · exact ⟨_, _, hv⟩
      exact ⟨a', c', w', hr, ownsRow_base h2 (fun k hk => by have := (h2.lt k hk).1; omega), (Below.refl _ _).grown h3 (Nat.le_refl _) (fun k hk => by cases hk)⟩
theorem wp_append_empty {P : Program} {w : World} {o : Oper} {a : Act} {K : Act → World → Prop} {Q : Exit → Act → World → Prop} (s x : Operand) (t : TypeId)
    (ho : o.op = .call { callee := .builtin .append, args := #[s, x], argTypes := #[t, t] })
    (base : Nat) (e : TypeId) (i : TypeInfo) (z : Value) (size bytes : Nat) (ht : P.underlying t = some (.slice e)) (hi : P.info? e = some i) (hz : i.zero = some z)
    (hsize : i.size = size) (hby : i.bytes = bytes) (hzs : z.cells.size = size) (hsz : 0 < size) (g : Nat) (hs : a.eval s = .slice (some ⟨g, 0, none⟩) 0 0) (hg : w.heap[g]? = some (.cells #[] e (0, 0))) (hgb : base ≤ g)
    (ad : Option Addr) (m c : Nat) (news : List Value) (hx : a.eval x = .slice ad m c) (hr : RdC w ad (m * size) news) (h1 : ∀ u ∈ news, u.oneCell' = true) (hc : ad = none → c = 0) (h63 : m ≤ maxLen) (hbytes : m * bytes ≤ 140737488355328)
    (h : ∀ a' c' w', w'.ownsRow base e size (.slice a' m c') m news → Below w.heap.size w w' → K (a.put o.dst (.slice a' m c')) w') : o.wp P a w K Q := by
  obtain ⟨a', c', w', hrun, h2, h3⟩ := run_append_empty (P := P) w base t o.type e i z size bytes ht hi hz hsize hby hzs hsz g hg hgb ad m c news hr h1 hc h63 hbytes
  unfold Oper.wp execOp
  simp only [ho, resolve, invoke, builtin, Sem.run_bind, Sem.run_pure, Result.andThen_ok, List.map_toArray, List.map_cons, List.map_nil, hs, hx, hrun]
  exact h a' c' w' h2 h3
end Go.Proofs.YteenglgnakenmaaDoor
namespace Go.Proofs.YteenglgnakenmaaDoor
open Go.RowKit
set_option linter.unusedVariables false
set_option linter.unusedSimpArgs false
set_option maxRecDepth 100000
set_option maxHeartbeats 400000
/-- A slice of items built in one go. -/
theorem SlR.built {w : World} {T : TypeId} {C : Array Value} {vs : List ItV} (hC : C.toList = itmCells vs) {n : Nat} (hn : vs.length = n) (hs : n ≤ 1099511627776) : SlR (w.alloc (.cells C T)) ⟨some ⟨w.heap.size, 0, none⟩, n, n⟩ 5 (itmCells vs) :=
  ⟨RdC.new _ _ _ _ _ hC _ (by rw [itm_len, hn]) _ rfl, by simp, hs, by simp [Sl.blk], Nat.le_refl _⟩
theorem wpList_build_items {P : Program} {ops : Array Oper} {rest : List Oper} {o : Oper} {a : Act} {w : World} {Q : Exit → Act → World → Prop} (hg : o.guard = none) (T E : TypeId) (n : Nat) (ps : Array (Nat × Operand)) (ho : o.op = .buildSlice T n ps) (vs : List ItV) (hn : vs.length = n) (h0 : 0 < n) (h9 : n ≤ 100)
    (hx : (ps.map fun (i, x) => (i, a.eval x)).toList = (vs.zipIdx 0).map fun x => (x.2, Value.agg x.1.arr)) (C : Array Value)
    (i : TypeInfo) (hu : P.underlying T = some (.slice E)) (hi : P.info? E = some i) (hz : i.zero = some (.agg itZ.arr)) (hs : i.size = 5)
    (hf : Instr.fill (fun i => some (i * 5, 5)) ((Array.range (n * 5)).map (itZ.arr[· % itZ.arr.size]!)) ((vs.zipIdx 0).map fun x => (x.2, Value.agg x.1.arr)) = some C)
    (h : wpList P ops Q rest (a.put o.dst (.slice (some ⟨w.heap.size, 0, none⟩) n n)) (w.alloc (.cells C E))) : wpList P ops Q (o :: rest) a w := by
  refine wpList_buildSlice hg T E n _ ho C i _ hu hi hz (by rw [hs]; omega) (by rw [hs]; omega) ?_ h
  rw [hs, hx]
  exact hf
/-- A row of rows, at one place. -/
theorem Rows2.at {T1 T : TypeId} {w : World} {base low : Nat} {s : Sl} {sls : List Sl} {rv : List (List ItV)} {rows : List (List Itm)} (h : Rows2 T1 T w base low s sls rv) (hr : rv.map (fun l => l.map ItV.it) = rows) {k : Nat} {r : List Itm} (hk : rows[k]? = some r) :
    ∃ (sl : Sl) (l : List ItV) (g : Nat), sls[k]? = some sl ∧ rv[k]? = some l ∧ l.map ItV.it = r ∧ OwnIt T w base low sl l ∧ sl.n = r.length ∧ s.a = some ⟨g, 0, none⟩ ∧ w.cell? ⟨g, k, none⟩ = some (.slice sl.a sl.n sl.c) ∧ k < s.n := by
  subst hr
  rw [List.getElem?_map] at hk
  cases hl : rv[k]? with
  | none => rw [hl] at hk; cases hk
  | some l =>
    rw [hl] at hk
    simp only [Option.map_some, Option.some.injEq] at hk
    have hlt := (List.getElem?_eq_some_iff.1 hl).1
    have hlen := h.len
    have hsl : sls[k]? = some (sls[k]'(by omega)) := List.getElem?_eq_getElem _
    have ho := h.each k _ l hsl hl
    have hkn : k < s.n := by have := h.slen; omega
    have hown := h.own
    obtain ⟨g, hg, _, _⟩ := (own_slice hown).2.2 (by omega)
    refine ⟨_, l, g, hsl, rfl, hk, ho, by rw [← ho.len, ← hk, List.length_map], hg, ?_, hkn⟩
    rw [hg] at hown
    rw [hown.cellAt k (by omega), List.getElem?_map, hsl]; rfl
theorem Rows2.rlen {T1 T : TypeId} {w : World} {base low : Nat} {s : Sl} {sls : List Sl} {rv : List (List ItV)} {rows : List (List Itm)} (h : Rows2 T1 T w base low s sls rv) (hr : rv.map (fun l => l.map ItV.it) = rows) : s.n = rows.length := by
  have := h.slen; have := h.len; rw [← hr, List.length_map]; omega

/-- A row of one item. -/
theorem OwnIt.one {T : TypeId} {w : World} {base low : Nat} {sl : Sl} {l : List ItV} {i : Itm} (h : OwnIt T w base low sl l) (hl : l.map ItV.it = [i]) (hn : sl.n ≤ 1099511627776) : ∃ (x : ItV) (g : Nat), l = [x] ∧ x.it = i ∧ sl.a = some ⟨g, 0, none⟩ ∧ w.rangeAt g 0 x.cells ∧ x.ok w ∧ sl.n = 1 := by
  match l, hl with
  | [x], hl =>
    have h1 : sl.n = 1 := by have := h.len; simpa using this.symm
    obtain ⟨g, hg, _, _⟩ := (own_slice h.own).2.2 (by omega)
    obtain ⟨b, off, y, ha, hy, hr⟩ := (h.sl hn).row (k := 0) (by omega)
    rw [hg] at ha
    simp only [Option.some.injEq, Addr.mk.injEq] at ha
    obtain ⟨rfl, rfl, _⟩ := ha
    simp at hy
    subst hy
    exact ⟨x, g, rfl, by simpa using hl, hg, by simpa using hr, h.ok x (by simp), h1⟩
end Go.Proofs.YteenglgnakenmaaDoor
namespace Go.Proofs.YteenglgnakenmaaDoor
open Go.RowKit
set_option linter.unusedVariables false
set_option linter.unusedSimpArgs false
set_option maxRecDepth 100000
set_option maxHeartbeats 1600000
theorem range_of_block {w : World} {b : Nat} {C : Array Value} {T : TypeId} {fr : Nat × Nat} (h : w.heap[b]? = some (.cells C T fr)) (o : Nat) (cs : List Value) (hc : ∀ (j : Nat) v, cs[j]? = some v → C[o + j]? = some v) : w.rangeAt b o cs :=
  fun j v hv => cell_of_block h (hc j v hv)
theorem cast_eq0 (n : Nat) : ((n : Int) == 0) = decide (n = 0) := by
  cases n with
  | zero => rfl
  | succ n => simp; omega
theorem isEmpty_n {α : Type} {l : List α} {n : Nat} (h : l.length = n) : l.isEmpty = decide (n = 0) := by
  subst h; cases l <;> simp
def numI (t k n : Int) : Itm := { tag := t, typ := k, int := n }
def ofI (t : Int) (l : List Itm) : Itm := { tag := t, typ := 1, kids := l }
def stNewQ (T : TypeId) (C : Array Value) (z : Nat) : St Grow := ⟨fun v w => ∃ p, v = .pointer (some ⟨p, 0, none⟩) ∧ w.heap[p]? = some (.cells C T (0, 0)) ∧ z ≤ p, fun v w w' h hg => let ⟨p, e, h1, h2⟩ := h; ⟨p, e, (hg.block _ (block_lt h1)).trans h1, h2⟩⟩
/-- In a region: items made; a slice of them. -/
def stMade (I : Itm) : St Grow := ⟨fun v w => ∃ x : ItV, v = .agg x.arr ∧ x.it = I ∧ x.ok w, fun v w w' h hg => let ⟨x, e, h1, h2⟩ := h; ⟨x, e, h1, h2.below hg⟩⟩
def stItems (L : List Itm) : St Grow := ⟨fun v w => ∃ (s : Sl) (l : List ItV), v = .slice s.a s.n s.c ∧ l.map ItV.it = L ∧ SlR w s 5 (itmCells l) ∧ ∀ x ∈ l, x.ok w, fun v w w' h hg => let ⟨s, l, e, h1, h2, h3⟩ := h; ⟨s, l, e, h1, h2.below hg, fun x hx => (h3 x hx).below hg⟩⟩
theorem wp_build_items {P : Program} {o : Oper} {a : Act} {w : World} {K : Act → World → Prop} {Q : Exit → Act → World → Prop} (T E : TypeId) (n : Nat) (ps : Array (Nat × Operand)) (ho : o.op = .buildSlice T n ps) (vs : List ItV) (hn : vs.length = n) (h0 : 0 < n) (h9 : n ≤ 100)
    (hx : (ps.map fun (i, x) => (i, a.eval x)).toList = (vs.zipIdx 0).map fun x => (x.2, Value.agg x.1.arr)) (C : Array Value) (hC : C.toList = itmCells vs)
    (i : TypeInfo) (hu : P.underlying T = some (.slice E)) (hi : P.info? E = some i) (hz : i.zero = some (.agg itZ.arr)) (hs : i.size = 5)
    (hf : Instr.fill (fun i => some (i * 5, 5)) ((Array.range (n * 5)).map (itZ.arr[· % itZ.arr.size]!)) ((vs.zipIdx 0).map fun x => (x.2, Value.agg x.1.arr)) = some C)
    (h : ∀ s : Sl, SlR (w.alloc (.cells C E)) s 5 (itmCells vs) → K (a.put o.dst (.slice s.a s.n s.c)) (w.alloc (.cells C E))) : o.wp P a w K Q := by
  refine wp_buildSlice T E n _ ho C i _ hu hi hz (by rw [hs]; omega) (by rw [hs]; omega) ?_ (h ⟨_, _, _⟩ (SlR.built hC hn (by omega)))
  rw [hs, hx]
  exact hf
theorem fill1 (x0 : ItV) : Instr.fill (fun i => some (i * 5, 5)) ((Array.range (1 * 5)).map (itZ.arr[· % itZ.arr.size]!)) (([x0].zipIdx 0).map fun x => (x.2, Value.agg x.1.arr)) = some (x0.arr) := by kernel_rfl
theorem fill2 (x0 x1 : ItV) : Instr.fill (fun i => some (i * 5, 5)) ((Array.range (2 * 5)).map (itZ.arr[· % itZ.arr.size]!)) (([x0, x1].zipIdx 0).map fun x => (x.2, Value.agg x.1.arr)) = some (x0.arr ++ x1.arr) := by kernel_rfl
theorem fill3 (x0 x1 x2 : ItV) : Instr.fill (fun i => some (i * 5, 5)) ((Array.range (3 * 5)).map (itZ.arr[· % itZ.arr.size]!)) (([x0, x1, x2].zipIdx 0).map fun x => (x.2, Value.agg x.1.arr)) = some (x0.arr ++ x1.arr ++ x2.arr) := by kernel_rfl
theorem fill4 (x0 x1 x2 x3 : ItV) : Instr.fill (fun i => some (i * 5, 5)) ((Array.range (4 * 5)).map (itZ.arr[· % itZ.arr.size]!)) (([x0, x1, x2, x3].zipIdx 0).map fun x => (x.2, Value.agg x.1.arr)) = some (x0.arr ++ x1.arr ++ x2.arr ++ x3.arr) := by kernel_rfl
theorem fill5 (x0 x1 x2 x3 x4 : ItV) : Instr.fill (fun i => some (i * 5, 5)) ((Array.range (5 * 5)).map (itZ.arr[· % itZ.arr.size]!)) (([x0, x1, x2, x3, x4].zipIdx 0).map fun x => (x.2, Value.agg x.1.arr)) = some (x0.arr ++ x1.arr ++ x2.arr ++ x3.arr ++ x4.arr) := by kernel_rfl
theorem fill6 (x0 x1 x2 x3 x4 x5 : ItV) : Instr.fill (fun i => some (i * 5, 5)) ((Array.range (6 * 5)).map (itZ.arr[· % itZ.arr.size]!)) (([x0, x1, x2, x3, x4, x5].zipIdx 0).map fun x => (x.2, Value.agg x.1.arr)) = some (x0.arr ++ x1.arr ++ x2.arr ++ x3.arr ++ x4.arr ++ x5.arr) := by kernel_rfl
theorem fill7 (x0 x1 x2 x3 x4 x5 x6 : ItV) : Instr.fill (fun i => some (i * 5, 5)) ((Array.range (7 * 5)).map (itZ.arr[· % itZ.arr.size]!)) (([x0, x1, x2, x3, x4, x5, x6].zipIdx 0).map fun x => (x.2, Value.agg x.1.arr)) = some (x0.arr ++ x1.arr ++ x2.arr ++ x3.arr ++ x4.arr ++ x5.arr ++ x6.arr) := by kernel_rfl
def stMadeL (I : Itm) (lo : Nat) : St Grow := ⟨fun v w => ∃ x : ItV, v = .agg x.arr ∧ x.it = I ∧ x.ok w ∧ ∀ k ∈ x.foot, lo ≤ k, fun v w w' h hg => let ⟨x, e, h1, h2, h3⟩ := h; ⟨x, e, h1, h2.below hg, h3⟩⟩
def stItemL (I : Itm) (lo : Nat) : St Grow := ⟨fun v w => ∃ (s : Sl) (x : ItV), v = .slice s.a s.n s.c ∧ s.n = 1 ∧ x.it = I ∧ SlR w s 5 (itmCells [x]) ∧ x.ok w ∧ ∀ k ∈ x.foot, lo ≤ k, fun v w w' h hg => let ⟨s, x, e, h0, h1, h2, h3, h4⟩ := h; ⟨s, x, e, h0, h1, h2.below hg, h3.below hg, h4⟩⟩
theorem numV_it (t k n : Int) : ItV.it { tag := t, typ := k, int := n } = numI t k n := it_flat _ _ _ _ _
theorem numV_ok (w : World) (t k n : Int) : ItV.ok w { tag := t, typ := k, int := n } := ItV.ok.zero w _ _ _
theorem itZ_it : itZ.it = {} := it_flat _ _ _ _ _
theorem itZ_ok (w : World) : itZ.ok w := ItV.ok.zero w _ _ _
theorem it_tag' (x : ItV) : x.it.tag = x.tag := by rw [ItV.it_eq]
theorem told_it {b : Bool} {x : ItV} {I : Itm} (h : x.it = I) : (if b then x else itZ).it = if b then I else {} := by cases b <;> simp [h, itZ_it]
theorem told_ok {b : Bool} {x : ItV} {w : World} (h : x.ok w) : (if b then x else itZ).ok w := by cases b; exact itZ_ok w; exact h
def someI (L : List Itm) : List Itm := L.filter fun i => i.tag != 0
theorem some_map {l lo : List ItV} {L : List Itm} (h : lo.map ItV.it = (l.filter fun x => x.tag != 0).map ItV.it) (hl : l.map ItV.it = L) : lo.map ItV.it = someI L := by
  rw [h, ← hl, someI, List.filter_map]
  congr 1
  exact List.filter_congr fun x _ => by simp [it_tag']
/-- Cells laid out in one go are the call's own row. -/
theorem own_built {w : World} {T : TypeId} {base size n : Nat} {C : Array Value} (hb : base ≤ w.heap.size) (hC : C.size = n * size) (hn : n ≤ maxLen) : (w.alloc (.cells C T)).ownsRow base T size (.slice (some ⟨w.heap.size, 0, none⟩) n n) n C.toList :=
  ⟨by simp [hC], .inr ⟨w.heap.size, n, C, rfl, hb, block_new _ _, Nat.le_refl _, hn, hC, by rw [← hC, ← Array.length_toList, List.take_length]⟩⟩
def stMadeP (I : Itm) (F : Nat → Prop) : St Grow := ⟨fun v w => ∃ x : ItV, v = .agg x.arr ∧ x.it = I ∧ x.ok w ∧ ∀ k ∈ x.foot, F k, fun v w w' h hg => let ⟨x, e, h1, h2, h3⟩ := h; ⟨x, e, h1, h2.below hg, h3⟩⟩
def stItemsP (L : List Itm) (n : Nat) (F : Nat → Prop) : St Grow := ⟨fun v w => ∃ (s : Sl) (l : List ItV), v = .slice s.a s.n s.c ∧ s.n = n ∧ l.map ItV.it = L ∧ SlR w s 5 (itmCells l) ∧ ∀ x ∈ l, x.ok w ∧ ∀ k ∈ x.foot, F k, fun v w w' h hg => let ⟨s, l, e, h0, h1, h2, h3⟩ := h; ⟨s, l, e, h0, h1, h2.below hg, fun x hx => ⟨(h3 x hx).1.below hg, (h3 x hx).2⟩⟩⟩
/-- A structure whose one kid stands in a row of the call's own. -/
def stHead (T : TypeId) (t : Int) (I : Itm) (z : Nat) : St Grow := ⟨fun v w => ∃ (s : Sl) (y : ItV), v = .agg (ItV.arr { tag := t, typ := 1, ks := s, kids := [y] }) ∧ s.n = 1 ∧ y.it = I ∧ OwnIt T w z 0 s [y], fun v w w' h hg => let ⟨s, y, e, h1, h2, h3⟩ := h; ⟨s, y, e, h1, h2, h3.below hg⟩⟩
def stOwn1 (T : TypeId) (I : Itm) (z : Nat) : St Grow := ⟨fun v w => ∃ (s : Sl) (y : ItV), v = .slice s.a s.n s.c ∧ s.n = 1 ∧ y.it = I ∧ OwnIt T w z 0 s [y], fun v w w' h hg => let ⟨s, y, e, h1, h2, h3⟩ := h; ⟨s, y, e, h1, h2, h3.below hg⟩⟩
theorem numV_foot {t k n : Int} (F : Nat → Prop) : ∀ j ∈ ItV.foot { tag := t, typ := k, int := n }, F j := fun j hj => by have := foot_flat hj; simp [Sl.blk] at this
theorem own_one {w : World} {T : TypeId} {base : Nat} (y : ItV) (hy : y.ok w) (hb : base ≤ w.heap.size) : OwnIt T (w.alloc (.cells y.arr T)) base 0 ⟨some ⟨w.heap.size, 0, none⟩, 1, 1⟩ [y] :=
  ⟨by have h := own_built (w := w) (T := T) (base := base) (size := 5) (n := 1) (C := y.arr) hb rfl (by decide); simpa [itmCells, ItV.cells] using h,
   fun x hx => by rw [List.mem_singleton.1 hx]; exact hy.below ((Below.refl _ _).alloc (Nat.le_refl _) _),
   fun x hx k hk he => by rw [List.mem_singleton.1 hx] at hk; have := hy.lt k hk; simp [Sl.v, Value.ownBlock] at he; omega,
   fun _ _ _ _ => Nat.zero_le _⟩
theorem wp_build_itemsP {P : Program} {o : Oper} {a : Act} {w : World} {K : Act → World → Prop} {Q : Exit → Act → World → Prop} (T E : TypeId) (n : Nat) (ps : Array (Nat × Operand)) (ho : o.op = .buildSlice T n ps) (vs : List ItV) (hn : vs.length = n) (h0 : 0 < n) (h9 : n ≤ 100)
    (hx : (ps.map fun (i, x) => (i, a.eval x)).toList = (vs.zipIdx 0).map fun x => (x.2, Value.agg x.1.arr)) (C : Array Value) (hC : C.toList = itmCells vs)
    (i : TypeInfo) (hu : P.underlying T = some (.slice E)) (hi : P.info? E = some i) (hz : i.zero = some (.agg itZ.arr)) (hs : i.size = 5)
    (hf : Instr.fill (fun i => some (i * 5, 5)) ((Array.range (n * 5)).map (itZ.arr[· % itZ.arr.size]!)) ((vs.zipIdx 0).map fun x => (x.2, Value.agg x.1.arr)) = some C)
    (h : ∀ s : Sl, s.n = n → SlR (w.alloc (.cells C E)) s 5 (itmCells vs) → K (a.put o.dst (.slice s.a s.n s.c)) (w.alloc (.cells C E))) : o.wp P a w K Q :=
  wp_build_items T E n ps ho vs hn h0 h9 hx C hC i hu hi hz hs hf (fun s hs => h s (by rw [← hs.klen, hn]) hs)
end Go.Proofs.YteenglgnakenmaaDoor
namespace Go.Proofs.YteenglgnakenmaaDoor
open Go.RowKit
set_option linter.unusedVariables false
set_option linter.unusedSimpArgs false
set_option maxRecDepth 100000
set_option maxHeartbeats 3200000
def stEmpty (T : TypeId) (B : Nat) : St Grow := ⟨fun v w => ∃ g, v = .slice (some ⟨g, 0, none⟩) 0 0 ∧ w.heap[g]? = some (.cells #[] T (0, 0)) ∧ B ≤ g, fun v w w' h hg => let ⟨g, e, h0, h1⟩ := h; ⟨g, e, (hg.block _ (block_lt h0)).trans h0, h1⟩⟩
def stRow (T : TypeId) (B n : Nat) (xs : List Value) : St Grow := ⟨fun v w => ∃ a c, v = .slice a n c ∧ w.ownsRow B T 5 (.slice a n c) n xs, fun v w w' h hg => let ⟨a, c, e, h1⟩ := h; ⟨a, c, e, (Chg.of_below hg []).owns h1 (fun k _ hm => by cases hm)⟩⟩
def stItemR (x : ItV) (T : TypeId) : St Grow := ⟨fun v w => ∃ p, v = .slice (some ⟨p, 0, none⟩) 1 1 ∧ w.heap[p]? = some (.cells x.arr T (0, 0)), fun v w w' h hg => let ⟨p, e, h0⟩ := h; ⟨p, e, (hg.block _ (block_lt h0)).trans h0⟩⟩
/-- What the reference's Parse answers: its items may be shared. -/
def ParsedR (F : Nat → Prop) (T1 T : TypeId) (r : Except Int (List (List Itm))) (w : World) (e : Ending) (w' : World) : Prop :=
  match r with
  | .error c => e = .returned (.tuple #[.slice none 0 0, .int .i64 c]) ∧ Below w.heap.size w w'
  | .ok rows => ∃ (so : Sl) (sls : List Sl) (rv : List (List ItV)), e = .returned (.tuple #[.slice so.a so.n so.c, .int .i64 0]) ∧ Rows2 T1 T w' w.heap.size 0 so sls rv ∧ rv.map (fun l => l.map ItV.it) = rows ∧ (∀ sl ∈ sls, sl.n ≤ 1099511627776) ∧ Below w.heap.size w w' ∧ ∀ lr ∈ rv, ∀ x ∈ lr, ∀ k ∈ x.foot, F k
end Go.Proofs.YteenglgnakenmaaDoor
namespace Go.Proofs.YteenglgnakenmaaDoor
open Go.RowKit
set_option linter.unusedVariables false
set_option linter.unusedSimpArgs false
set_option maxRecDepth 100000
set_option maxHeartbeats 1600000
def numV (l : List Itm) (o : Int) : Int := match l with
  | [] => o
  | x :: _ => x.int
def needF (t k : Int) : Fld := { tag := t, typ := k, need := true }
def maybeF (t k : Int) : Fld := { tag := t, typ := k }
def manyF (t k : Int) : Fld := { tag := t, typ := k, many := true }
def firstI (l : List Itm) : Itm := l.headD {}
/-- What is parsed: as many rows as fields, none empty that must be. -/
theorem parse_rows {l : List Fld} {i : Itm} {r : List (List Itm)} (h : parseV l i = .ok r) : r.length = l.length ∧ ∀ (k : Nat) (f : Fld), l[k]? = some f → f.need = true → ∃ x t, r[k]? = some (x :: t) := by
  unfold parseV at h
  split at h
  · cases h
  · split at h
    · cases h
    · rename_i st hk
      split at h
      · cases h
      · rename_i hm
        simp only [Except.ok.injEq] at h
        subst h
        have hl : st.2.length = l.length := by
          have := parseKids_len (l := l) _ _ _ hk
          simpa using this
        refine ⟨hl, fun k f hf hn => ?_⟩
        have hkl := (List.getElem?_eq_some_iff.1 hf).1
        have hlt : k < st.2.length := by omega
        have hmk : missK l st.2 k = false := by
          cases hq : missK l st.2 k with
          | false => rfl
          | true => exact absurd (missing_yes hkl hq) hm
        unfold missK at hmk
        rw [List.getD_eq_getElem?_getD, hf, List.getD_eq_getElem?_getD, List.getElem?_eq_getElem hlt] at hmk
        simp only [Option.getD_some, hn, Bool.true_and] at hmk
        rw [List.getElem?_eq_getElem hlt]
        cases hx : st.2[k] with
        | nil => rw [hx] at hmk; cases hmk
        | cons x t => exact ⟨x, t, rfl⟩
theorem rows2 {r : List (List Itm)} (h : r.length = 2) : ∃ a b, r = [a, b] := by
  match r, h with
  | [a, b], _ => exact ⟨a, b, rfl⟩
theorem rows3 {r : List (List Itm)} (h : r.length = 3) : ∃ a b c, r = [a, b, c] := by
  match r, h with
  | [a, b, c], _ => exact ⟨a, b, c, rfl⟩
theorem rows5 {r : List (List Itm)} (h : r.length = 5) : ∃ a b c d e, r = [a, b, c, d, e] := by
  match r, h with
  | [a, b, c, d, e], _ => exact ⟨a, b, c, d, e, rfl⟩
theorem parse_code {l : List Fld} {i : Itm} {c : Int} (h : parseV l i = .error c) : (c == 0) = false := by
  have step : ∀ (kids : List Itm) (st : Nat × List (List Itm)) (c : Int), kids.foldlM (parseStep l) st = .error c → c = 4 ∨ c = 7 := by
    intro kids
    induction kids with
    | nil => intro st c h; cases h
    | cons x r ih =>
      intro st c h
      rw [List.foldlM_cons] at h
      cases hs : parseStep l st x with
      | error e =>
        rw [hs] at h
        obtain rfl : e = c := by injection h
        unfold parseStep at hs
        split at hs
        · left; injection hs with h; exact h.symm
        · split at hs
          · left; injection hs with h; exact h.symm
          · split at hs
            · right; injection hs with h; exact h.symm
            · cases hs
      | ok s1 => rw [hs] at h; exact ih s1 c h
  have h3 : c = 4 ∨ c = 7 ∨ c = 6 := by
    unfold parseV at h
    split at h
    · injection h with h; omega
    · split at h
      · rename_i e he
        injection h with h
        subst h
        rcases step _ _ _ he with h | h <;> simp [h]
      · split at h
        · injection h with h; omega
        · cases h
  rcases h3 with rfl | rfl | rfl <;> rfl
theorem SlR.builtF {w : World} {T : TypeId} {C : Array Value} {L : List Fld} (hC : C.toList = fldCells L) {n : Nat} (hn : L.length = n) (hs : n ≤ 1099511627776) : SlR (w.alloc (.cells C T)) ⟨some ⟨w.heap.size, 0, none⟩, n, n⟩ 4 (fldCells L) :=
  ⟨RdC.new _ _ _ _ _ hC _ (by rw [fld_len, hn]) _ rfl, by simp, hs, by simp [Sl.blk], Nat.le_refl _⟩
def stF (L : List Fld) : St Grow := ⟨fun v w => ∃ s : Sl, v = .slice s.a s.n s.c ∧ SlR w s 4 (fldCells L), fun v w w' h hg => let ⟨s, e, h1⟩ := h; ⟨s, e, h1.below hg⟩⟩
theorem wp_build_flds {P : Program} {o : Oper} {a : Act} {w : World} {K : Act → World → Prop} {Q : Exit → Act → World → Prop} (T E : TypeId) (n : Nat) (ps : Array (Nat × Operand)) (ho : o.op = .buildSlice T n ps) (L : List Fld) (hn : L.length = n) (h0 : 0 < n) (h9 : n ≤ 100)
    (hx : (ps.map fun (i, x) => (i, a.eval x)).toList = (L.zipIdx 0).map fun x => (x.2, Value.agg x.1.arr)) (C : Array Value) (hC : C.toList = fldCells L)
    (i : TypeInfo) (hu : P.underlying T = some (.slice E)) (hi : P.info? E = some i) (hz : i.zero = some (.agg fldZ.arr)) (hs : i.size = 4)
    (hf : Instr.fill (fun i => some (i * 4, 4)) ((Array.range (n * 4)).map (fldZ.arr[· % fldZ.arr.size]!)) ((L.zipIdx 0).map fun x => (x.2, Value.agg x.1.arr)) = some C)
    (h : ∀ s : Sl, SlR (w.alloc (.cells C E)) s 4 (fldCells L) → K (a.put o.dst (.slice s.a s.n s.c)) (w.alloc (.cells C E))) : o.wp P a w K Q := by
  refine wp_buildSlice T E n _ ho C i _ hu hi hz (by rw [hs]; omega) (by rw [hs]; omega) ?_ (h ⟨_, _, _⟩ (SlR.builtF hC hn (by omega)))
  rw [hs, hx]
  exact hf
theorem fInfo : (Tryd.prog.info? 64).map (fun i => (i.zero, i.size, i.bytes)) = some (some (.agg fldZ.arr), 4, 24) := by kernel_rfl
/-- A row of rows: the first item of one that is not empty. -/
theorem Rows2.head {T1 T : TypeId} {w : World} {base low : Nat} {s : Sl} {sls : List Sl} {rv : List (List ItV)} {rows : List (List Itm)} (h : Rows2 T1 T w base low s sls rv) (hr : rv.map (fun l => l.map ItV.it) = rows) (hn : ∀ sl ∈ sls, sl.n ≤ 1099511627776) {k : Nat} {x : Itm} {t : List Itm} (hk : rows[k]? = some (x :: t)) :
    ∃ (sl : Sl) (l : List ItV) (g g2 : Nat) (v : ItV), sl.a = some ⟨g2, 0, none⟩ ∧ l.map ItV.it = x :: t ∧ SlR w sl 5 (itmCells l) ∧ s.a = some ⟨g, 0, none⟩ ∧ w.cell? ⟨g, k, none⟩ = some (.slice sl.a sl.n sl.c) ∧ 1 ≤ sl.n ∧ v.it = x ∧ w.rangeAt g2 0 v.arr.toList ∧ v.ok w ∧ (∀ k ∈ v.foot, low ≤ k) ∧ sl.n = t.length + 1 := by
  obtain ⟨sl, l, g, hs, hl, hm, ho, hsn, hg, hc, hks⟩ := h.at hr hk
  have hsl := ho.sl (hn sl (List.mem_of_getElem? hs))
  have hsn1 : sl.n = t.length + 1 := by rw [hsn]; rfl
  obtain ⟨b, off, v, ha, hv, hrg⟩ := hsl.row (k := 0) (by omega)
  obtain ⟨g2, hg2, _, _⟩ := (own_slice ho.own).2.2 (by omega)
  rw [hg2] at ha
  simp only [Option.some.injEq, Addr.mk.injEq] at ha
  obtain ⟨rfl, rfl, _⟩ := ha
  have hvm := List.mem_of_getElem? hv
  have hvx : v.it = x := by
    have := congrArg (fun l => l[0]?) hm
    simpa [hv] using this
  exact ⟨sl, l, g, g2, v, hg2, hm, hsl, hg, hc, by omega, hvx, by have h := hrg; rw [Nat.zero_mul, Nat.add_zero] at h; exact h, ho.ok v hvm, ho.low v hvm, hsn1⟩
/-- .. of one that may be. -/
theorem Rows2.any {T1 T : TypeId} {w : World} {base low : Nat} {s : Sl} {sls : List Sl} {rv : List (List ItV)} {rows : List (List Itm)} (h : Rows2 T1 T w base low s sls rv) (hr : rv.map (fun l => l.map ItV.it) = rows) (hn : ∀ sl ∈ sls, sl.n ≤ 1099511627776) {k : Nat} {t : List Itm} (hk : rows[k]? = some t) :
    ∃ (sl : Sl) (l : List ItV) (g : Nat), l.map ItV.it = t ∧ SlR w sl 5 (itmCells l) ∧ s.a = some ⟨g, 0, none⟩ ∧ w.cell? ⟨g, k, none⟩ = some (.slice sl.a sl.n sl.c) ∧ sl.n = t.length ∧ (∀ v ∈ l, v.ok w ∧ ∀ k ∈ v.foot, low ≤ k) := by
  obtain ⟨sl, l, g, hs, hl, hm, ho, hsn, hg, hc, hks⟩ := h.at hr hk
  exact ⟨sl, l, g, hm, ho.sl (hn sl (List.mem_of_getElem? hs)), hg, hc, hsn, fun v hv => ⟨ho.ok v hv, ho.low v hv⟩⟩
theorem Rows2.lower {T1 T : TypeId} {w : World} {base low base' low' : Nat} {s : Sl} {sls : List Sl} {rv : List (List ItV)} (h : Rows2 T1 T w base low s sls rv) (hb : base' ≤ base) (hl : low' ≤ low) : Rows2 T1 T w base' low' s sls rv :=
  ⟨ownsRow_base h.own (fun k hk => by have := (h.own.lt k hk).1; omega), h.len,
   fun k sl l hs hl' => let o := h.each k sl l hs hl'; ⟨ownsRow_base o.own (fun k hk => by have := (o.own.lt k hk).1; omega), o.ok, o.apart, fun x hx k hk => Nat.le_trans hl (o.low x hx k hk)⟩, h.apart, h.cross, h.outer⟩
/-- Rows that stand: what they read as. -/
def RowsOk (T1 T : TypeId) (base low : Nat) (rows : List (List Itm)) (so : Sl) (w : World) : Prop :=
  ∃ (sls : List Sl) (rv : List (List ItV)), Rows2 T1 T w base low so sls rv ∧ rv.map (fun l => l.map ItV.it) = rows ∧ ∀ sl ∈ sls, sl.n ≤ 1099511627776
theorem RowsOk.below {T1 T : TypeId} {base low : Nat} {rows : List (List Itm)} {so : Sl} {w w' : World} (h : RowsOk T1 T base low rows so w) (hb : Below w.heap.size w w') : RowsOk T1 T base low rows so w' :=
  let ⟨sls, rv, h1, h2, h3⟩ := h; ⟨sls, rv, h1.below hb, h2, h3⟩
def stRows (T1 T : TypeId) (base low : Nat) (rows : List (List Itm)) : St Grow := ⟨fun v w => ∃ so : Sl, v = .slice so.a so.n so.c ∧ RowsOk T1 T base low rows so w, fun v w w' h hg => let ⟨so, e, h1⟩ := h; ⟨so, e, h1.below hg⟩⟩
def stRowsT (T1 T : TypeId) (base low : Nat) (rows : List (List Itm)) : St Grow := ⟨fun v w => ∃ so : Sl, v = .tuple #[.slice so.a so.n so.c, .int .i64 0] ∧ RowsOk T1 T base low rows so w, fun v w w' h hg => let ⟨so, e, h1⟩ := h; ⟨so, e, h1.below hg⟩⟩
theorem parsed_err {T1 T : TypeId} {r : Except Int (List (List Itm))} {w : World} {e : Ending} {w' : World} {c : Int} (h : Parsed T1 T r w e w') (hr : r = .error c) : e = .returned (.tuple #[.slice none 0 0, .int .i64 c]) ∧ Below w.heap.size w w' := by
  subst hr; exact h
theorem parsed_ok {T1 T : TypeId} {r : Except Int (List (List Itm))} {w : World} {e : Ending} {w' : World} {rows : List (List Itm)} {z : Nat} (h : Parsed T1 T r w e w') (hr : r = .ok rows) (hz : z ≤ w.heap.size) :
    ∃ so : Sl, e = .returned (.tuple #[.slice so.a so.n so.c, .int .i64 0]) ∧ RowsOk T1 T z z rows so w' ∧ Below w.heap.size w w' := by
  subst hr
  obtain ⟨so, sls, rv, he, h1, h2, h3, h4⟩ := h
  exact ⟨so, he, ⟨sls, rv, h1.lower hz hz, h2, h3⟩, h4⟩
theorem parsedR_err {F : Nat → Prop} {T1 T : TypeId} {r : Except Int (List (List Itm))} {w : World} {e : Ending} {w' : World} {c : Int} (h : ParsedR F T1 T r w e w') (hr : r = .error c) : e = .returned (.tuple #[.slice none 0 0, .int .i64 c]) ∧ Below w.heap.size w w' := by
  subst hr; exact h
/-- Rows whose items are shared: the blocks that they reach were there. -/
def RowsOkR (F : Nat → Prop) (T1 T : TypeId) (base : Nat) (rows : List (List Itm)) (so : Sl) (w : World) : Prop :=
  ∃ (sls : List Sl) (rv : List (List ItV)), Rows2 T1 T w base 0 so sls rv ∧ rv.map (fun l => l.map ItV.it) = rows ∧ (∀ sl ∈ sls, sl.n ≤ 1099511627776) ∧ ∀ lr ∈ rv, ∀ x ∈ lr, ∀ k ∈ x.foot, F k
theorem RowsOkR.below {F : Nat → Prop} {T1 T : TypeId} {base : Nat} {rows : List (List Itm)} {so : Sl} {w w' : World} (h : RowsOkR F T1 T base rows so w) (hb : Below w.heap.size w w') : RowsOkR F T1 T base rows so w' :=
  let ⟨sls, rv, h1, h2, h3, h4⟩ := h; ⟨sls, rv, h1.below hb, h2, h3, h4⟩
def stRowsR (F : Nat → Prop) (T1 T : TypeId) (base : Nat) (rows : List (List Itm)) : St Grow := ⟨fun v w => ∃ so : Sl, v = .slice so.a so.n so.c ∧ RowsOkR F T1 T base rows so w, fun v w w' h hg => let ⟨so, e, h1⟩ := h; ⟨so, e, h1.below hg⟩⟩
def stRowsTR (F : Nat → Prop) (T1 T : TypeId) (base : Nat) (rows : List (List Itm)) : St Grow := ⟨fun v w => ∃ so : Sl, v = .tuple #[.slice so.a so.n so.c, .int .i64 0] ∧ RowsOkR F T1 T base rows so w, fun v w w' h hg => let ⟨so, e, h1⟩ := h; ⟨so, e, h1.below hg⟩⟩
theorem parsedR_ok {F : Nat → Prop} {T1 T : TypeId} {r : Except Int (List (List Itm))} {w : World} {e : Ending} {w' : World} {rows : List (List Itm)} {z : Nat} (h : ParsedR F T1 T r w e w') (hr : r = .ok rows) (hz : z ≤ w.heap.size) :
    ∃ so : Sl, e = .returned (.tuple #[.slice so.a so.n so.c, .int .i64 0]) ∧ RowsOkR F T1 T z rows so w' ∧ Below w.heap.size w w' := by
  subst hr
  obtain ⟨so, sls, rv, he, h1, h2, h3, h4, h5⟩ := h
  exact ⟨so, he, ⟨sls, rv, h1.lower hz (Nat.le_refl _), h2, h3, h5⟩, h4⟩
theorem RowsOkR.ok {F : Nat → Prop} {T1 T : TypeId} {base : Nat} {rows : List (List Itm)} {so : Sl} {w : World} (h : RowsOkR F T1 T base rows so w) : RowsOk T1 T base 0 rows so w :=
  let ⟨sls, rv, h1, h2, h3, _⟩ := h; ⟨sls, rv, h1, h2, h3⟩
theorem RowsOk.shape {T1 T : TypeId} {base low : Nat} {rows : List (List Itm)} {so : Sl} {w : World} (h : RowsOk T1 T base low rows so w) (h0 : 0 < rows.length) : ∃ g c, so = ⟨some ⟨g, 0, none⟩, rows.length, c⟩ := by
  obtain ⟨sls, rv, h1, h2, h3⟩ := h
  have hn := h1.rlen h2
  obtain ⟨g, hg, _, _⟩ := (own_slice h1.own).2.2 (by omega)
  obtain ⟨a, n, c⟩ := so
  simp only at hg hn
  subst hg; subst hn
  exact ⟨g, c, rfl⟩
theorem RowsOk.hd {T1 T : TypeId} {base low g n c : Nat} {rows : List (List Itm)} {w : World} (h : RowsOk T1 T base low rows ⟨some ⟨g, 0, none⟩, n, c⟩ w) {k : Nat} {x : Itm} {t : List Itm} (hk : rows[k]? = some (x :: t)) :
    ∃ (sl : Sl) (l : List ItV) (g2 : Nat) (v : ItV), l.map ItV.it = x :: t ∧ SlR w sl 5 (itmCells l) ∧ w.cell? ⟨g, k, none⟩ = some (.slice sl.a sl.n sl.c) ∧ sl.a = some ⟨g2, 0, none⟩ ∧ 0 < sl.n ∧ v.it = x ∧ w.rangeAt g2 0 v.arr.toList ∧ v.ok w ∧ (∀ k ∈ v.foot, low ≤ k) := by
  obtain ⟨sls, rv, h1, h2, h3⟩ := h
  obtain ⟨sl, l, g', g2, v, ha, hm, hs, hg, hc, hn, hv, hr, ho, hf, _⟩ := h1.head h2 h3 hk
  simp only [Option.some.injEq, Addr.mk.injEq, and_true] at hg
  subst hg
  exact ⟨sl, l, g2, v, hm, hs, hc, ha, hn, hv, hr, ho, hf⟩
theorem RowsOk.an {T1 T : TypeId} {base low g n c : Nat} {rows : List (List Itm)} {w : World} (h : RowsOk T1 T base low rows ⟨some ⟨g, 0, none⟩, n, c⟩ w) {k : Nat} {t : List Itm} (hk : rows[k]? = some t) :
    ∃ (sl : Sl) (l : List ItV), l.map ItV.it = t ∧ SlR w sl 5 (itmCells l) ∧ w.cell? ⟨g, k, none⟩ = some (.slice sl.a sl.n sl.c) ∧ sl.n = t.length ∧ (∀ v ∈ l, v.ok w ∧ ∀ k ∈ v.foot, low ≤ k) := by
  obtain ⟨sls, rv, h1, h2, h3⟩ := h
  obtain ⟨sl, l, g', hm, hs, hg, hc, hn, ha⟩ := h1.any h2 h3 hk
  simp only [Option.some.injEq, Addr.mk.injEq, and_true] at hg
  subst hg
  exact ⟨sl, l, hm, hs, hc, hn, ha⟩
theorem RowsOkR.an {F : Nat → Prop} {T1 T : TypeId} {base g n c : Nat} {rows : List (List Itm)} {w : World} (h : RowsOkR F T1 T base rows ⟨some ⟨g, 0, none⟩, n, c⟩ w) {k : Nat} {t : List Itm} (hk : rows[k]? = some t) :
    ∃ (sl : Sl) (l : List ItV), l.map ItV.it = t ∧ SlR w sl 5 (itmCells l) ∧ w.cell? ⟨g, k, none⟩ = some (.slice sl.a sl.n sl.c) ∧ sl.n = t.length ∧ (∀ v ∈ l, v.ok w ∧ ∀ k ∈ v.foot, F k) := by
  obtain ⟨sls, rv, h1, h2, h3, h4⟩ := h
  obtain ⟨sl, l, g', hs, hl, hm, ho, hn, hg, hc, -⟩ := h1.at h2 hk
  simp only [Option.some.injEq, Addr.mk.injEq, and_true] at hg
  subst hg
  exact ⟨sl, l, hm, ho.sl (h3 sl (List.mem_of_getElem? hs)), hc, hn, fun v hv => ⟨ho.ok v hv, h4 l (List.mem_of_getElem? hl) v hv⟩⟩
theorem RowsOkR.hd {F : Nat → Prop} {T1 T : TypeId} {base g n c : Nat} {rows : List (List Itm)} {w : World} (h : RowsOkR F T1 T base rows ⟨some ⟨g, 0, none⟩, n, c⟩ w) {k : Nat} {x : Itm} {t : List Itm} (hk : rows[k]? = some (x :: t)) :
    ∃ (sl : Sl) (l : List ItV) (b off : Nat) (v : ItV), l.map ItV.it = x :: t ∧ SlR w sl 5 (itmCells l) ∧ w.cell? ⟨g, k, none⟩ = some (.slice sl.a sl.n sl.c) ∧ sl.a = some ⟨b, off, none⟩ ∧ 0 < sl.n ∧ v.it = x ∧ w.rangeAt b off v.arr.toList ∧ v.ok w ∧ (∀ k ∈ v.foot, F k) := by
  obtain ⟨sl, l, hm, hs, hc, hn, ha⟩ := h.an hk
  have hsn : 0 < sl.n := by rw [hn]; simp
  obtain ⟨b, off, v, hab, hv, hr⟩ := hs.row (k := 0) hsn
  have hvx : v.it = x := by
    have := congrArg (fun l => l[0]?) hm
    simpa [hv] using this
  obtain ⟨h1, h2⟩ := ha v (List.mem_of_getElem? hv)
  exact ⟨sl, l, b, off, v, hm, hs, hc, hab, hsn, hvx, by have h := hr; rw [Nat.zero_mul, Nat.add_zero] at h; exact h, h1, h2⟩
end Go.Proofs.YteenglgnakenmaaDoor
