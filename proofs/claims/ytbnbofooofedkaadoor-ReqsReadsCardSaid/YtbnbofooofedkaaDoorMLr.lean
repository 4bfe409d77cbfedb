/- An item in its block whose kids stand in a row of the call's own, while it is altered. locksmithlaw16.item. ReqsReads: the walk. -/
import Derived.Test.YtbnbofooofedkaaDoorMa
import Derived.Test.YtbnbofooofedkaaDoorMReq
import Derived.Test.YtbnbofooofedkaaDoorReq8
import Derived.Deep.DeepCutAuto
import Derived.Deep.CutBlock
import Derived.Test.YtbnbofooofedkaaDoorMRr
import Derived.Test.YtbnbofooofedkaaDoorReq9
import Derived.Test.YtbnbofooofedkaaDoorHItem2
import Derived.Test.YtbnbofooofedkaaDoorMRef
namespace Go.Proofs.YtbnbofooofedkaaDoor
section
open Go.RowKit
set_option linter.unusedVariables false
set_option linter.unusedSimpArgs false
set_option maxRecDepth 100000
theorem itm_setk (l : List ItV) (k : Nat) (y x : ItV) (hx : l[k]? = some x) (j : Nat) (u : Value) (hj : j < 5) (hy : y.cells = x.cells.set j u) : itmCells (l.set k y) = (itmCells l).set (k * 5 + j) u := by
 induction l generalizing k with
 | nil => simp at hx
 | cons v r ih =>
  have hlen : ∀ z : ItV, z.cells.length = 5 := fun z => rfl
  cases k with
  | zero =>
   simp only [List.getElem?_cons_zero, Option.some.injEq] at hx
   subst hx
   simp only [List.set_cons_zero, itmCells, List.flatMap_cons, Nat.zero_mul, Nat.zero_add, hy]
   rw [List.set_append_left _ _ (by rw [hlen]; exact hj)]
  | succ k =>
   simp only [List.getElem?_cons_succ] at hx
   have := ih k hx
   simp only [List.set_cons_succ, itmCells, List.flatMap_cons]
   unfold itmCells at this
   rw [this, List.set_append_right _ _ (by rw [hlen]; omega), hlen]
   congr 2; omega
/-- A: the blocks that may be altered; P: the items' own blocks; r: a block that none reaches. -/
structure Ob (T : TypeId) (W : World) (p z r : Nat) (P : List Nat) (A : Nat → Prop) (v : ItV) : Prop where
 blk : W.heap[p]? = some (.cells v.arr T (0, 0))
 own : W.ownsRow z T 5 (.slice v.ks.a v.ks.n v.ks.c) v.ks.n (itmCells v.kids)
 al : ∀ k, v.ks.v.ownBlock = some k → A k ∧ k ∉ P
 ds : SlC W v.ds (v.data.map B8)
 da : ∀ k ∈ v.ds.blk, ¬ A k
 dr : v.ds.n ≠ 0 → r ∉ v.ds.blk
 kids : ∀ x ∈ v.kids, x.ok W ∧ (∀ k ∈ x.foot, ¬ A k) ∧ r ∉ x.footN
/-- In a region: a row of items; one of the call's own. -/
def stItV (vs : List ItV) : St Grow := ⟨fun v w => ∃ s : Sl, v = .slice s.a s.n s.c ∧ s.n = vs.length ∧ SlR w s 5 (itmCells vs), fun v w w' h hg => let ⟨s, e, h1, h2⟩ := h; ⟨s, e, h1, h2.below hg⟩⟩
def stRowO (T : TypeId) (vs : List ItV) (z : Nat) : St Grow := ⟨fun v w => ∃ s : Sl, v = .slice s.a s.n s.c ∧ s.n = vs.length ∧ w.ownsRow z T 5 (.slice s.a s.n s.c) s.n (itmCells vs), fun v w w' h hg => let ⟨s, e, h1, h2⟩ := h; ⟨s, e, h1, (Chg.of_below hg []).owns h2 (fun k _ hm => by cases hm)⟩⟩
theorem wp_build_own {P : Program} {o : Oper} {a : Act} {w : World} {K : Act → World → Prop} {Q : Exit → Act → World → Prop} (T E : TypeId) (n : Nat) (ps : Array (Nat × Operand)) (ho : o.op = .buildSlice T n ps) (vs : List ItV) (hn : vs.length = n) (h0 : 0 < n) (h9 : n ≤ 100)
  (hx : (ps.map fun (i, x) => (i, a.eval x)).toList = (vs.zipIdx 0).map fun x => (x.2, Value.agg x.1.arr)) (C : Array Value) (hC : C.toList = itmCells vs)
  (i : TypeInfo) (hu : P.underlying T = some (.slice E)) (hi : P.info? E = some i) (hz : i.zero = some (.agg itZ.arr)) (hs : i.size = 5)
  (hf : Instr.fill (fun i => some (i * 5, 5)) ((Array.range (n * 5)).map (itZ.arr[· % itZ.arr.size]!)) ((vs.zipIdx 0).map fun x => (x.2, Value.agg x.1.arr)) = some C) (base : Nat) (hb : base ≤ w.heap.size)
  (h : (w.alloc (.cells C E)).ownsRow base E 5 (.slice (some ⟨w.heap.size, 0, none⟩) n n) n (itmCells vs) → K (a.put o.dst (.slice (some ⟨w.heap.size, 0, none⟩) n n)) (w.alloc (.cells C E))) : o.wp P a w K Q := by
 have h1 := own_built (w := w) (T := E) (base := base) (size := 5) (n := n) (C := C) hb (by rw [← Array.length_toList, hC, itm_len, hn]) (by unfold maxLen; omega)
 rw [hC] at h1
 refine wp_buildSlice T E n _ ho C i _ hu hi hz (by rw [hs]; omega) (by rw [hs]; omega) ?_ (h h1)
 rw [hs, hx]
 exact hf
section
variable {T : TypeId} {W W' w8 : World} {p z r : Nat} {P G : List Nat} {A : Nat → Prop} {v : ItV}
theorem Ob.keep (h : Ob T W p z r P A v) (hc : Chg G W W') (hA : ∀ k ∈ G, A k) (hp : p ∉ G) (hg : ∀ k, v.ks.v.ownBlock = some k → k ∉ G) : Ob T W' p z r P A v :=
 ⟨(hc.block p (block_lt h.blk) hp).trans h.blk, hc.owns h.own hg, h.al, h.ds.keep hc (fun k hk hm => h.da k hk (hA k hm)), h.da, h.dr,
  fun x hx => ⟨ItV.ok.keep hc (h.kids x hx).1 (fun k hk hm => (h.kids x hx).2.1 k hk (hA k hm)), (h.kids x hx).2⟩⟩
theorem Ob.below (h : Ob T W p z r P A v) (hb : Below W.heap.size W W') : Ob T W' p z r P A v :=
 h.keep (Chg.of_below hb []) (fun k hk => by cases hk) (by simp) (fun k _ hm => by cases hm)
theorem Ob.ok (h : Ob T W p z r P A v) (hn : v.ks.n ≤ 1099511627776) : v.ok W := ItV.ok_iff.2 ⟨h.ds, SlR.of_own (s := v.ks) h.own hn, fun x hx => (h.kids x hx).1⟩
theorem own_at {base size n c : Nat} {e : TypeId} {a : Option Addr} {xs : List Value} (h : W.ownsRow base e size (.slice a n c) n xs) {k : Nat} (hk : k ∈ Sl.blk ⟨a, n, c⟩) : (Value.slice a n c).ownBlock = some k := by
 rcases h.2 with ⟨hv, h0⟩ | ⟨g, cap, cur, hv, _⟩
 ·simp only [Value.slice.injEq] at hv; simp [Sl.blk, hv.1] at hk
 ·simp only [Value.slice.injEq] at hv
  simp [Sl.blk, hv.1] at hk
  rw [hv.1, hk]; rfl
theorem Ob.feet (h : Ob T W p z r P A v) {k : Nat} (hk : k ∈ v.foot) : ¬ A k ∨ (A k ∧ k ∉ P) := by
 rcases ItV.mem_foot.1 hk with h1 | h1 | ⟨x, hx, h1⟩
 ·exact .inl (h.da k h1)
 ·exact .inr (h.al k (own_at h.own h1))
 ·exact .inl ((h.kids x hx).2.1 k h1)
theorem Ob.res (h : Ob T W p z r P A v) (hr : ¬ A r) : r ∉ v.footN := fun hm => by
 rcases ItV.mem_footN.1 hm with ⟨h0, h1⟩ | ⟨h0, h1⟩ | ⟨x, hx, h1⟩
 ·exact h.dr h0 h1
 ·exact hr (h.al r (own_at h.own h1)).1
 ·exact (h.kids x hx).2.2 h1
/-- One cell of one kid. -/
theorem Ob.setKid (h : Ob T W p z r P A v) {g : Nat} (ha : v.ks.a = some ⟨g, 0, none⟩) {k j : Nat} {x y : ItV} {u : Value} (hp : p ∈ P) (hx : v.kids[k]? = some x) (hj : j < 5) (hy : y.cells = x.cells.set j u) (hok : ∀ w, x.ok w → y.ok w)
  (hf : ∀ k ∈ y.foot, k ∈ x.foot) (hn : r ∈ y.footN → r ∈ x.footN) : Ob T (W.setCell ⟨g, k * 5 + j, none⟩ u) p z r P A { v with kids := v.kids.set k y } ∧ Chg [g] W (W.setCell ⟨g, k * 5 + j, none⟩ u) ∧ A g ∧ g ∉ P := by
 have hgo : v.ks.v.ownBlock = some g := by rw [show v.ks.v = Value.slice v.ks.a v.ks.n v.ks.c from rfl, ha]; rfl
 have hag := h.al g hgo
 have hc : Chg [g] W (W.setCell ⟨g, k * 5 + j, none⟩ u) := (Chg.refl [g] W).setCell (.inl (by simp)) _
 have hst := h.own
 rw [ha] at hst
 have hst := (hst.stored (k * 5 + j) u).1
 rw [← itm_setk v.kids k y x hx j u hj hy] at hst
 have hkk : ∀ x ∈ v.kids, x.ok (W.setCell ⟨g, k * 5 + j, none⟩ u) := fun x hx => ItV.ok.keep hc (h.kids x hx).1 (fun q hq hm => (h.kids x hx).2.1 q hq (by rw [List.mem_singleton.1 hm]; exact hag.1))
 refine ⟨⟨(hc.block p (block_lt h.blk) (fun hm => hag.2 (by rw [← List.mem_singleton.1 hm]; exact hp))).trans h.blk, by simpa [ha] using hst, h.al, h.ds.keep hc (fun q hq hm => h.da q hq (by rw [List.mem_singleton.1 hm]; exact hag.1)), h.da, h.dr, fun x' hx' => ?_⟩, hc, hag⟩
 rcases List.mem_or_eq_of_mem_set hx' with h' | rfl
 ·exact ⟨hkk x' h', (h.kids x' h').2⟩
 ·have hm := List.mem_of_getElem? hx
  exact ⟨hok _ (hkk x hm), fun q hq => (h.kids x hm).2.1 q (hf q hq), fun hq => (h.kids x hm).2.2 (hn hq)⟩
/-- The row has been appended to (behind the first m), the slice is laid back. -/
theorem Ob.pushed (h : Ob T W p z r P A v) {m : Nat} {ys : List ItV} {a : Option Addr} {n c : Nat} (ho : w8.ownsRow z T 5 (.slice a n c) n (itmCells (v.kids.take m ++ ys))) (hg : W.grownBy w8 v.ks.v.ownBlock)
  (hf : (Value.slice a n c).ownBlock = v.ks.v.ownBlock ∨ ∀ k, (Value.slice a n c).ownBlock = some k → W.heap.size ≤ k) (hnew : ∀ k, W.heap.size ≤ k → A k) (hP : ∀ q ∈ P, q < W.heap.size) (hp : p ∈ P) (hAP : ∀ q ∈ P, A q) (hys : ∀ y ∈ ys, y.ok W ∧ (∀ k ∈ y.foot, ¬ A k) ∧ r ∉ y.footN) :
  w8.heap[p]? = some (.cells v.arr T (0, 0)) ∧ Ob T (w8.setCell ⟨p, 4, none⟩ (.slice a n c)) p z r P A { v with ks := ⟨a, n, c⟩, kids := v.kids.take m ++ ys } ∧ Chg (p :: v.ks.v.ownBlock.toList) W (w8.setCell ⟨p, 4, none⟩ (.slice a n c)) := by
 have hmem : ∀ k, k ∈ v.ks.v.ownBlock.toList → v.ks.v.ownBlock = some k := fun k hk => by
  cases hv : v.ks.v.ownBlock with
  | none => rw [hv] at hk; cases hk
  | some y => rw [hv] at hk; simp at hk; rw [hk]
 have hc : Chg v.ks.v.ownBlock.toList W w8 := (Chg.refl _ W).grown hg (fun k hk => .inl (by rw [hk]; simp))
 have hpb : w8.heap[p]? = some (.cells v.arr T (0, 0)) := (hc.block p (block_lt h.blk) (fun hm => (h.al p (hmem p hm)).2 hp)).trans h.blk
 have hcc : Chg (p :: v.ks.v.ownBlock.toList) W (w8.setCell ⟨p, 4, none⟩ (.slice a n c)) := ((Chg.refl (p :: v.ks.v.ownBlock.toList) W).grown hg (fun k hk => .inl (by rw [hk]; simp))).setCell (.inl (by simp)) _
 have hcb : Chg [p] w8 (w8.setCell ⟨p, 4, none⟩ (.slice a n c)) := (Chg.refl [p] w8).setCell (.inl (by simp)) _
 have hAl : ∀ k ∈ p :: v.ks.v.ownBlock.toList, A k := fun k hk => by
  rcases List.mem_cons.1 hk with rfl | hk
  ·exact hAP _ hp
  ·exact (h.al k (hmem k hk)).1
 have hal : ∀ k, (Value.slice a n c).ownBlock = some k → A k ∧ k ∉ P := fun k hk => by
  rcases hf with h' | h'
  ·rw [h'] at hk; exact h.al k hk
  ·exact ⟨hnew k (h' k hk), fun hm => by have h1 := hP k hm; have h2 := h' k hk; omega⟩
 refine ⟨hpb, ⟨block_setCell hpb _, hcb.owns ho (fun k hk hm => (hal k hk).2 (by rw [List.mem_singleton.1 hm]; exact hp)), hal, h.ds.keep hcc (fun k hk hm => h.da k hk (hAl k hm)), h.da, h.dr, fun x hx => ?_⟩, hcc⟩
 have hx2 : x.ok W ∧ (∀ k ∈ x.foot, ¬ A k) ∧ r ∉ x.footN := by
  rcases List.mem_append.1 hx with h' | h'
  ·exact h.kids x (List.mem_of_mem_take h')
  ·exact hys x h'
 exact ⟨ItV.ok.keep hcc hx2.1 (fun k hk hm => hx2.2.1 k hk (hAl k hm)), hx2.2⟩
/-- The tag. -/
theorem Ob.setTag (h : Ob T W p z r P A v) (hp : p ∈ P) (hA : A p) (t : Int) : Ob T (W.setCell ⟨p, 0, none⟩ (.int .i64 t)) p z r P A { v with tag := t } ∧ Chg [p] W (W.setCell ⟨p, 0, none⟩ (.int .i64 t)) := by
 have hc : Chg [p] W (W.setCell ⟨p, 0, none⟩ (.int .i64 t)) := (Chg.refl [p] W).setCell (.inl (by simp)) _
 have hAl : ∀ k ∈ [p], A k := fun k hk => by rw [List.mem_singleton.1 hk]; exact hA
 exact ⟨⟨block_setCell h.blk _, hc.owns h.own (fun k hk hm => (h.al k hk).2 (by rw [List.mem_singleton.1 hm]; exact hp)), h.al, h.ds.keep hc (fun k hk hm => h.da k hk (hAl k hm)), h.da, h.dr, fun x hx => ⟨ItV.ok.keep hc (h.kids x hx).1 (fun k hk hm => (h.kids x hx).2.1 k hk (hAl k hm)), (h.kids x hx).2⟩⟩, hc⟩
theorem Ob.more (h : Ob T W p z r P A v) {P' : List Nat} (h' : ∀ k, v.ks.v.ownBlock = some k → k ∉ P') : Ob T W p z r P' A v := ⟨h.blk, h.own, fun k hk => ⟨(h.al k hk).1, h' k hk⟩, h.ds, h.da, h.dr, h.kids⟩
/-- An item in its block gets a copy of its row. -/
theorem Ob.copied {T0 : TypeId} {k0 : ItV} {a : Option Addr} {n c : Nat} (hb : W.heap[p]? = some (.cells k0.arr T (0, 0))) (hk : k0.ok W ∧ (∀ k ∈ k0.foot, ¬ A k) ∧ r ∉ k0.footN) (ho : w8.ownsRow z T 5 (.slice a n c) n (itmCells k0.kids)) (hg : (W.alloc (.cells #[] T0)).grownBy w8 (some W.heap.size))
  (hf : (Value.slice a n c).ownBlock = some W.heap.size ∨ ∀ k, (Value.slice a n c).ownBlock = some k → W.heap.size + 1 ≤ k) (hnew : ∀ k, W.heap.size ≤ k → A k) (hP : ∀ q ∈ P, q < W.heap.size) (hp : p ∈ P) (hAP : ∀ q ∈ P, A q) :
  w8.heap[p]? = some (.cells k0.arr T (0, 0)) ∧ Ob T (w8.setCell ⟨p, 4, none⟩ (.slice a n c)) p z r P A { k0 with ks := ⟨a, n, c⟩ } ∧ Chg [p, W.heap.size] W (w8.setCell ⟨p, 4, none⟩ (.slice a n c)) ∧ ∀ k, (Value.slice a n c).ownBlock = some k → W.heap.size ≤ k := by
 have hpl := hP p hp
 have hc : Chg [W.heap.size] W w8 := ((Chg.refl _ W).alloc _).grown hg (fun k hk => .inl (by simp at hk; simp [hk]))
 have hpb : w8.heap[p]? = some (.cells k0.arr T (0, 0)) := (hc.block p hpl (by simp; omega)).trans hb
 have hcc : Chg [p, W.heap.size] W (w8.setCell ⟨p, 4, none⟩ (.slice a n c)) := (((Chg.refl _ W).alloc _).grown hg (fun k hk => .inl (by simp at hk; simp [hk]))).setCell (.inl (by simp)) _
 have hcb : Chg [p] w8 (w8.setCell ⟨p, 4, none⟩ (.slice a n c)) := (Chg.refl [p] w8).setCell (.inl (by simp)) _
 have hlo : ∀ k, (Value.slice a n c).ownBlock = some k → W.heap.size ≤ k := fun k hk => by
  rcases hf with h' | h'
  ·rw [h'] at hk; simp at hk; omega
  ·have := h' k hk; omega
 have hAl : ∀ k ∈ [p, W.heap.size], A k := fun k hk => by
  simp only [List.mem_cons, List.not_mem_nil, or_false] at hk
  rcases hk with rfl | rfl
  ·exact hAP _ hp
  ·exact hnew _ (Nat.le_refl _)
 obtain ⟨k1, k2, k3⟩ := ItV.ok_iff.1 hk.1
 refine ⟨hpb, ⟨block_setCell hpb _, hcb.owns ho (fun k hk hm => by have h1 := hlo k hk; have h2 := List.mem_singleton.1 hm; omega), fun k hk => ⟨hnew k (hlo k hk), fun hm => by have h1 := hP k hm; have h2 := hlo k hk; omega⟩,
  k1.keep hcc (fun k hk' hm => hk.2.1 k (ItV.mem_foot.2 (.inl hk')) (hAl k hm)), fun k hk' => hk.2.1 k (ItV.mem_foot.2 (.inl hk')), fun h0 hm => hk.2.2 (ItV.mem_footN.2 (.inl ⟨h0, hm⟩)), fun x hx => ⟨ItV.ok.keep hcc (k3 x hx) (fun k hk' hm => hk.2.1 k (ItV.mem_foot.2 (.inr (.inr ⟨x, hx, hk'⟩))) (hAl k hm)), fun k hk' => hk.2.1 k (ItV.mem_foot.2 (.inr (.inr ⟨x, hx, hk'⟩))), fun hm => hk.2.2 (ItV.mem_footN.2 (.inr (.inr ⟨x, hx, hm⟩)))⟩⟩, hcc, hlo⟩
/-- Two items of their own blocks stand ahead of what was behind the first two kids. -/
theorem Ob.joined {vi vh vb : ItV} {pi ph pb zi zh zb zc n c : Nat} {a : Option Addr} (hi : Ob T W pi zi r P A vi) (hh : Ob T W ph zh r P A vh) (hb : Ob T W pb zb r P A vb) (ho : W.ownsRow zc T 5 (.slice a n c) n (itmCells ([vh, vb] ++ vi.kids.drop 2)))
  (hzc : pi < zc) (hr : r < zc) (hn : n ≤ 2000) (hnh : vh.ks.n ≤ 1000) (hnb : vb.ks.n ≤ 1000) (hp : pi ∈ P) (hA : A pi) (hAr : ¬ A r) :
  (W.setCell ⟨pi, 4, none⟩ (.slice a n c)).heap[pi]? = some (.cells (ItV.arr { vi with ks := ⟨a, n, c⟩, kids := [vh, vb] ++ vi.kids.drop 2 }) T (0, 0)) ∧ ItV.ok (W.setCell ⟨pi, 4, none⟩ (.slice a n c)) { vi with ks := ⟨a, n, c⟩, kids := [vh, vb] ++ vi.kids.drop 2 } ∧
   r ∉ ItV.footN { vi with ks := ⟨a, n, c⟩, kids := [vh, vb] ++ vi.kids.drop 2 } ∧ Chg [pi] W (W.setCell ⟨pi, 4, none⟩ (.slice a n c)) := by
 have hcb : Chg [pi] W (W.setCell ⟨pi, 4, none⟩ (.slice a n c)) := (Chg.refl [pi] W).setCell (.inl (by simp)) _
 have hlo : ∀ k, (Value.slice a n c).ownBlock = some k → zc ≤ k := fun k hk => (ho.lt k hk).1
 have hkk : ∀ x ∈ [vh, vb] ++ vi.kids.drop 2, x.ok (W.setCell ⟨pi, 4, none⟩ (.slice a n c)) ∧ r ∉ x.footN := fun x hx => by
  rcases List.mem_append.1 hx with h | h
  ·simp only [List.mem_cons, List.not_mem_nil, or_false] at h
   rcases h with rfl | rfl
   ·exact ⟨ItV.ok.keep hcb (hh.ok (by omega)) (fun k hk hm => by
     rw [List.mem_singleton.1 hm] at hk
     rcases hh.feet hk with h | h
     ·exact h hA
     ·exact h.2 hp), hh.res hAr⟩
   ·exact ⟨ItV.ok.keep hcb (hb.ok (by omega)) (fun k hk hm => by
     rw [List.mem_singleton.1 hm] at hk
     rcases hb.feet hk with h | h
     ·exact h hA
     ·exact h.2 hp), hb.res hAr⟩
  ·have hm := List.mem_of_mem_drop h
   exact ⟨ItV.ok.keep hcb (hi.kids x hm).1 (fun k hk hm' => (hi.kids x hm).2.1 k hk (by rw [List.mem_singleton.1 hm']; exact hA)), (hi.kids x hm).2.2⟩
 refine ⟨block_setCell hi.blk _, ItV.ok_iff.2 ⟨hi.ds.keep hcb (fun k hk hm => hi.da k hk (by rw [List.mem_singleton.1 hm]; exact hA)), SlR.of_own (s := ⟨a, n, c⟩) (hcb.owns ho (fun k hk hm => by have h1 := hlo k hk; have h2 := List.mem_singleton.1 hm; omega)) (by simp only; omega), fun x hx => (hkk x hx).1⟩, fun hm => ?_, hcb⟩
 rcases ItV.mem_footN.1 hm with ⟨h0, h1⟩ | ⟨h0, h1⟩ | ⟨x, hx, h1⟩
 ·exact hi.dr h0 h1
 ·have := hlo r (own_at ho h1); omega
 ·exact (hkk x hx).2 h1
/-- What stands behind the first k of a row. -/
theorem rdC_drop {w : World} {a : Option Addr} {n c k : Nat} {xs : List Value} (h : RdC w a (n * 5) xs) (hnc : n ≤ c) (hk : k ≤ n) : RdC w (if c = k then a else a.map (·.add (k * 5))) ((n - k) * 5) (xs.drop (k * 5)) :=
 ⟨by rw [List.length_drop, h.len]; omega, fun j hj => by
  have hc1 : c ≠ k := by omega
  obtain ⟨b, off, ha, hc⟩ := h.cell 0 (by omega)
  refine ⟨b, off + k * 5, ?_, fun i u hu => ?_⟩
  ·rw [if_neg hc1, ha]; simp [Addr.add]
  ·rw [List.getElem?_drop] at hu
   have := hc (k * 5 + i) u hu
   rwa [← Nat.add_assoc] at this⟩
theorem itm_drop (l : List ItV) (k : Nat) : (itmCells l).drop (k * 5) = itmCells (l.drop k) := by
 induction l generalizing k with
 | nil => simp [itmCells]
 | cons x r ih =>
  cases k with
  | zero => simp
  | succ k =>
   rw [show itmCells (x :: r) = x.cells ++ itmCells r from rfl, List.drop_succ_cons, ← ih k, Nat.succ_mul, Nat.add_comm, ← List.drop_drop, List.drop_left' (show x.cells.length = 5 from rfl)]
theorem itm_take (l : List ItV) (k : Nat) : (itmCells l).take (k * 5) = itmCells (l.take k) := by
 induction l generalizing k with
 | nil => simp [itmCells]
 | cons x r ih =>
  cases k with
  | zero => simp [itmCells]
  | succ k =>
   rw [show itmCells (x :: r) = x.cells ++ itmCells r from rfl, List.take_succ_cons, show itmCells (x :: List.take k r) = x.cells ++ itmCells (List.take k r) from rfl, ← ih k, List.take_append, show x.cells.length = 5 from rfl, List.take_of_length_le (by show 5 ≤ _; omega), show (k + 1) * 5 - 5 = k * 5 by omega]
end
end
section
open Go.RowKit
set_option linter.unusedVariables false
set_option linter.unusedSimpArgs false
set_option maxRecDepth 100000
set_option maxHeartbeats 4000000
theorem nz_layV {q : RqV} (hg : ∀ x ∈ q.items, QGood x) : nz (layV q.rq) = true := by
 unfold layV ofI nz
 rw [nzAll_mem]
 intro x hx
 rcases List.mem_cons.1 hx with rfl | hx
 ·exact ⟨.inl (by show (4325495 : Int) ≠ 0; decide), nz_head _⟩
 ·obtain ⟨y, hy, rfl⟩ := List.mem_map.1 hx
  obtain ⟨x, hxq, rfl⟩ := List.mem_map.1 (show y ∈ q.items.map RqIV.rq from hy)
  obtain ⟨-, -, -, ht, -, -, -, -, hn, -⟩ := hg x hxq
  refine ⟨.inl (by show (4325391 : Int) ≠ 0; decide), ?_⟩
  unfold layItem ofI nz
  rw [nzAll_mem]
  intro u hu
  simp only [List.mem_append, List.mem_singleton] at hu
  rcases hu with (rfl | hu) | rfl
  ·exact ⟨.inl (by show (4325468 : Int) ≠ 0; decide), rfl⟩
  ·split at hu
   ·rw [List.mem_singleton.1 hu]; exact ⟨.inl (by show (4325523 : Int) ≠ 0; decide), rfl⟩
   ·cases hu
  ·exact ⟨.inl (by show x.pay.it.tag ≠ 0; rw [ItV.it_eq]; show x.pay.tag ≠ 0; rw [ht]; decide), hn⟩
theorem ob_ok {W : World} {x : ItV} (t y i : Int) (h : x.ok W) : ItV.ok W { x with tag := t, typ := y, int := i } := (ItV.ok_iff (v := { x with tag := t, typ := y, int := i })).2 ((ItV.ok_iff (v := x)).1 h)
theorem ob_foot {x : ItV} (t y i : Int) {k : Nat} (h : k ∈ ItV.foot { x with tag := t, typ := y, int := i }) : k ∈ x.foot := (ItV.mem_foot (v := x)).2 ((ItV.mem_foot (v := { x with tag := t, typ := y, int := i })).1 h)
theorem ob_footN {x : ItV} (t y i : Int) {k : Nat} (h : k ∈ ItV.footN { x with tag := t, typ := y, int := i }) : k ∈ x.footN := (ItV.mem_footN (v := x)).2 ((ItV.mem_footN (v := { x with tag := t, typ := y, int := i })).1 h)
theorem own_frozen {W : World} {base size n c g : Nat} {e : TypeId} {xs : List Value} (h : W.ownsRow base e size (.slice (some ⟨g, 0, none⟩) n c) n xs) (j : Nat) : W.frozen? ⟨g, j, none⟩ = false := by
 rcases h.2 with ⟨hv, h0⟩ | ⟨g', cap, cur, hv, hg, hh, _⟩
 ·simp at hv
 ·simp only [Value.slice.injEq, Option.some.injEq, Addr.mk.injEq] at hv
  obtain ⟨⟨rfl, _, _⟩, _, _⟩ := hv
  simp [World.frozen?, hh]
theorem build0 (w : World) : (Instr.buildSlice 25 0 #[]).run Tryd.prog w = .ok (.slice (some ⟨w.heap.size, 0, none⟩) 0 0) (w.alloc (.cells #[] 27)) := by kernel_rfl
/-- What the switch leaves. -/
def Fin16 (w W : World) (b pi ph pb zi zh zb : Nat) (v : ItV) (A : Nat → Prop) : Prop := ∃ vi vh vb : ItV, Bx2 27 27 w W b v.arr itZ.arr ∧ Ob 27 W pi zi (b + 1) [pi, ph, pb] A vi ∧ Ob 27 W ph zh (b + 1) [pi, ph, pb] A vh ∧ Ob 27 W pb zb (b + 1) [pi, ph, pb] A vb ∧
 (2 ≤ vi.ks.n ∧ vi.ks.n ≤ 1000) ∧ vh.ks.n ≤ 1000 ∧ vb.ks.n ≤ 1000
theorem item16_any (l : List AskD) (a : Option Addr) (n c : Nat) (option most how : Int) (v : ItV) (w : World) (hal : AskArgs w a n l) (hnt : NamesTab w) (hkt : KindsTab w) (hv : v.ok w) :
  Calls Tryd.prog 7 #[.slice a n c, .int .i64 option, .int .i64 most, .int .i64 how, .agg v.arr] w fun e w' => ∃ x : ItV, e = .returned (.agg x.arr) ∧ x.ok w' ∧ x.ks.n ≤ 2000 ∧ Below w.heap.size w w' := by
 obtain ⟨i, hi, hz0, hz1, hz2⟩ := info_parts iInfo
 have HAL := hid hal; have HT := hid hnt; have HK := hid hkt; have HV := hid hv
 have hvl := hv.lt
 clear hal hnt hkt hv
 generalize hbe : w.heap.size = b
 rw [hbe] at hvl
 have HVL : Hid (∀ k ∈ v.foot, k < b) := hvl
 have HBE := hid hbe; clear hbe hvl
 go_enter Tryd.func7, Tryd.ntmps7
 go_upto_region 1 with (refine wpList_alloc_obj rfl 27 rfl _ iZero ?_)
 go_simp
 have B0 := hid (Bx2.start (T := 27) (T' := 27) (cs := v.arr) (zs := itZ.arr) (w := w) HBE.out)
 rw [HBE.out]
 have hb0 : Below w.heap.size w ((w.alloc (.cells v.arr 27)).alloc (.cells itZ.arr 27)) := ((Below.refl _ w).alloc (Nat.le_refl _) _).alloc (by simp) _
 have HV0 := hid (HV.out.below hb0); have HAL0 := hid (HAL.out.below hb0); have HT0 := hid (HT.out.below hb0); have HK0 := hid (HK.out.below hb0)
 clear hb0 HV HAL HT HK
 generalize (w.alloc (.cells v.arr 27)).alloc (.cells itZ.arr 27) = W at *
 go_wp2_with fail
 refine (request_any a n c l option most _ HAL0.out HT0.out HK0.out).mono ?_
 rintro e w1 ⟨q, rfl, hq1, hq2, hq3, hqo, hqg, hqf, hb1⟩
 have B1 := hid (B0.out.below hb1); have HV1 := hid (HV0.out.below hb1)
 have HN5 : Hid (q.its.n ≤ 5) := hq2.2
 have HN1 : Hid (1 ≤ q.its.n) := hq2.1
 have HQ1 : Hid (q.ok w1) := ⟨hqo.sl (by have := hq2.2; omega), hqo.ok⟩
 have HQG := hid hqg
 have HQL : Hid (q.items.length = q.its.n) := hqo.len
 clear hq1 hq2 hq3 hqo hqg hqf hb1 B0 HV0 HAL0 HT0 HK0
 dsimp only
 go_upto_region 2 with (first | (refine wpList_alloc_obj rfl 32 rfl _ vZero ?_) | (refine wpList_store_obj rfl 32 _ _ rfl w1.heap.size rfl q.arr rfl _ _ (block_new w1 _) rfl vSize (varr_one _) ?_; intro w2 hb2 hc2 hs2; have HB_w2 := hid hb2; have HC_w2 := hid hc2; clear hb2 hc2 hs2))
 have hbel : Below w1.heap.size w1 w2 := ((Below.refl _ w1).alloc (Nat.le_refl _) _).trans (HC_w2.out.below (fun k hk => by rw [List.mem_singleton.1 hk]; exact Nat.le_refl _) (by simp))
 have B2 := hid (B1.out.below hbel); have HV2 := hid (HV1.out.below hbel); have HQ2 := hid (HQ1.out.below hbel)
 clear hbel HC_w2 B1 HV1 HQ1
 generalize w1.heap.size = pq at *
 go_wp2_with (refine wpList_load_row rfl 32 _ rfl pq rfl _ _ _ _ HB_w2.out Tryd.underlying32 rfl vSize ?_)
 refine (layRequest_own q _ HQ2.out (by have := HN5.out; omega)).mono ?_
 rintro e w3 ⟨y, rfl, hyi, hyo, hb3, hyd, hyda, ⟨zi, hzi, hown⟩, hap⟩
 have B3 := hid (B2.out.below hb3); have HV3 := hid (HV2.out.below hb3)
 have HYI := hid hyi; have HYO := hid hyo; have HYD := hid hyd; have HYDA := hid hyda; have HOWN := hid hown; have HAP := hid hap
 have HZI : Hid (b + 2 ≤ zi) := Nat.le_trans B2.out.size hzi
 have HYN : Hid (nz y.it = true) := by show _ = _; rw [hyi]; exact nz_layV HQG.out
 have HRF : Hid (b + 1 ∉ y.footN) := hyo.notZero B3.out.res HYN.out
 clear hyi hyo hb3 hyd hyda hzi hown hap B2 HV2 HQ2 HB_w2
 dsimp only
 go_upto_region 3 with (first | (refine wpList_alloc_obj rfl 27 rfl _ iZero ?_) | (refine wpList_store_obj rfl 27 _ _ rfl w3.heap.size rfl y.arr rfl _ _ (block_new w3 _) rfl iSize (arr_one _) ?_; intro w4 hb2 hc2 hs2; have HB_w4 := hid hb2; have HC_w4 := hid hc2; clear hb2 hc2 hs2))
 have hbel : Below w3.heap.size w3 w4 := ((Below.refl _ w3).alloc (Nat.le_refl _) _).trans (HC_w4.out.below (fun k hk => by rw [List.mem_singleton.1 hk]; exact Nat.le_refl _) (by simp))
 have B4 := hid (B3.out.below hbel); have HV4 := hid (HV3.out.below hbel); have HY4 := hid (HYO.out.below hbel)
 have HOW4 := hid ((Chg.of_below hbel []).owns HOWN.out (fun k _ hm => by cases hm))
 have HYL : Hid (∀ k ∈ y.foot, k < w3.heap.size) := HYO.out.lt
 have HOL : Hid (∀ k, y.ks.v.ownBlock = some k → zi ≤ k ∧ k < w3.heap.size) := fun k hk => HOWN.out.lt k hk
 have HBP : Hid (b + 2 ≤ w3.heap.size) := B3.out.size
 clear hbel HC_w4 B3 HV3 HYO HOWN
 generalize w3.heap.size = pi at *
 obtain ⟨A, hA⟩ : ∃ A : Nat → Prop, A = fun k => pi ≤ k ∨ y.ks.v.ownBlock = some k := ⟨_, rfl⟩
 have HA : Hid (∀ k, A k ↔ (pi ≤ k ∨ y.ks.v.ownBlock = some k)) := fun k => by rw [hA]
 clear hA
 have HAR : Hid (¬ A (b + 1)) := fun h => by
  rcases (HA.out _).1 h with h' | h'
  ·have := HBP.out; omega
  ·have := (HOL.out _ h').1; have := HZI.out; omega
 have HAV : Hid (∀ k ∈ v.foot, ¬ A k) := fun k hk h => by
  have h0 := HVL.out k hk
  rcases (HA.out _).1 h with h' | h'
  ·have := HBP.out; omega
  ·have := (HOL.out _ h').1; have := HZI.out; omega
 have hkid : ∀ x ∈ y.kids, x.ok w4 ∧ (∀ k ∈ x.foot, ¬ A k) ∧ b + 1 ∉ x.footN := fun x hx => ⟨(ItV.ok_iff.1 HY4.out).2.2 x hx, fun k hk h => by
  rcases (HA.out _).1 h with h' | h'
  ·have := HYL.out k (ItV.mem_foot.2 (.inr (.inr ⟨x, hx, hk⟩))); omega
  ·exact HAP.out x hx k hk h', fun hm => HRF.out (ItV.mem_footN.2 (.inr (.inr ⟨x, hx, hm⟩)))⟩
 have hoi : Ob 27 w4 pi zi (b + 1) [pi] A y := ⟨HB_w4.out, HOW4.out, fun k hk => ⟨(HA.out k).2 (.inr hk), fun hm => by have h1 := List.mem_singleton.1 hm; have h2 := (HOL.out k hk).2; omega⟩, (ItV.ok_iff.1 HY4.out).1, (fun k hk => by rw [HYD.out] at hk; cases hk), (fun h => by rw [HYD.out] at h; exact absurd rfl h), hkid⟩
 have OI4 := hid hoi
 have HKID := hid hkid
 clear hoi hkid HRF HYN HAP HYL HB_w4 HOW4
 have hitk : y.kids.map ItV.it = layHead q.rq :: (q.items.map RqIV.rq).map layItem := by
  have h : y.it.kids = y.kids.map ItV.it := by rw [ItV.it_eq]
  rw [← h, HYI.out]; rfl
 have hyn : y.kids.length = q.its.n + 1 := by have h := congrArg List.length hitk; have h2 := HQL.out; simp at h; omega
 obtain ⟨k0, k1, rest, hkk⟩ : ∃ k0 k1 rest, y.kids = k0 :: k1 :: rest := by
  match hm : y.kids, hyn with
  | [], h => simp at h
  | [x], h => have h2 := HN1.out; simp at h; omega
  | x :: x' :: r, _ => exact ⟨x, x', r, rfl⟩
 rw [hkk, List.map_cons, List.map_cons] at hitk
 obtain ⟨x0, r0, hx0⟩ : ∃ x0 r0, q.items = x0 :: r0 := by
  cases hq : q.items with
  | nil => have h1 := HQL.out; rw [hq] at h1; have h2 := HN1.out; simp at h1; omega
  | cons x r => exact ⟨x, r, rfl⟩
 rw [hx0, List.map_cons, List.map_cons] at hitk
 simp only [List.cons.injEq] at hitk
 obtain ⟨hk0, hk1, -⟩ := hitk
 have hyks : y.ks.n = q.its.n + 1 := by rw [← hyn]; exact (ItV.ok_iff.1 HY4.out).2.1.klen.symm
 have HYK : Hid (2 ≤ y.ks.n ∧ y.ks.n ≤ 6) := by have h1 := HN1.out; have h2 := HN5.out; show _ ∧ _; omega
 have hk0n : k0.kids.length = (layHead q.rq).kids.length := by rw [← hk0, ItV.it_eq]; simp
 have hk1n : k1.kids.length = (layItem x0.rq).kids.length := by rw [← hk1, ItV.it_eq]; simp
 have hh0 : 3 ≤ (layHead q.rq).kids.length ∧ (layHead q.rq).kids.length ≤ 4 := by unfold layHead ofI; split <;> simp
 have hh1 : 2 ≤ (layItem x0.rq).kids.length ∧ (layItem x0.rq).kids.length ≤ 3 := by unfold layItem ofI; split <;> simp
 have G0 := hid (HKID.out k0 (by rw [hkk]; simp)); have G1 := hid (HKID.out k1 (by rw [hkk]; simp))
 have K0 : Hid (3 ≤ k0.ks.n ∧ k0.ks.n ≤ 4) := by have h := (ItV.ok_iff.1 G0.out.1).2.1.klen; show _ ∧ _; omega
 have K1 : Hid (2 ≤ k1.ks.n ∧ k1.ks.n ≤ 3) := by have h := (ItV.ok_iff.1 G1.out.1).2.1.klen; show _ ∧ _; omega
 obtain ⟨bx, ox, k0', hax, hx0', hrow0⟩ := (ItV.ok_iff.1 HY4.out).2.1.row (k := 0) (by have := HYK.out; omega)
 obtain ⟨bx', ox', k1', hax', hx1', hrow1⟩ := (ItV.ok_iff.1 HY4.out).2.1.row (k := 1) (by have := HYK.out; omega)
 rw [hax] at hax'
 simp only [Option.some.injEq, Addr.mk.injEq, and_true] at hax'
 obtain ⟨rfl, rfl⟩ := hax'
 rw [hkk] at hx0' hx1'
 simp only [List.getElem?_cons_zero, List.getElem?_cons_succ, Option.some.injEq] at hx0' hx1'
 subst hx0'; subst hx1'
 have R0 := hid hrow0; have HAX := hid hax
 have HK1 : Hid (y.kids[1]? = some k1) := by show _ = _; rw [hkk]; rfl
 clear hyn hkk hx0 hk0 hk1 hyks hk0n hk1n hh0 hh1 hrow0 hrow1 hax HKID HY4 HYI HQL HQG
 have c4 : w4.cell? ⟨pi, 4, none⟩ = some (.slice (some ⟨bx, ox, none⟩) y.ks.n y.ks.c) := by rw [← HAX.out]; exact cell_of_block (j := 4) OI4.out.blk (ar4 y)
 have hpos : 0 < y.ks.n := by have := HYK.out; omega
 go_upto_region 4 with (first | (refine wpList_load_mid rfl 27 _ rfl bx _ rfl k0.arr.toList _ R0.out Tryd.underlying27 rfl iSize ?_; simp only [Array.toArray_toList]) | (refine wpList_alloc_obj rfl 27 rfl _ iZero ?_) | (refine wpList_store_obj rfl 27 _ _ rfl w4.heap.size rfl k0.arr rfl _ _ (block_new w4 _) rfl iSize (arr_one _) ?_; intro w6 hb2 hc2 hs2; have HB_w6 := hid hb2; have HC_w6 := hid hc2; clear hb2 hc2 hs2))
 have OI := OI4
 clear OI4
 have hbel : Below w4.heap.size w4 w6 := ((Below.refl _ w4).alloc (Nat.le_refl _) _).trans (HC_w6.out.below (fun k hk => by rw [List.mem_singleton.1 hk]; exact Nat.le_refl _) (by simp))
 have B4' := hid (B4.out.below hbel); have HV4' := hid (HV4.out.below hbel)
 have OI' := hid (OI.out.below hbel)
 have G0' := hid (show k0.ok w6 ∧ (∀ k ∈ k0.foot, ¬ A k) ∧ b + 1 ∉ k0.footN from ⟨G0.out.1.below hbel, G0.out.2⟩)
 have G1' := hid (show k1.ok w6 ∧ (∀ k ∈ k1.foot, ¬ A k) ∧ b + 1 ∉ k1.footN from ⟨G1.out.1.below hbel, G1.out.2⟩)
 have HLT : Hid (pi < w4.heap.size) := block_lt OI.out.blk
 clear hbel HC_w6 B4 HV4 OI G0 G1
 have B4 := B4'; have HV4 := HV4'
 have OI := OI'
 have G0 := G0'
 have G1 := G1'
 clear B4' HV4' OI' G0' G1'
 have HSph : Hid (w4.heap.size < w6.heap.size) := block_lt HB_w6.out
 obtain ⟨ph, hph⟩ : ∃ x, x = w4.heap.size := ⟨_, rfl⟩
 rw [← hph] at HB_w6 HLT HSph ⊢
 clear hph
 have HLTph := HLT
 clear HLT
 obtain ⟨zph, hz⟩ : ∃ x, x = w6.heap.size := ⟨_, rfl⟩
 have HZ := hid hz
 clear hz
 have HORD : Hid True := trivial
 have ch4 : w6.cell? ⟨ph, 4, none⟩ = some (.slice k0.ks.a k0.ks.n k0.ks.c) := cell_of_block (j := 4) HB_w6.out (ar4 k0)
 have hb0 := build0
 have hbe : Below w6.heap.size w6 (w6.alloc (.cells #[] 27)) := (Below.refl _ _).alloc (Nat.le_refl _) _
 have ch4' : (w6.alloc (.cells #[] 27)).cell? ⟨ph, 4, none⟩ = some (.slice k0.ks.a k0.ks.n k0.ks.c) := cell_later hbe ch4
 have RDK := hid ((ItV.ok_iff.1 G0.out.1).2.1.below hbe).rd
 have RNO := hid (ItV.ok_iff.1 G0.out.1).2.1.no
 have HNEW : Hid (∀ k, w6.heap.size ≤ k → A k) := fun k hk => (HA.out k).2 (.inl (by have := HLTph.out; have := HSph.out; omega))
 have HPP : Hid (∀ q ∈ [pi, ph], q < w6.heap.size) := fun q hq => by
  simp only [List.mem_cons, List.not_mem_nil, or_false] at hq
  have := HLTph.out; have := HLTph.out; have := HSph.out; have := HORD.out
  omega
 have HAP : Hid (∀ q ∈ [pi, ph], A q) := fun q hq => (HA.out q).2 (.inl (by
  simp only [List.mem_cons, List.not_mem_nil, or_false] at hq
  have := HLTph.out; have := HLTph.out
  omega))
 clear hbe
 go_upto_region 5 with (at_builtin; go_must (refine wpList_append_c rfl _ _ 25 rfl zph 27 i _ 5 72 Tryd.underlying25 hi hz0 hz1 hz2 rfl (by decide) (.slice (some ⟨w6.heap.size, 0, none⟩) 0 0) 0 [] rfl (own_built (C := #[]) (n := 0) (Nat.le_of_eq HZ.out) rfl (by decide)) _ k0.ks.n _ (itmCells k0.kids) rfl RDK.out (itm_one _) RNO.out (by have := K0.out; unfold maxLen; omega) (by have := K0.out; omega) (by have := HZ.out; simp; omega) ?_); intro a' c' w8 hown hgw hfr; rw [Nat.zero_add] at hown hfr ⊢; rw [List.nil_append] at hown; have hcp := Ob.copied (T := 27) (A := A) (r := b + 1) (P := [pi, ph]) HB_w6.out G0.out hown hgw (hfr.imp id (fun h k hk => by have := h k hk; simpa using this)) HNEW.out HPP.out (by simp) HAP.out; have HCP := hid hcp; have hq4 := cell_of_block (j := 4) HCP.out.1 (ar4 _); have hfz : ∀ j, w8.frozen? ⟨ph, j, none⟩ = false := (fun j => frozen_of_block HCP.out.1); clear hown hgw hfr hcp ch4 ch4')
 clear hq4 hfz hb0
 obtain ⟨-, hob, hch, hlo⟩ := HCP.out
 have Oph := hid hob; have HCH := hid hch; have Lph := hid hlo
 clear HCP hob hch hlo RDK RNO
 generalize w8.setCell ⟨ph, 4, none⟩ (.slice a' k0.ks.n c') = w9 at *
 have HGA : Hid (∀ k ∈ [ph, w6.heap.size], A k) := fun k hk => by
  simp only [List.mem_cons, List.not_mem_nil, or_false] at hk
  rcases hk with rfl | rfl
  ·exact HAP.out _ (by simp)
  ·exact HNEW.out _ (Nat.le_refl _)
 have OI9 := hid (OI.out.keep HCH.out HGA.out (by simp; have := HLTph.out; have := HSph.out; omega) (fun k hk hm => by
  simp only [List.mem_cons, List.not_mem_nil, or_false] at hm
  have h1 := (HOL.out k hk).2; have := HLTph.out; have := HSph.out; omega))
 have HV9 := hid (ItV.ok.keep HCH.out HV4.out (fun k hk hm => HAV.out k hk (HGA.out k hm)))
 have B9 := hid (B4.out.chg HCH.out (fun k hk => by
  simp only [List.mem_cons, List.not_mem_nil, or_false] at hk
  have := HBP.out; have := HLTph.out; have := HSph.out; omega))
 have G19 := hid (show k1.ok w9 ∧ (∀ k ∈ k1.foot, ¬ A k) ∧ b + 1 ∉ k1.footN from ⟨ItV.ok.keep HCH.out G1.out.1 (fun k hk hm => G1.out.2.1 k hk (HGA.out k hm)), G1.out.2⟩)
 obtain ⟨vh, hvh⟩ : ∃ x : ItV, x = { k0 with ks := ⟨a', k0.ks.n, c'⟩ } := ⟨_, rfl⟩
 have KH : Hid (3 ≤ vh.ks.n ∧ vh.ks.n ≤ 4) := by show _ ∧ _; rw [hvh]; exact K0.out
 have LH1 : Hid (∀ k, vh.ks.v.ownBlock = some k → w6.heap.size ≤ k) := fun k hk => Lph.out k (by rw [hvh] at hk; exact hk)
 rw [← hvh] at Oph
 have LH : Hid (∀ k, vh.ks.v.ownBlock = some k → ph < k ∧ k < w9.heap.size) := fun k hk => ⟨by have h1 := LH1.out k hk; have := HSph.out; omega, (Oph.out.own.lt k hk).2⟩
 clear hvh HGA OI HV4 B4 G1 HCH Lph LH1 HAP HPP HNEW HZ HB_w6 G0 K0 HSph HORD
 have OI := OI9; have HV := HV9; have B := B9; have G1 := G19
 clear OI9 HV9 B9 G19
 obtain ⟨b9, o9, x9, h9, hx9, hr9⟩ := (ItV.ok_iff.1 (OI.out.ok (by have := HYK.out; omega))).2.1.row (k := 1) (by have := HYK.out; omega)
 rw [HAX.out] at h9
 simp only [Option.some.injEq, Addr.mk.injEq, and_true] at h9
 obtain ⟨rfl, rfl⟩ := h9
 rw [HK1.out] at hx9
 obtain rfl := Option.some.inj hx9
 have R1 := hid hr9
 clear hx9 hr9
 have c4 : w9.cell? ⟨pi, 4, none⟩ = some (.slice (some ⟨bx, ox, none⟩) y.ks.n y.ks.c) := by rw [← HAX.out]; exact cell_of_block (j := 4) OI.out.blk (ar4 y)
 have hpos : 1 < y.ks.n := by have := HYK.out; omega
 have hpos2 : (1 : Int) < (y.ks.n : Int) := by omega
 go_upto_region 6 with (first | (refine wpList_load_mid rfl 27 _ rfl bx _ rfl k1.arr.toList _ R1.out Tryd.underlying27 rfl iSize ?_; simp only [Array.toArray_toList]) | (refine wpList_alloc_obj rfl 27 rfl _ iZero ?_) | (refine wpList_store_obj rfl 27 _ _ rfl w9.heap.size rfl k1.arr rfl _ _ (block_new w9 _) rfl iSize (arr_one _) ?_; intro w11 hb2 hc2 hs2; have HB_w11 := hid hb2; have HC_w11 := hid hc2; clear hb2 hc2 hs2))
 clear c4 hpos hpos2 R1
 have HORD : Hid (ph < w9.heap.size) := block_lt Oph.out.blk
 have hbel : Below w9.heap.size w9 w11 := ((Below.refl _ w9).alloc (Nat.le_refl _) _).trans (HC_w11.out.below (fun k hk => by rw [List.mem_singleton.1 hk]; exact Nat.le_refl _) (by simp))
 have B' := hid (B.out.below hbel); have HV' := hid (HV.out.below hbel)
 have OI' := hid (OI.out.below hbel)
 have Oph' := hid (Oph.out.below hbel)
 have G1' := hid (show k1.ok w11 ∧ (∀ k ∈ k1.foot, ¬ A k) ∧ b + 1 ∉ k1.footN from ⟨G1.out.1.below hbel, G1.out.2⟩)
 have HLT : Hid (pi < w9.heap.size) := block_lt OI.out.blk
 clear hbel HC_w11 B HV OI Oph G1
 have B := B'; have HV := HV'
 have OI := OI'
 have Oph := Oph'
 have G1 := G1'
 clear B' HV' OI' Oph' G1'
 have HSpb : Hid (w9.heap.size < w11.heap.size) := block_lt HB_w11.out
 obtain ⟨pb, hpb⟩ : ∃ x, x = w9.heap.size := ⟨_, rfl⟩
 rw [← hpb] at HB_w11 HORD LH HLT HSpb ⊢
 clear hpb
 have HLTpb := HLT
 clear HLT
 obtain ⟨zpb, hz⟩ : ∃ x, x = w11.heap.size := ⟨_, rfl⟩
 have HZ := hid hz
 clear hz
 have ch4 : w11.cell? ⟨pb, 4, none⟩ = some (.slice k1.ks.a k1.ks.n k1.ks.c) := cell_of_block (j := 4) HB_w11.out (ar4 k1)
 have hb0 := build0
 have hbe : Below w11.heap.size w11 (w11.alloc (.cells #[] 27)) := (Below.refl _ _).alloc (Nat.le_refl _) _
 have ch4' : (w11.alloc (.cells #[] 27)).cell? ⟨pb, 4, none⟩ = some (.slice k1.ks.a k1.ks.n k1.ks.c) := cell_later hbe ch4
 have RDK := hid ((ItV.ok_iff.1 G1.out.1).2.1.below hbe).rd
 have RNO := hid (ItV.ok_iff.1 G1.out.1).2.1.no
 have HNEW : Hid (∀ k, w11.heap.size ≤ k → A k) := fun k hk => (HA.out k).2 (.inl (by have := HLTpb.out; have := HSpb.out; omega))
 have HPP : Hid (∀ q ∈ [pi, ph, pb], q < w11.heap.size) := fun q hq => by
  simp only [List.mem_cons, List.not_mem_nil, or_false] at hq
  have := HLTph.out; have := HLTpb.out; have := HSpb.out; have := HORD.out
  omega
 have HAP : Hid (∀ q ∈ [pi, ph, pb], A q) := fun q hq => (HA.out q).2 (.inl (by
  simp only [List.mem_cons, List.not_mem_nil, or_false] at hq
  have := HLTph.out; have := HLTpb.out
  omega))
 clear hbe
 go_upto_region 7 with (at_builtin; go_must (refine wpList_append_c rfl _ _ 25 rfl zpb 27 i _ 5 72 Tryd.underlying25 hi hz0 hz1 hz2 rfl (by decide) (.slice (some ⟨w11.heap.size, 0, none⟩) 0 0) 0 [] rfl (own_built (C := #[]) (n := 0) (Nat.le_of_eq HZ.out) rfl (by decide)) _ k1.ks.n _ (itmCells k1.kids) rfl RDK.out (itm_one _) RNO.out (by have := K1.out; unfold maxLen; omega) (by have := K1.out; omega) (by have := HZ.out; simp; omega) ?_); intro a' c' w13 hown hgw hfr; rw [Nat.zero_add] at hown hfr ⊢; rw [List.nil_append] at hown; have hcp := Ob.copied (T := 27) (A := A) (r := b + 1) (P := [pi, ph, pb]) HB_w11.out G1.out hown hgw (hfr.imp id (fun h k hk => by have := h k hk; simpa using this)) HNEW.out HPP.out (by simp) HAP.out; have HCP := hid hcp; have hq4 := cell_of_block (j := 4) HCP.out.1 (ar4 _); have hfz : ∀ j, w13.frozen? ⟨pb, j, none⟩ = false := (fun j => frozen_of_block HCP.out.1); clear hown hgw hfr hcp ch4 ch4')
 clear hq4 hfz hb0
 obtain ⟨-, hob, hch, hlo⟩ := HCP.out
 have Opb := hid hob; have HCH := hid hch; have Lpb := hid hlo
 clear HCP hob hch hlo RDK RNO
 generalize w13.setCell ⟨pb, 4, none⟩ (.slice a' k1.ks.n c') = w14 at *
 have HGA : Hid (∀ k ∈ [pb, w11.heap.size], A k) := fun k hk => by
  simp only [List.mem_cons, List.not_mem_nil, or_false] at hk
  rcases hk with rfl | rfl
  ·exact HAP.out _ (by simp)
  ·exact HNEW.out _ (Nat.le_refl _)
 have OI9 := hid ((OI.out.keep HCH.out HGA.out (by simp; have := HLTpb.out; have := HSpb.out; omega) (fun k hk hm => by
  simp only [List.mem_cons, List.not_mem_nil, or_false] at hm
  have h1 := (HOL.out k hk).2; have := HLTpb.out; have := HSpb.out; omega)).more (P' := [pi, ph, pb]) (fun k hk hm => by
  simp only [List.mem_cons, List.not_mem_nil, or_false] at hm
  have h1 := (HOL.out k hk).2; have := HLTpb.out; have := HLTph.out; omega))
 have OH9 := hid ((Oph.out.keep HCH.out HGA.out (by simp; have := HORD.out; have := HSpb.out; omega) (fun k hk hm => by
  simp only [List.mem_cons, List.not_mem_nil, or_false] at hm
  have h1 := (LH.out k hk).2; have := HLTpb.out; have := HSpb.out; omega)).more (P' := [pi, ph, pb]) (fun k hk hm => by
  simp only [List.mem_cons, List.not_mem_nil, or_false] at hm
  have h1 := LH.out k hk; have := HLTpb.out; have := HLTph.out; omega))
 have HV9 := hid (ItV.ok.keep HCH.out HV.out (fun k hk hm => HAV.out k hk (HGA.out k hm)))
 have B9 := hid (B.out.chg HCH.out (fun k hk => by
  simp only [List.mem_cons, List.not_mem_nil, or_false] at hk
  have := HBP.out; have := HLTpb.out; have := HSpb.out; omega))
 obtain ⟨vb, hvb⟩ : ∃ x : ItV, x = { k1 with ks := ⟨a', k1.ks.n, c'⟩ } := ⟨_, rfl⟩
 have KB : Hid (2 ≤ vb.ks.n ∧ vb.ks.n ≤ 3) := by show _ ∧ _; rw [hvb]; exact K1.out
 have LB1 : Hid (∀ k, vb.ks.v.ownBlock = some k → w11.heap.size ≤ k) := fun k hk => Lpb.out k (by rw [hvb] at hk; exact hk)
 rw [← hvb] at Opb
 have LB : Hid (∀ k, vb.ks.v.ownBlock = some k → pb < k) := fun k hk => by have h1 := LB1.out k hk; have := HSpb.out; omega
 have HPL : Hid (∀ k, w14.heap.size ≤ k → A k) := fun k hk => (HA.out k).2 (.inl (by have := block_lt OI9.out.blk; omega))
 clear hvb HGA OI HV B Oph G1 HCH Lpb LB1 HPP HNEW HZ HB_w11 K1 HSpb HAX HK1
 have OI := OI9; have HV := HV9; have B := B9; have OH := OH9; have OB := Opb
 clear OI9 HV9 B9 OH9 Opb
 obtain ⟨hhc, -, hhs⟩ := own_slice OH.out.own
 obtain ⟨gh, hgh, -, -⟩ := hhs (by have := KH.out; omega)
 obtain ⟨hbc, -, hbs⟩ := own_slice OB.out.own
 obtain ⟨gb, hgb, -, -⟩ := hbs (by have := KB.out; omega)
 have HGH := hid hgh; have HGB := hid hgb; have HHC := hid hhc; have HBC := hid hbc
 have ch4 : w14.cell? ⟨ph, 4, none⟩ = some (.slice (some ⟨gh, 0, none⟩) vh.ks.n vh.ks.c) := by rw [← hgh]; exact cell_of_block (j := 4) OH.out.blk (ar4 vh)
 have cb4 : w14.cell? ⟨pb, 4, none⟩ = some (.slice (some ⟨gb, 0, none⟩) vb.ks.n vb.ks.c) := by rw [← hgb]; exact cell_of_block (j := 4) OB.out.blk (ar4 vb)
 clear hhs hbs hgh hgb hhc hbc
 go_wp2_with fail
 refine (pick_any _ (vh.ks.n : Int) _ (by have := KH.out; omega) (by have := KH.out; omega)).mono ?_
 rintro e u ⟨rfl, rfl⟩
 dsimp only
 obtain ⟨nn, hnn, lnn⟩ : ∃ m : Nat, pick (wrap64 (how.tdiv 16)) (vh.ks.n : Int) = (m : Int) ∧ m < vh.ks.n := ⟨(pick (wrap64 (how.tdiv 16)) (vh.ks.n : Int)).toNat, by have h1 := pick_lo (wrap64 (how.tdiv 16)) (vh.ks.n : Int) (by have := KH.out; omega); omega, by have h1 := pick_lo (wrap64 (how.tdiv 16)) (vh.ks.n : Int) (by have := KH.out; omega); have h2 := pick_hi (wrap64 (how.tdiv 16)) (vh.ks.n : Int) (by have := KH.out; omega); omega⟩
 rw [hnn]
 have Lnn := hid lnn
 clear hnn lnn
 go_wp2_with fail
 refine (pick_any _ (vb.ks.n : Int) _ (by have := KB.out; omega) (by have := KB.out; omega)).mono ?_
 rintro e u ⟨rfl, rfl⟩
 dsimp only
 obtain ⟨mm, hmm, lmm⟩ : ∃ m : Nat, pick (wrap64 (how.tdiv 16)) (vb.ks.n : Int) = (m : Int) ∧ m < vb.ks.n := ⟨(pick (wrap64 (how.tdiv 16)) (vb.ks.n : Int)).toNat, by have h1 := pick_lo (wrap64 (how.tdiv 16)) (vb.ks.n : Int) (by have := KB.out; omega); omega, by have h1 := pick_lo (wrap64 (how.tdiv 16)) (vb.ks.n : Int) (by have := KB.out; omega); have h2 := pick_hi (wrap64 (how.tdiv 16)) (vb.ks.n : Int) (by have := KB.out; omega); omega⟩
 rw [hmm]
 have Lmm := hid lmm
 clear hmm lmm
 go_wp2_with fail
 refine (pick_any how 16 _ (by omega) (by omega)).mono ?_
 rintro e u ⟨rfl, rfl⟩
 dsimp only
 generalize pick how 16 = pk at *
 clear ch4 cb4
 go_upto_block 0 with (fail)
 go_cut [] (fun wx => Fin16 w wx b pi ph pb zi zph zpb v A)
 case first =>
  have hgen : ∀ (G : List Nat) (W' : World), Chg G w14 W' → (∀ k ∈ G, A k ∧ b + 2 ≤ k) → Bx2 27 27 w W' b v.arr itZ.arr ∧ (pi ∉ G → (∀ k, y.ks.v.ownBlock = some k → k ∉ G) → Ob 27 W' pi zi (b + 1) [pi, ph, pb] A y) ∧ (ph ∉ G → (∀ k, vh.ks.v.ownBlock = some k → k ∉ G) → Ob 27 W' ph zph (b + 1) [pi, ph, pb] A vh) ∧ (pb ∉ G → (∀ k, vb.ks.v.ownBlock = some k → k ∉ G) → Ob 27 W' pb zpb (b + 1) [pi, ph, pb] A vb) := fun G W' hc hg =>
   ⟨B.out.chg hc (fun k hk => (hg k hk).2), fun h1 h2 => OI.out.keep hc (fun k hk => (hg k hk).1) h1 h2, fun h1 h2 => OH.out.keep hc (fun k hk => (hg k hk).1) h1 h2, fun h1 h2 => OB.out.keep hc (fun k hk => (hg k hk).1) h1 h2⟩
  have GEN := hid hgen
  have KEEPP : Hid (∀ (p : Nat) (W' : World), Chg [p] w14 W' → (p = pi ∨ p = ph ∨ p = pb) → Bx2 27 27 w W' b v.arr itZ.arr ∧ (ph ∉ [p] → (∀ k, vh.ks.v.ownBlock = some k → k ∉ [p]) → Ob 27 W' ph zph (b + 1) [pi, ph, pb] A vh) ∧ (pb ∉ [p] → (∀ k, vb.ks.v.ownBlock = some k → k ∉ [p]) → Ob 27 W' pb zpb (b + 1) [pi, ph, pb] A vb)) := fun p W' hc hp => by
   have h := GEN.out [p] W' hc (fun k hk => by
    rw [List.mem_singleton.1 hk]
    have h1 := HBP.out; have h2 := HLTph.out; have h3 := HLTpb.out
    exact ⟨(HA.out p).2 (.inl (by omega)), by omega⟩)
   exact ⟨h.1, h.2.2.1, h.2.2.2⟩
  clear hgen
  by_cases e0 : pk = 0
  ·subst e0
   obtain ⟨b9, o9, x, h9, hx, hrow⟩ := (ItV.ok_iff.1 (OH.out.ok (by have := KH.out; omega))).2.1.row (k := nn) Lnn.out
   rw [HGH.out] at h9
   simp only [Option.some.injEq, Addr.mk.injEq, and_true] at h9
   obtain ⟨rfl, rfl⟩ := h9
   have c4 : w14.cell? ⟨ph, 4, none⟩ = some (.slice (some ⟨gh, 0, none⟩) vh.ks.n vh.ks.c) := by rw [← HGH.out]; exact cell_of_block (j := 4) OH.out.blk (ar4 vh)
   have hcc : w14.cell? ⟨gh, nn * 5 + 2, none⟩ = some (.int .i64 x.int) := by have h := hrow 2 _ rfl; rwa [Nat.zero_add] at h
   have hcd : w14.cell? ⟨gh, 0 + nn * 5 + 2, none⟩ = some (.int .i64 x.int) := hrow 2 _ rfl
   have hfg : ∀ j, w14.frozen? ⟨gh, j, none⟩ = false := fun j => own_frozen (by have h := OH.out.own; rw [HGH.out] at h; exact h) j
   have hl : nn < vh.ks.n := Lnn.out
   have hl2 : (nn : Int) < (vh.ks.n : Int) := by omega
   have HX := hid hx
   clear hx hrow
   go_wp2_with fail
   go_meet
   have hgo : vh.ks.v.ownBlock = some gh := by rw [show vh.ks.v = Value.slice vh.ks.a vh.ks.n vh.ks.c from rfl, HGH.out]; rfl
   obtain ⟨h1, hc, hA, hP⟩ := OH.out.setKid HGH.out (k := nn) (j := 2) (x := x) (y := { x with int := wrap64 (x.int + 1) }) (u := .int .i64 (wrap64 (x.int + 1))) (by simp) HX.out (by decide) rfl (fun w h => ob_ok _ _ _ h) (fun k hk => ob_foot _ _ _ hk) (fun h => ob_footN _ _ _ h)
   simp only [List.mem_cons, List.not_mem_nil, or_false, not_or] at hP
   have hG : ∀ k ∈ [gh], A k ∧ b + 2 ≤ k := fun k hk => by
    rw [List.mem_singleton.1 hk]
    refine ⟨hA, ?_⟩
    have h2 := LH.out _ hgo
    have := HBP.out; have := HLTph.out; have := HLTpb.out; omega
   have hpi : pi ∉ [gh] := fun hm => hP.1 (List.mem_singleton.1 hm).symm
   have hpo : pb ∉ [gh] := fun hm => hP.2.2 (List.mem_singleton.1 hm).symm
   have hoi : ∀ q, y.ks.v.ownBlock = some q → q ∉ [gh] := fun q hq hm => by
    have h1 := (HOL.out q hq).2; have h2 := LH.out _ hgo; have h3 := List.mem_singleton.1 hm
    have := HLTph.out; have := HLTpb.out; omega
   have ho2 : ∀ q, vb.ks.v.ownBlock = some q → q ∉ [gh] := fun q hq hm => by
    have h3 := List.mem_singleton.1 hm
    have h1 := LB.out q hq; have h2 := LH.out gh hgo; omega
   exact ⟨y, _, vb, (GEN.out _ _ hc hG).1, (GEN.out _ _ hc hG).2.1 hpi hoi, h1, (GEN.out _ _ hc hG).2.2.2 hpo ho2, by have := HYK.out; show 2 ≤ y.ks.n ∧ y.ks.n ≤ 1000; omega, by have := KH.out; show vh.ks.n ≤ 1000; omega, by have := KB.out; omega⟩
  have n0 : (pk == 0) = false := by simpa using e0
  by_cases e1 : pk = 1
  ·subst e1
   obtain ⟨n1, hn1⟩ : ∃ m, m = nn + 1 := ⟨_, rfl⟩
   have HN1X := hid hn1
   have HSF := hid (fun w => run_slice_front (P := Tryd.prog) 25 27 5 Tryd.underlying25 (fun w => by kernel_rfl) (some (⟨gh, 0, none⟩ : Addr)) vh.ks.n vh.ks.c nn (by have := Lnn.out; have := HHC.out; omega) w)
   obtain ⟨a2, ha2⟩ : ∃ a2 : Option Addr, (if vh.ks.c = n1 then (some (⟨gh, 0, none⟩ : Addr)) else (some (⟨gh, 0, none⟩ : Addr)).map (·.add (n1 * 5))) = a2 := ⟨_, rfl⟩
   have HSB := hid (fun w => run_slice_back (P := Tryd.prog) 25 27 5 Tryd.underlying25 (fun w => by kernel_rfl) (some (⟨gh, 0, none⟩ : Addr)) vh.ks.n vh.ks.c n1 (by have := Lnn.out; omega) w)
   rw [ha2] at HSB
   have hks := (ItV.ok_iff.1 (OH.out.ok (by have := KH.out; omega))).2.1
   have hrd := rdC_drop (k := n1) hks.rd hks.nc (by have := Lnn.out; omega)
   rw [HGH.out, ha2, itm_drop] at hrd
   have HRD := hid hrd
   have HNO : Hid (a2 = none → vh.ks.c - n1 = 0) := fun hn => by
    rw [← ha2] at hn
    split at hn <;> simp at hn
   have HWR : Hid (IntKind.i64.wrap ((nn : Int) + 1) = (n1 : Int)) := (IntWalk.i64_in _ (by have := Lnn.out; have := KH.out; omega)).trans (by omega)
   clear hks hrd ha2 hn1
   have HC4 : Hid (∀ w', Below w14.heap.size w14 w' → w'.cell? ⟨ph, 4, none⟩ = some (.slice (some ⟨gh, 0, none⟩) vh.ks.n vh.ks.c)) := fun w' hb => by rw [← HGH.out]; exact cell_of_block (j := 4) ((OH.out.below hb).blk) (ar4 vh)
   go_upto_region 13 with (fail)
   refine wp_region_each 9 [.eq (.pointer (some ⟨ph, 4, none⟩)), .eq (.slice (some ⟨gh, 0, none⟩) vh.ks.n vh.ks.c), .eq (.int .i64 nn), .eq (.slice (some ⟨gh, 0, none⟩) nn vh.ks.c), .eq (.pointer (some ⟨ph, 4, none⟩)), .eq (.slice (some ⟨gh, 0, none⟩) vh.ks.n vh.ks.c), .eq (.int .i64 nn), .eq (.int .i64 (n1 : Int)), .eq (.slice a2 (vh.ks.n - n1) (vh.ks.c - n1))] (by kernel_rfl) (by kernel_rfl) (by kernel_rfl) (by kernel_rfl) ?_ ?_
   ·all_goals
     refine each_5 ?_ ?_ ?_ ?_ ?_ (each_c ?_ (each_c ?_ (each_c ?_ (each_c ?_ (each_n)))))
     ·intro w1 hg Ar seen
      have s13 := seen.sl 13 (.pointer (some ⟨ph, 0, none⟩))
      refine does_plain rfl fun K Q' hK => ?_
      go_simp; exact hK _ _ (Grow.refl _) rfl
     ·intro w1 hg Ar seen
      have e0 := seen.de 0 69
      refine does_plain rfl fun K Q' hK => ?_
      have hc := HC4.out _ hg
      go_simp; exact hK _ _ (Grow.refl _) rfl
     ·intro w1 hg Ar seen
      have s15 := seen.sl 15 (.int .i64 nn)
      refine does_plain rfl fun K Q' hK => ?_
      go_simp; exact hK _ _ (Grow.refl _) rfl
     ·intro w1 hg Ar seen
      have e1 := seen.de 1 70
      have e2 := seen.de 2 71
      refine does_plain rfl fun K Q' hK => ?_
      have hsl := HSF.out
      go_simp; exact hK _ _ (Grow.refl _) rfl
     ·intro w1 hg Ar seen
      have s13 := seen.sl 13 (.pointer (some ⟨ph, 0, none⟩))
      refine does_plain rfl fun K Q' hK => ?_
      go_simp; exact hK _ _ (Grow.refl _) rfl
     ·intro w1 hg Ar seen
      have e4 := seen.de 4 73
      refine does_plain rfl fun K Q' hK => ?_
      have hc := HC4.out _ hg
      go_simp; exact hK _ _ (Grow.refl _) rfl
     ·intro w1 hg Ar seen
      have s15 := seen.sl 15 (.int .i64 nn)
      refine does_plain rfl fun K Q' hK => ?_
      go_simp; exact hK _ _ (Grow.refl _) rfl
     ·intro w1 hg Ar seen
      have e6 := seen.de 6 75
      refine does_plain rfl fun K Q' hK => ?_
      have hs := HWR.out
      go_simp; exact hK _ _ (Grow.refl _) rfl
     ·intro w1 hg Ar seen
      have e5 := seen.de 5 74
      have e7 := seen.de 7 76
      refine does_plain rfl fun K Q' hK => ?_
      have hsl := HSB.out
      go_simp; exact hK _ _ (Grow.refl _) rfl
   intro w1 hg
   refine upon_w' (js := [0, 1, 2, 3, 4, 5, 6, 7, 8]) (by rfl) ?_
   refine upon_e (some 69) (upon_e (some 70) (upon_e (some 71) (upon_e (some 72) (upon_e (some 73) (upon_e (some 74) (upon_e (some 75) (upon_e (some 76) (upon_e (some 77) (upon_n ?_)))))))))
   have HG : Hid (Below w14.heap.size w14 w1) := hg
   have HRD1 := hid (HRD.out.below HG.out)
   clear hg HC4 HRD HSF HSB HWR
   have OA := hid (OH.out.below HG.out)
   have HEQ : Hid (vh.ks.v.ownBlock = some gh) := by show _ = _; rw [show vh.ks.v = Value.slice vh.ks.a vh.ks.n vh.ks.c from rfl, HGH.out]; rfl
   have HOWF : Hid ((w1).ownsRow zph 27 5 (.slice (some ⟨gh, 0, none⟩) vh.ks.n vh.ks.c) vh.ks.n (itmCells vh.kids)) := by have h := OA.out.own; rw [HGH.out] at h; exact h
   have HZL : Hid (zph ≤ (w1).heap.size) := by show zph ≤ _; have h := HOWF.out.lt gh rfl; omega
   have HLEN : Hid (vh.kids.length = vh.ks.n) := (ItV.ok_iff.1 (OH.out.ok (by have := KH.out; omega))).2.1.klen
   have HOWA : Hid ((w1).ownsRow zph 27 5 (.slice (some ⟨gh, 0, none⟩) nn vh.ks.c) nn (itmCells (vh.kids.take nn))) := by
    have h := own_take (k := nn) HOWF.out (by have := Lnn.out; have := HN1X.out; omega)
    rw [itm_take] at h
    exact h
   clear HOWF
   have HNW : Hid (∀ k, w1.heap.size ≤ k → A k) := fun k hk => HPL.out k (by have := HG.out.size; omega)
   have HPP : Hid (∀ q ∈ [pi, ph, pb], q < w1.heap.size) := fun q hq => by
    simp only [List.mem_cons, List.not_mem_nil, or_false] at hq
    have h1 := block_lt OI.out.blk; have h2 := block_lt OH.out.blk; have h3 := block_lt OB.out.blk; have h4 := HG.out.size
    omega
   have HAPP : Hid (∀ q ∈ [pi, ph, pb], A q) := fun q hq => (HA.out q).2 (.inl (by
    simp only [List.mem_cons, List.not_mem_nil, or_false] at hq
    have := HLTph.out; have := HLTpb.out
    omega))
   go_simp
   go_wp2_with (at_builtin; go_must (refine wpList_append_c rfl _ _ 25 rfl zph 27 i _ 5 72 Tryd.underlying25 hi hz0 hz1 hz2 rfl (by decide) (.slice (some ⟨gh, 0, none⟩) nn vh.ks.c) nn _ rfl HOWA.out _ (vh.ks.n - n1) _ (itmCells (vh.kids.drop n1)) rfl HRD1.out (itm_one _) HNO.out (by unfold maxLen; have := Lnn.out; have := HN1X.out; have := KH.out; omega) (by have := Lnn.out; have := HN1X.out; have := KH.out; omega) HZL.out ?_); intro a9 c9 w15 hown hgw hfr; have hpu := OA.out.pushed (m := nn) (ys := (vh.kids.drop n1)) (by rw [itm_app]; exact hown) (by rw [HEQ.out]; exact hgw) (by rw [HEQ.out]; exact hfr) HNW.out HPP.out (by simp) HAPP.out (fun y hy => OA.out.kids y (List.mem_of_mem_drop hy)); have HPU := hid hpu; have hq4 := cell_of_block (j := 4) HPU.out.1 (ar4 _); have hfz : ∀ j, w15.frozen? ⟨ph, j, none⟩ = false := (fun j => frozen_of_block HPU.out.1); clear hown hgw hfr hpu)
   go_meet
   have hgo : vh.ks.v.ownBlock = some gh := HEQ.out
   have hc : Chg [ph, gh] w14 (w15.setCell ⟨ph, 4, none⟩ (.slice a9 (nn + (vh.ks.n - n1)) c9)) := by
    have h := HPU.out.2.2
    rw [hgo] at h
    exact (Chg.of_below HG.out _).trans h (fun k hk => .inl (by simpa using hk))
   have hgA := OH.out.al gh hgo
   simp only [List.mem_cons, List.not_mem_nil, or_false, not_or] at hgA
   have h2 := LH.out _ hgo
   have := HBP.out; have := HLTph.out; have := HLTpb.out; have := HORD.out; have := HZI.out
   have hgen := GEN.out _ _ hc (fun k hk => by
    simp only [List.mem_cons, List.not_mem_nil, or_false] at hk
    rcases hk with rfl | rfl
    ·exact ⟨HAPP.out _ (by simp), by omega⟩
    ·exact ⟨hgA.1, by omega⟩)
   have hpi : pi ∉ [ph, gh] := fun hm => by
    simp only [List.mem_cons, List.not_mem_nil, or_false] at hm
    rcases hm with h | h
    ·omega
    ·exact hgA.2.1 h.symm
   have hoi : ∀ q, y.ks.v.ownBlock = some q → q ∉ [ph, gh] := fun q hq hm => by
    have h4 := OI.out.al q hq
    have h5 := HOL.out q hq
    simp only [List.mem_cons, List.not_mem_nil, or_false, not_or] at hm h4
    rcases hm with h3 | h3
    ·exact h4.2.2.1 h3
    ·omega
   have hpb : pb ∉ [ph, gh] := fun hm => by
    simp only [List.mem_cons, List.not_mem_nil, or_false] at hm
    rcases hm with h | h
    ·omega
    ·exact hgA.2.2.2 h.symm
   have hob : ∀ q, vb.ks.v.ownBlock = some q → q ∉ [ph, gh] := fun q hq hm => by
    have h4 := OB.out.al q hq
    have h5 := LB.out q hq
    simp only [List.mem_cons, List.not_mem_nil, or_false, not_or] at hm h4
    rcases hm with h3 | h3
    ·exact h4.2.2.1 h3
    ·omega
   exact ⟨y, _, vb, hgen.1, hgen.2.1 hpi hoi, HPU.out.2.1, hgen.2.2.2 hpb hob, by have := HYK.out; show 2 ≤ y.ks.n ∧ y.ks.n ≤ 1000; omega, by have := Lnn.out; have := HN1X.out; have := KH.out; show nn + (vh.ks.n - n1) ≤ 1000; omega, by have := KB.out; show vb.ks.n ≤ 1000; omega⟩
  have n1 : (pk == 1) = false := by simpa using e1
  by_cases e2 : pk = 2
  ·subst e2
   obtain ⟨b9, o9, x, h9, hx, hrow⟩ := (ItV.ok_iff.1 (OH.out.ok (by have := KH.out; omega))).2.1.row (k := nn) Lnn.out
   rw [HGH.out] at h9
   simp only [Option.some.injEq, Addr.mk.injEq, and_true] at h9
   obtain ⟨rfl, rfl⟩ := h9
   have c4 : w14.cell? ⟨ph, 4, none⟩ = some (.slice (some ⟨gh, 0, none⟩) vh.ks.n vh.ks.c) := by rw [← HGH.out]; exact cell_of_block (j := 4) OH.out.blk (ar4 vh)
   have hcc : w14.cell? ⟨gh, nn * 5 + 1, none⟩ = some (.int .i64 x.typ) := by have h := hrow 1 _ rfl; rwa [Nat.zero_add] at h
   have hcd : w14.cell? ⟨gh, 0 + nn * 5 + 1, none⟩ = some (.int .i64 x.typ) := hrow 1 _ rfl
   have hfg : ∀ j, w14.frozen? ⟨gh, j, none⟩ = false := fun j => own_frozen (by have h := OH.out.own; rw [HGH.out] at h; exact h) j
   have hl : nn < vh.ks.n := Lnn.out
   have hl2 : (nn : Int) < (vh.ks.n : Int) := by omega
   have HX := hid hx
   clear hx hrow
   go_wp2_with fail
   go_meet
   have hgo : vh.ks.v.ownBlock = some gh := by rw [show vh.ks.v = Value.slice vh.ks.a vh.ks.n vh.ks.c from rfl, HGH.out]; rfl
   obtain ⟨h1, hc, hA, hP⟩ := OH.out.setKid HGH.out (k := nn) (j := 1) (x := x) (y := { x with typ := 3 }) (u := .int .i64 3) (by simp) HX.out (by decide) rfl (fun w h => ob_ok _ _ _ h) (fun k hk => ob_foot _ _ _ hk) (fun h => ob_footN _ _ _ h)
   simp only [List.mem_cons, List.not_mem_nil, or_false, not_or] at hP
   have hG : ∀ k ∈ [gh], A k ∧ b + 2 ≤ k := fun k hk => by
    rw [List.mem_singleton.1 hk]
    refine ⟨hA, ?_⟩
    have h2 := LH.out _ hgo
    have := HBP.out; have := HLTph.out; have := HLTpb.out; omega
   have hpi : pi ∉ [gh] := fun hm => hP.1 (List.mem_singleton.1 hm).symm
   have hpo : pb ∉ [gh] := fun hm => hP.2.2 (List.mem_singleton.1 hm).symm
   have hoi : ∀ q, y.ks.v.ownBlock = some q → q ∉ [gh] := fun q hq hm => by
    have h1 := (HOL.out q hq).2; have h2 := LH.out _ hgo; have h3 := List.mem_singleton.1 hm
    have := HLTph.out; have := HLTpb.out; omega
   have ho2 : ∀ q, vb.ks.v.ownBlock = some q → q ∉ [gh] := fun q hq hm => by
    have h3 := List.mem_singleton.1 hm
    have h1 := LB.out q hq; have h2 := LH.out gh hgo; omega
   exact ⟨y, _, vb, (GEN.out _ _ hc hG).1, (GEN.out _ _ hc hG).2.1 hpi hoi, h1, (GEN.out _ _ hc hG).2.2.2 hpo ho2, by have := HYK.out; show 2 ≤ y.ks.n ∧ y.ks.n ≤ 1000; omega, by have := KH.out; show vh.ks.n ≤ 1000; omega, by have := KB.out; omega⟩
  have n2 : (pk == 2) = false := by simpa using e2
  by_cases e3 : pk = 3
  ·subst e3
   obtain ⟨n1, hn1⟩ : ∃ m, m = mm + 1 := ⟨_, rfl⟩
   have HN1X := hid hn1
   have HSF := hid (fun w => run_slice_front (P := Tryd.prog) 25 27 5 Tryd.underlying25 (fun w => by kernel_rfl) (some (⟨gb, 0, none⟩ : Addr)) vb.ks.n vb.ks.c mm (by have := Lmm.out; have := HBC.out; omega) w)
   obtain ⟨a2, ha2⟩ : ∃ a2 : Option Addr, (if vb.ks.c = n1 then (some (⟨gb, 0, none⟩ : Addr)) else (some (⟨gb, 0, none⟩ : Addr)).map (·.add (n1 * 5))) = a2 := ⟨_, rfl⟩
   have HSB := hid (fun w => run_slice_back (P := Tryd.prog) 25 27 5 Tryd.underlying25 (fun w => by kernel_rfl) (some (⟨gb, 0, none⟩ : Addr)) vb.ks.n vb.ks.c n1 (by have := Lmm.out; omega) w)
   rw [ha2] at HSB
   have hks := (ItV.ok_iff.1 (OB.out.ok (by have := KB.out; omega))).2.1
   have hrd := rdC_drop (k := n1) hks.rd hks.nc (by have := Lmm.out; omega)
   rw [HGB.out, ha2, itm_drop] at hrd
   have HRD := hid hrd
   have HNO : Hid (a2 = none → vb.ks.c - n1 = 0) := fun hn => by
    rw [← ha2] at hn
    split at hn <;> simp at hn
   have HWR : Hid (IntKind.i64.wrap ((mm : Int) + 1) = (n1 : Int)) := (IntWalk.i64_in _ (by have := Lmm.out; have := KB.out; omega)).trans (by omega)
   clear hks hrd ha2 hn1
   have HC4 : Hid (∀ w', Below w14.heap.size w14 w' → w'.cell? ⟨pb, 4, none⟩ = some (.slice (some ⟨gb, 0, none⟩) vb.ks.n vb.ks.c)) := fun w' hb => by rw [← HGB.out]; exact cell_of_block (j := 4) ((OB.out.below hb).blk) (ar4 vb)
   go_upto_region 17 with (fail)
   refine wp_region_each 9 [.eq (.pointer (some ⟨pb, 4, none⟩)), .eq (.slice (some ⟨gb, 0, none⟩) vb.ks.n vb.ks.c), .eq (.int .i64 mm), .eq (.slice (some ⟨gb, 0, none⟩) mm vb.ks.c), .eq (.pointer (some ⟨pb, 4, none⟩)), .eq (.slice (some ⟨gb, 0, none⟩) vb.ks.n vb.ks.c), .eq (.int .i64 mm), .eq (.int .i64 (n1 : Int)), .eq (.slice a2 (vb.ks.n - n1) (vb.ks.c - n1))] (by kernel_rfl) (by kernel_rfl) (by kernel_rfl) (by kernel_rfl) ?_ ?_
   ·all_goals
     refine each_5 ?_ ?_ ?_ ?_ ?_ (each_c ?_ (each_c ?_ (each_c ?_ (each_c ?_ (each_n)))))
     ·intro w1 hg Ar seen
      have s14 := seen.sl 14 (.pointer (some ⟨pb, 0, none⟩))
      refine does_plain rfl fun K Q' hK => ?_
      go_simp; exact hK _ _ (Grow.refl _) rfl
     ·intro w1 hg Ar seen
      have e0 := seen.de 0 89
      refine does_plain rfl fun K Q' hK => ?_
      have hc := HC4.out _ hg
      go_simp; exact hK _ _ (Grow.refl _) rfl
     ·intro w1 hg Ar seen
      have s16 := seen.sl 16 (.int .i64 mm)
      refine does_plain rfl fun K Q' hK => ?_
      go_simp; exact hK _ _ (Grow.refl _) rfl
     ·intro w1 hg Ar seen
      have e1 := seen.de 1 90
      have e2 := seen.de 2 91
      refine does_plain rfl fun K Q' hK => ?_
      have hsl := HSF.out
      go_simp; exact hK _ _ (Grow.refl _) rfl
     ·intro w1 hg Ar seen
      have s14 := seen.sl 14 (.pointer (some ⟨pb, 0, none⟩))
      refine does_plain rfl fun K Q' hK => ?_
      go_simp; exact hK _ _ (Grow.refl _) rfl
     ·intro w1 hg Ar seen
      have e4 := seen.de 4 93
      refine does_plain rfl fun K Q' hK => ?_
      have hc := HC4.out _ hg
      go_simp; exact hK _ _ (Grow.refl _) rfl
     ·intro w1 hg Ar seen
      have s16 := seen.sl 16 (.int .i64 mm)
      refine does_plain rfl fun K Q' hK => ?_
      go_simp; exact hK _ _ (Grow.refl _) rfl
     ·intro w1 hg Ar seen
      have e6 := seen.de 6 95
      refine does_plain rfl fun K Q' hK => ?_
      have hs := HWR.out
      go_simp; exact hK _ _ (Grow.refl _) rfl
     ·intro w1 hg Ar seen
      have e5 := seen.de 5 94
      have e7 := seen.de 7 96
      refine does_plain rfl fun K Q' hK => ?_
      have hsl := HSB.out
      go_simp; exact hK _ _ (Grow.refl _) rfl
   intro w1 hg
   refine upon_w' (js := [0, 1, 2, 3, 4, 5, 6, 7, 8]) (by rfl) ?_
   refine upon_e (some 89) (upon_e (some 90) (upon_e (some 91) (upon_e (some 92) (upon_e (some 93) (upon_e (some 94) (upon_e (some 95) (upon_e (some 96) (upon_e (some 97) (upon_n ?_)))))))))
   have HG : Hid (Below w14.heap.size w14 w1) := hg
   have HRD1 := hid (HRD.out.below HG.out)
   clear hg HC4 HRD HSF HSB HWR
   have OA := hid (OB.out.below HG.out)
   have HEQ : Hid (vb.ks.v.ownBlock = some gb) := by show _ = _; rw [show vb.ks.v = Value.slice vb.ks.a vb.ks.n vb.ks.c from rfl, HGB.out]; rfl
   have HOWF : Hid ((w1).ownsRow zpb 27 5 (.slice (some ⟨gb, 0, none⟩) vb.ks.n vb.ks.c) vb.ks.n (itmCells vb.kids)) := by have h := OA.out.own; rw [HGB.out] at h; exact h
   have HZL : Hid (zpb ≤ (w1).heap.size) := by show zpb ≤ _; have h := HOWF.out.lt gb rfl; omega
   have HLEN : Hid (vb.kids.length = vb.ks.n) := (ItV.ok_iff.1 (OB.out.ok (by have := KB.out; omega))).2.1.klen
   have HOWA : Hid ((w1).ownsRow zpb 27 5 (.slice (some ⟨gb, 0, none⟩) mm vb.ks.c) mm (itmCells (vb.kids.take mm))) := by
    have h := own_take (k := mm) HOWF.out (by have := Lmm.out; have := HN1X.out; omega)
    rw [itm_take] at h
    exact h
   clear HOWF
   have HNW : Hid (∀ k, w1.heap.size ≤ k → A k) := fun k hk => HPL.out k (by have := HG.out.size; omega)
   have HPP : Hid (∀ q ∈ [pi, ph, pb], q < w1.heap.size) := fun q hq => by
    simp only [List.mem_cons, List.not_mem_nil, or_false] at hq
    have h1 := block_lt OI.out.blk; have h2 := block_lt OH.out.blk; have h3 := block_lt OB.out.blk; have h4 := HG.out.size
    omega
   have HAPP : Hid (∀ q ∈ [pi, ph, pb], A q) := fun q hq => (HA.out q).2 (.inl (by
    simp only [List.mem_cons, List.not_mem_nil, or_false] at hq
    have := HLTph.out; have := HLTpb.out
    omega))
   go_simp
   go_wp2_with (at_builtin; go_must (refine wpList_append_c rfl _ _ 25 rfl zpb 27 i _ 5 72 Tryd.underlying25 hi hz0 hz1 hz2 rfl (by decide) (.slice (some ⟨gb, 0, none⟩) mm vb.ks.c) mm _ rfl HOWA.out _ (vb.ks.n - n1) _ (itmCells (vb.kids.drop n1)) rfl HRD1.out (itm_one _) HNO.out (by unfold maxLen; have := Lmm.out; have := HN1X.out; have := KB.out; omega) (by have := Lmm.out; have := HN1X.out; have := KB.out; omega) HZL.out ?_); intro a9 c9 w15 hown hgw hfr; have hpu := OA.out.pushed (m := mm) (ys := (vb.kids.drop n1)) (by rw [itm_app]; exact hown) (by rw [HEQ.out]; exact hgw) (by rw [HEQ.out]; exact hfr) HNW.out HPP.out (by simp) HAPP.out (fun y hy => OA.out.kids y (List.mem_of_mem_drop hy)); have HPU := hid hpu; have hq4 := cell_of_block (j := 4) HPU.out.1 (ar4 _); have hfz : ∀ j, w15.frozen? ⟨pb, j, none⟩ = false := (fun j => frozen_of_block HPU.out.1); clear hown hgw hfr hpu)
   go_meet
   have hgo : vb.ks.v.ownBlock = some gb := HEQ.out
   have hc : Chg [pb, gb] w14 (w15.setCell ⟨pb, 4, none⟩ (.slice a9 (mm + (vb.ks.n - n1)) c9)) := by
    have h := HPU.out.2.2
    rw [hgo] at h
    exact (Chg.of_below HG.out _).trans h (fun k hk => .inl (by simpa using hk))
   have hgA := OB.out.al gb hgo
   simp only [List.mem_cons, List.not_mem_nil, or_false, not_or] at hgA
   have h2 := LB.out _ hgo
   have := HBP.out; have := HLTph.out; have := HLTpb.out; have := HORD.out; have := HZI.out
   have hgen := GEN.out _ _ hc (fun k hk => by
    simp only [List.mem_cons, List.not_mem_nil, or_false] at hk
    rcases hk with rfl | rfl
    ·exact ⟨HAPP.out _ (by simp), by omega⟩
    ·exact ⟨hgA.1, by omega⟩)
   have hpi : pi ∉ [pb, gb] := fun hm => by
    simp only [List.mem_cons, List.not_mem_nil, or_false] at hm
    rcases hm with h | h
    ·omega
    ·exact hgA.2.1 h.symm
   have hoi : ∀ q, y.ks.v.ownBlock = some q → q ∉ [pb, gb] := fun q hq hm => by
    have h4 := OI.out.al q hq
    have h5 := HOL.out q hq
    simp only [List.mem_cons, List.not_mem_nil, or_false, not_or] at hm h4
    rcases hm with h3 | h3
    ·exact h4.2.2.2 h3
    ·omega
   have hph : ph ∉ [pb, gb] := fun hm => by
    simp only [List.mem_cons, List.not_mem_nil, or_false] at hm
    rcases hm with h | h
    ·omega
    ·exact hgA.2.2.1 h.symm
   have hoh : ∀ q, vh.ks.v.ownBlock = some q → q ∉ [pb, gb] := fun q hq hm => by
    have h4 := OH.out.al q hq
    have h5 := LH.out q hq
    simp only [List.mem_cons, List.not_mem_nil, or_false, not_or] at hm h4
    rcases hm with h3 | h3
    ·exact h4.2.2.2 h3
    ·omega
   exact ⟨y, vh, _, hgen.1, hgen.2.1 hpi hoi, hgen.2.2.1 hph hoh, HPU.out.2.1, by have := HYK.out; show 2 ≤ y.ks.n ∧ y.ks.n ≤ 1000; omega, by have := KH.out; show vh.ks.n ≤ 1000; omega, by have := Lmm.out; have := HN1X.out; have := KB.out; show mm + (vb.ks.n - n1) ≤ 1000; omega⟩
  have n3 : (pk == 3) = false := by simpa using e3
  by_cases e4 : pk = 4
  ·subst e4
   obtain ⟨b9, o9, x, h9, hx, hrow⟩ := (ItV.ok_iff.1 (OB.out.ok (by have := KB.out; omega))).2.1.row (k := mm) Lmm.out
   rw [HGB.out] at h9
   simp only [Option.some.injEq, Addr.mk.injEq, and_true] at h9
   obtain ⟨rfl, rfl⟩ := h9
   have c4 : w14.cell? ⟨pb, 4, none⟩ = some (.slice (some ⟨gb, 0, none⟩) vb.ks.n vb.ks.c) := by rw [← HGB.out]; exact cell_of_block (j := 4) OB.out.blk (ar4 vb)
   have hcc : w14.cell? ⟨gb, mm * 5, none⟩ = some (.int .i64 x.tag) := by have h := hrow 0 _ rfl; simpa using h
   have hcd : w14.cell? ⟨gb, 0 + mm * 5, none⟩ = some (.int .i64 x.tag) := hrow 0 _ rfl
   have hfg : ∀ j, w14.frozen? ⟨gb, j, none⟩ = false := fun j => own_frozen (by have h := OB.out.own; rw [HGB.out] at h; exact h) j
   have hl : mm < vb.ks.n := Lmm.out
   have hl2 : (mm : Int) < (vb.ks.n : Int) := by omega
   have HX := hid hx
   clear hx hrow
   go_wp2_with fail
   go_meet
   have hgo : vb.ks.v.ownBlock = some gb := by rw [show vb.ks.v = Value.slice vb.ks.a vb.ks.n vb.ks.c from rfl, HGB.out]; rfl
   obtain ⟨h1, hc, hA, hP⟩ := OB.out.setKid HGB.out (k := mm) (j := 0) (x := x) (y := { x with tag := wrap64 (x.tag + 1) }) (u := .int .i64 (wrap64 (x.tag + 1))) (by simp) HX.out (by decide) rfl (fun w h => ob_ok _ _ _ h) (fun k hk => ob_foot _ _ _ hk) (fun h => ob_footN _ _ _ h)
   simp only [List.mem_cons, List.not_mem_nil, or_false, not_or] at hP
   have hG : ∀ k ∈ [gb], A k ∧ b + 2 ≤ k := fun k hk => by
    rw [List.mem_singleton.1 hk]
    refine ⟨hA, ?_⟩
    have h2 := LB.out _ hgo
    have := HBP.out; have := HLTph.out; have := HLTpb.out; omega
   have hpi : pi ∉ [gb] := fun hm => hP.1 (List.mem_singleton.1 hm).symm
   have hpo : ph ∉ [gb] := fun hm => hP.2.1 (List.mem_singleton.1 hm).symm
   have hoi : ∀ q, y.ks.v.ownBlock = some q → q ∉ [gb] := fun q hq hm => by
    have h1 := (HOL.out q hq).2; have h2 := LB.out _ hgo; have h3 := List.mem_singleton.1 hm
    have := HLTph.out; have := HLTpb.out; omega
   have ho2 : ∀ q, vh.ks.v.ownBlock = some q → q ∉ [gb] := fun q hq hm => by
    have h3 := List.mem_singleton.1 hm
    have h1 := LH.out q hq; have h2 := LB.out gb hgo; omega
   exact ⟨y, vh, _, (GEN.out _ _ hc hG).1, (GEN.out _ _ hc hG).2.1 hpi hoi, (GEN.out _ _ hc hG).2.2.1 hpo ho2, h1, by have := HYK.out; show 2 ≤ y.ks.n ∧ y.ks.n ≤ 1000; omega, by have := KH.out; omega, by have := KB.out; show vb.ks.n ≤ 1000; omega⟩
  have n4 : (pk == 4) = false := by simpa using e4
  by_cases e5 : pk = 5
  ·subst e5
   have c4 : w14.cell? ⟨ph, 4, none⟩ = some (.slice (some ⟨gh, 0, none⟩) vh.ks.n vh.ks.c) := by rw [← HGH.out]; exact cell_of_block (j := 4) OH.out.blk (ar4 vh)
   have hbe : Below w14.heap.size w14 (w14.alloc (.cells v.arr 27)) := (Below.refl _ _).alloc (Nat.le_refl _) _
   have c4' := cell_later hbe c4
   have OA := hid (OH.out.below hbe)
   have VA := hid (show v.ok (w14.alloc (.cells v.arr 27)) ∧ (∀ k ∈ v.foot, ¬ A k) ∧ b + 1 ∉ v.footN from ⟨HV.out.below hbe, HAV.out, fun hm => by have := HVL.out _ (footN_sub _ _ hm); omega⟩)
   have HEQ : Hid (vh.ks.v.ownBlock = (Value.slice (some ⟨gh, 0, none⟩) vh.ks.n vh.ks.c).ownBlock) := by show _ = _; rw [show vh.ks.v = Value.slice vh.ks.a vh.ks.n vh.ks.c from rfl, HGH.out]
   have HOWA := hid (show (w14.alloc (.cells v.arr 27)).ownsRow zph 27 5 (.slice (some ⟨gh, 0, none⟩) vh.ks.n vh.ks.c) vh.ks.n (itmCells vh.kids) by have h := OA.out.own; rw [HGH.out] at h; exact h)
   have HZL : Hid (zph ≤ (w14.alloc (.cells v.arr 27)).heap.size) := by show zph ≤ _; have h := HOWA.out.lt gh rfl; omega
   have HLEN : Hid (vh.kids.length = vh.ks.n) := (ItV.ok_iff.1 (OH.out.ok (by have := KH.out; omega))).2.1.klen
   have HNW : Hid (∀ k, (w14.alloc (.cells v.arr 27)).heap.size ≤ k → A k) := fun k hk => HPL.out k (by simp at hk; omega)
   have HPP : Hid (∀ q ∈ [pi, ph, pb], q < (w14.alloc (.cells v.arr 27)).heap.size) := fun q hq => by
    simp only [List.mem_cons, List.not_mem_nil, or_false] at hq
    have h1 := block_lt OI.out.blk; have h2 := block_lt OH.out.blk; have h3 := block_lt OB.out.blk
    simp; omega
   have HAPP : Hid (∀ q ∈ [pi, ph, pb], A q) := fun q hq => (HA.out q).2 (.inl (by
    simp only [List.mem_cons, List.not_mem_nil, or_false] at hq
    have := HLTph.out; have := HLTpb.out; omega))
   clear hbe
   go_wp2_with (first | (refine wpList_load_row rfl 27 _ rfl b rfl _ _ _ _ B.out.box Tryd.underlying27 rfl iSize ?_) | (refine wpList_build_item rfl 25 27 _ rfl v rfl i Tryd.underlying25 hi hz0 hz1 ?_) | (at_builtin; go_must (refine wpList_append_c rfl _ _ 25 rfl zph 27 i _ 5 72 Tryd.underlying25 hi hz0 hz1 hz2 rfl (by decide) (.slice (some ⟨gh, 0, none⟩) vh.ks.n vh.ks.c) vh.ks.n _ rfl HOWA.out _ 1 _ v.cells rfl (RdC.new _ _ _ _ v.cells (by simp [ItV.cells]) 5 rfl _ rfl) (by have := itm_one [v]; simpa [itmCells] using this) (fun hx => by cases hx) (by unfold maxLen; have := KH.out; omega) (by have := KH.out; omega) HZL.out ?_); intro a9 c9 w15 hown hgw hfr; have hpu := OA.out.pushed (m := vh.ks.n) (ys := [v]) (by rw [List.take_of_length_le (Nat.le_of_eq HLEN.out), itm_app]; simpa [itmCells] using hown) (by rw [HEQ.out]; exact hgw) (by rw [HEQ.out]; exact hfr) HNW.out HPP.out (by simp) HAPP.out (fun y hy => by rw [List.mem_singleton.1 hy]; exact VA.out); have HPU := hid hpu; have hq4 := cell_of_block (j := 4) HPU.out.1 (ar4 _); have hfz : ∀ j, w15.frozen? ⟨ph, j, none⟩ = false := (fun j => frozen_of_block HPU.out.1); clear hown hgw hfr hpu c4 c4'))
   have HG : Hid (Below w14.heap.size w14 (w14.alloc (.cells v.arr 27))) := (Below.refl _ _).alloc (Nat.le_refl _) _
   go_meet
   have hgo : vh.ks.v.ownBlock = some gh := HEQ.out
   have hc : Chg [ph, gh] w14 (w15.setCell ⟨ph, 4, none⟩ (.slice a9 (vh.ks.n + 1) c9)) := by
    have h := HPU.out.2.2
    rw [hgo] at h
    exact (Chg.of_below HG.out _).trans h (fun k hk => .inl (by simpa using hk))
   have hgA := OH.out.al gh hgo
   simp only [List.mem_cons, List.not_mem_nil, or_false, not_or] at hgA
   have h2 := LH.out _ hgo
   have := HBP.out; have := HLTph.out; have := HLTpb.out; have := HORD.out; have := HZI.out
   have hgen := GEN.out _ _ hc (fun k hk => by
    simp only [List.mem_cons, List.not_mem_nil, or_false] at hk
    rcases hk with rfl | rfl
    ·exact ⟨HAPP.out _ (by simp), by omega⟩
    ·exact ⟨hgA.1, by omega⟩)
   have hpi : pi ∉ [ph, gh] := fun hm => by
    simp only [List.mem_cons, List.not_mem_nil, or_false] at hm
    rcases hm with h | h
    ·omega
    ·exact hgA.2.1 h.symm
   have hoi : ∀ q, y.ks.v.ownBlock = some q → q ∉ [ph, gh] := fun q hq hm => by
    have h4 := OI.out.al q hq
    have h5 := HOL.out q hq
    simp only [List.mem_cons, List.not_mem_nil, or_false, not_or] at hm h4
    rcases hm with h3 | h3
    ·exact h4.2.2.1 h3
    ·omega
   have hpb : pb ∉ [ph, gh] := fun hm => by
    simp only [List.mem_cons, List.not_mem_nil, or_false] at hm
    rcases hm with h | h
    ·omega
    ·exact hgA.2.2.2 h.symm
   have hob : ∀ q, vb.ks.v.ownBlock = some q → q ∉ [ph, gh] := fun q hq hm => by
    have h4 := OB.out.al q hq
    have h5 := LB.out q hq
    simp only [List.mem_cons, List.not_mem_nil, or_false, not_or] at hm h4
    rcases hm with h3 | h3
    ·exact h4.2.2.1 h3
    ·omega
   exact ⟨y, _, vb, hgen.1, hgen.2.1 hpi hoi, HPU.out.2.1, hgen.2.2.2 hpb hob, by have := HYK.out; show 2 ≤ y.ks.n ∧ y.ks.n ≤ 1000; omega, by have := KH.out; show vh.ks.n + 1 ≤ 1000; omega, by have := KB.out; show vb.ks.n ≤ 1000; omega⟩
  have n5 : (pk == 5) = false := by simpa using e5
  by_cases e6 : pk = 6
  ·subst e6
   have c4 : w14.cell? ⟨pb, 4, none⟩ = some (.slice (some ⟨gb, 0, none⟩) vb.ks.n vb.ks.c) := by rw [← HGB.out]; exact cell_of_block (j := 4) OB.out.blk (ar4 vb)
   have hbe : Below w14.heap.size w14 (w14.alloc (.cells v.arr 27)) := (Below.refl _ _).alloc (Nat.le_refl _) _
   have c4' := cell_later hbe c4
   have OA := hid (OB.out.below hbe)
   have VA := hid (show v.ok (w14.alloc (.cells v.arr 27)) ∧ (∀ k ∈ v.foot, ¬ A k) ∧ b + 1 ∉ v.footN from ⟨HV.out.below hbe, HAV.out, fun hm => by have := HVL.out _ (footN_sub _ _ hm); omega⟩)
   have HEQ : Hid (vb.ks.v.ownBlock = (Value.slice (some ⟨gb, 0, none⟩) vb.ks.n vb.ks.c).ownBlock) := by show _ = _; rw [show vb.ks.v = Value.slice vb.ks.a vb.ks.n vb.ks.c from rfl, HGB.out]
   have HOWA := hid (show (w14.alloc (.cells v.arr 27)).ownsRow zpb 27 5 (.slice (some ⟨gb, 0, none⟩) vb.ks.n vb.ks.c) vb.ks.n (itmCells vb.kids) by have h := OA.out.own; rw [HGB.out] at h; exact h)
   have HZL : Hid (zpb ≤ (w14.alloc (.cells v.arr 27)).heap.size) := by show zpb ≤ _; have h := HOWA.out.lt gb rfl; omega
   have HLEN : Hid (vb.kids.length = vb.ks.n) := (ItV.ok_iff.1 (OB.out.ok (by have := KB.out; omega))).2.1.klen
   have HNW : Hid (∀ k, (w14.alloc (.cells v.arr 27)).heap.size ≤ k → A k) := fun k hk => HPL.out k (by simp at hk; omega)
   have HPP : Hid (∀ q ∈ [pi, ph, pb], q < (w14.alloc (.cells v.arr 27)).heap.size) := fun q hq => by
    simp only [List.mem_cons, List.not_mem_nil, or_false] at hq
    have h1 := block_lt OI.out.blk; have h2 := block_lt OH.out.blk; have h3 := block_lt OB.out.blk
    simp; omega
   have HAPP : Hid (∀ q ∈ [pi, ph, pb], A q) := fun q hq => (HA.out q).2 (.inl (by
    simp only [List.mem_cons, List.not_mem_nil, or_false] at hq
    have := HLTph.out; have := HLTpb.out; omega))
   clear hbe
   go_wp2_with (first | (refine wpList_load_row rfl 27 _ rfl b rfl _ _ _ _ B.out.box Tryd.underlying27 rfl iSize ?_) | (refine wpList_build_item rfl 25 27 _ rfl v rfl i Tryd.underlying25 hi hz0 hz1 ?_) | (at_builtin; go_must (refine wpList_append_c rfl _ _ 25 rfl zpb 27 i _ 5 72 Tryd.underlying25 hi hz0 hz1 hz2 rfl (by decide) (.slice (some ⟨gb, 0, none⟩) vb.ks.n vb.ks.c) vb.ks.n _ rfl HOWA.out _ 1 _ v.cells rfl (RdC.new _ _ _ _ v.cells (by simp [ItV.cells]) 5 rfl _ rfl) (by have := itm_one [v]; simpa [itmCells] using this) (fun hx => by cases hx) (by unfold maxLen; have := KB.out; omega) (by have := KB.out; omega) HZL.out ?_); intro a9 c9 w15 hown hgw hfr; have hpu := OA.out.pushed (m := vb.ks.n) (ys := [v]) (by rw [List.take_of_length_le (Nat.le_of_eq HLEN.out), itm_app]; simpa [itmCells] using hown) (by rw [HEQ.out]; exact hgw) (by rw [HEQ.out]; exact hfr) HNW.out HPP.out (by simp) HAPP.out (fun y hy => by rw [List.mem_singleton.1 hy]; exact VA.out); have HPU := hid hpu; have hq4 := cell_of_block (j := 4) HPU.out.1 (ar4 _); have hfz : ∀ j, w15.frozen? ⟨pb, j, none⟩ = false := (fun j => frozen_of_block HPU.out.1); clear hown hgw hfr hpu c4 c4'))
   have HG : Hid (Below w14.heap.size w14 (w14.alloc (.cells v.arr 27))) := (Below.refl _ _).alloc (Nat.le_refl _) _
   go_meet
   have hgo : vb.ks.v.ownBlock = some gb := HEQ.out
   have hc : Chg [pb, gb] w14 (w15.setCell ⟨pb, 4, none⟩ (.slice a9 (vb.ks.n + 1) c9)) := by
    have h := HPU.out.2.2
    rw [hgo] at h
    exact (Chg.of_below HG.out _).trans h (fun k hk => .inl (by simpa using hk))
   have hgA := OB.out.al gb hgo
   simp only [List.mem_cons, List.not_mem_nil, or_false, not_or] at hgA
   have h2 := LB.out _ hgo
   have := HBP.out; have := HLTph.out; have := HLTpb.out; have := HORD.out; have := HZI.out
   have hgen := GEN.out _ _ hc (fun k hk => by
    simp only [List.mem_cons, List.not_mem_nil, or_false] at hk
    rcases hk with rfl | rfl
    ·exact ⟨HAPP.out _ (by simp), by omega⟩
    ·exact ⟨hgA.1, by omega⟩)
   have hpi : pi ∉ [pb, gb] := fun hm => by
    simp only [List.mem_cons, List.not_mem_nil, or_false] at hm
    rcases hm with h | h
    ·omega
    ·exact hgA.2.1 h.symm
   have hoi : ∀ q, y.ks.v.ownBlock = some q → q ∉ [pb, gb] := fun q hq hm => by
    have h4 := OI.out.al q hq
    have h5 := HOL.out q hq
    simp only [List.mem_cons, List.not_mem_nil, or_false, not_or] at hm h4
    rcases hm with h3 | h3
    ·exact h4.2.2.2 h3
    ·omega
   have hph : ph ∉ [pb, gb] := fun hm => by
    simp only [List.mem_cons, List.not_mem_nil, or_false] at hm
    rcases hm with h | h
    ·omega
    ·exact hgA.2.2.1 h.symm
   have hoh : ∀ q, vh.ks.v.ownBlock = some q → q ∉ [pb, gb] := fun q hq hm => by
    have h4 := OH.out.al q hq
    have h5 := LH.out q hq
    simp only [List.mem_cons, List.not_mem_nil, or_false, not_or] at hm h4
    rcases hm with h3 | h3
    ·exact h4.2.2.2 h3
    ·omega
   exact ⟨y, vh, _, hgen.1, hgen.2.1 hpi hoi, hgen.2.2.1 hph hoh, HPU.out.2.1, by have := HYK.out; show 2 ≤ y.ks.n ∧ y.ks.n ≤ 1000; omega, by have := KH.out; show vh.ks.n ≤ 1000; omega, by have := KB.out; show vb.ks.n + 1 ≤ 1000; omega⟩
  have n6 : (pk == 6) = false := by simpa using e6
  by_cases e7 : pk = 7
  ·subst e7
   have c0 : w14.cell? ⟨pi, 0, none⟩ = some (.int .i64 y.tag) := cell_of_block (j := 0) OI.out.blk (ar0 y)
   have hfz : ∀ j, w14.frozen? ⟨pi, j, none⟩ = false := fun j => frozen_of_block OI.out.blk
   go_wp2_with fail
   go_meet
   obtain ⟨h1, h2⟩ := OI.out.setTag (by simp) ((HA.out pi).2 (.inl (Nat.le_refl _))) 4325499
   obtain ⟨k1, k2, k3⟩ := KEEPP.out _ _ h2 (.inl rfl)
   exact ⟨_, vh, vb, k1, h1, k2 (by simp; have := HLTph.out; omega) (fun k hk hm => (OH.out.al k hk).2 (by rw [List.mem_singleton.1 hm]; simp)), k3 (by simp; have := HLTpb.out; omega) (fun k hk hm => (OB.out.al k hk).2 (by rw [List.mem_singleton.1 hm]; simp)), by have := HYK.out; show 2 ≤ y.ks.n ∧ y.ks.n ≤ 1000; omega, by have := KH.out; omega, by have := KB.out; omega⟩
  have n7 : (pk == 7) = false := by simpa using e7
  by_cases e8 : pk = 8
  ·subst e8
   obtain ⟨hic, -, his⟩ := own_slice OI.out.own
   obtain ⟨gi, hgi, -, -⟩ := his (by have := HYK.out; omega)
   have HGI := hid hgi
   clear hic his hgi
   obtain ⟨b9, o9, x, h9, hx, hrow⟩ := (ItV.ok_iff.1 (OI.out.ok (by have := HYK.out; omega))).2.1.row (k := 0) (by have := HYK.out; omega)
   rw [HGI.out] at h9
   simp only [Option.some.injEq, Addr.mk.injEq, and_true] at h9
   obtain ⟨rfl, rfl⟩ := h9
   have HROW := hid hrow
   have HX : Hid (x ∈ y.kids) := List.mem_of_getElem? hx
   have HIN : Hid (0 < y.ks.n) := by have := HYK.out; show 0 < _; omega
   clear hx hrow
   have HC4 : Hid (∀ w', Below w14.heap.size w14 w' → w'.cell? ⟨pi, 4, none⟩ = some (.slice (some ⟨gi, 0, none⟩) y.ks.n y.ks.c)) := fun w' hb => by rw [← HGI.out]; exact cell_of_block (j := 4) ((OI.out.below hb).blk) (ar4 y)
   go_upto_region 27 with (fail)
   refine wp_region_each 7 [.eq (.pointer (some ⟨pi, 4, none⟩)), .eq (.slice (some ⟨gi, 0, none⟩) y.ks.n y.ks.c), .eq (.pointer (some ⟨pi, 4, none⟩)), .eq (.slice (some ⟨gi, 0, none⟩) y.ks.n y.ks.c), .eq (.pointer (some ⟨gi, 0, none⟩)), .eq (.agg x.arr), stItV [x]] (by kernel_rfl) (by kernel_rfl) (by kernel_rfl) (by kernel_rfl) ?_ ?_
   ·all_goals
     refine each_5 ?_ ?_ ?_ ?_ ?_ (each_c ?_ (each_c ?_ (each_n)))
     ·intro w1 hg Ar seen
      have s12 := seen.sl 12 (.pointer (some ⟨pi, 0, none⟩))
      refine does_plain rfl fun K Q' hK => ?_
      go_simp; exact hK _ _ (Grow.refl _) rfl
     ·intro w1 hg Ar seen
      have e0 := seen.de 0 132
      refine does_plain rfl fun K Q' hK => ?_
      have hc := HC4.out _ hg
      go_simp; exact hK _ _ (Grow.refl _) rfl
     ·intro w1 hg Ar seen
      have s12 := seen.sl 12 (.pointer (some ⟨pi, 0, none⟩))
      refine does_plain rfl fun K Q' hK => ?_
      go_simp; exact hK _ _ (Grow.refl _) rfl
     ·intro w1 hg Ar seen
      have e2 := seen.de 2 134
      refine does_plain rfl fun K Q' hK => ?_
      have hc := HC4.out _ hg
      go_simp; exact hK _ _ (Grow.refl _) rfl
     ·intro w1 hg Ar seen
      have e3 := seen.de 3 135
      refine does_plain rfl fun K Q' hK => ?_
      have hn := HIN.out
      go_simp; exact hK _ _ (Grow.refl _) rfl
     ·intro w1 hg Ar seen
      have e4 := seen.de 4 136
      refine does_plain rfl fun K Q' hK => ?_
      refine wp_load_mid 27 _ rfl gi 0 (by simp [Act.eval, e4]) x.arr.toList _ (by have h := range_later hg HROW.out; simp only [Nat.zero_mul, Nat.add_zero] at h; exact h) Tryd.underlying27 rfl iSize ?_
      simp only [Array.toArray_toList]
      exact hK _ _ (Grow.refl _) rfl
     ·intro w1 hg Ar seen
      have e5 := seen.de 5 137
      refine does_plain rfl fun K Q' hK => ?_
      refine wp_build_items 25 27 1 _ rfl [x] rfl (by decide) (by decide) (by simp [Act.eval, e5] <;> rfl) x.arr (by simp [itmCells, ItV.cells]) i Tryd.underlying25 hi hz0 hz1 (fill1 x) (fun s hs => hK _ _ ((Below.refl _ _).alloc (Nat.le_refl _) _) ⟨s, rfl, hs.klen.symm, hs⟩)
   intro w1 hg
   refine upon_w' (js := [0, 1, 2, 3, 4, 5, 6]) (by rfl) ?_
   refine upon_e (some 132) (upon_e (some 133) (upon_e (some 134) (upon_e (some 135) (upon_e (some 136) (upon_e (some 137) (upon_v (some 138) fun v6 h6 => upon_n ?_))))))
   obtain ⟨⟨a1, n1, c1⟩, rfl, hn1, hs1⟩ := h6
   obtain rfl : n1 = 1 := hn1
   have HRD1 := hid hs1.rd; have HNO := hid hs1.no
   have HG : Hid (Below w14.heap.size w14 w1) := hg
   clear hg HC4 hs1 HROW HIN
   have OA := hid (OI.out.below HG.out)
   have HEQ : Hid (y.ks.v.ownBlock = some gi) := by show _ = _; rw [show y.ks.v = Value.slice y.ks.a y.ks.n y.ks.c from rfl, HGI.out]; rfl
   have HOWF : Hid ((w1).ownsRow zi 27 5 (.slice (some ⟨gi, 0, none⟩) y.ks.n y.ks.c) y.ks.n (itmCells y.kids)) := by have h := OA.out.own; rw [HGI.out] at h; exact h
   have HZL : Hid (zi ≤ (w1).heap.size) := by show zi ≤ _; have h := HOWF.out.lt gi rfl; omega
   have HLEN : Hid (y.kids.length = y.ks.n) := (ItV.ok_iff.1 (OI.out.ok (by have := HYK.out; omega))).2.1.klen
   have HOWA : Hid ((w1).ownsRow zi 27 5 (.slice (some ⟨gi, 0, none⟩) y.ks.n y.ks.c) y.ks.n (itmCells (y.kids.take y.ks.n))) := by
    have h := own_take (k := y.ks.n) HOWF.out (by omega)
    rw [itm_take] at h
    exact h
   clear HOWF
   have HNW : Hid (∀ k, w1.heap.size ≤ k → A k) := fun k hk => HPL.out k (by have := HG.out.size; omega)
   have HPP : Hid (∀ q ∈ [pi, ph, pb], q < w1.heap.size) := fun q hq => by
    simp only [List.mem_cons, List.not_mem_nil, or_false] at hq
    have h1 := block_lt OI.out.blk; have h2 := block_lt OH.out.blk; have h3 := block_lt OB.out.blk; have h4 := HG.out.size
    omega
   have HAPP : Hid (∀ q ∈ [pi, ph, pb], A q) := fun q hq => (HA.out q).2 (.inl (by
    simp only [List.mem_cons, List.not_mem_nil, or_false] at hq
    have := HLTph.out; have := HLTpb.out
    omega))
   go_simp
   go_wp2_with (at_builtin; go_must (refine wpList_append_c rfl _ _ 25 rfl zi 27 i _ 5 72 Tryd.underlying25 hi hz0 hz1 hz2 rfl (by decide) (.slice (some ⟨gi, 0, none⟩) y.ks.n y.ks.c) y.ks.n _ rfl HOWA.out _ (1) _ (itmCells [x]) rfl HRD1.out (itm_one _) HNO.out (by unfold maxLen; have := HYK.out; omega) (by have := HYK.out; omega) HZL.out ?_); intro a9 c9 w15 hown hgw hfr; have hpu := OA.out.pushed (m := y.ks.n) (ys := [x]) (by rw [itm_app]; exact hown) (by rw [HEQ.out]; exact hgw) (by rw [HEQ.out]; exact hfr) HNW.out HPP.out (by simp) HAPP.out (fun z hz => by rw [List.mem_singleton.1 hz]; exact OA.out.kids x HX.out); have HPU := hid hpu; have hq4 := cell_of_block (j := 4) HPU.out.1 (ar4 _); have hfz : ∀ j, w15.frozen? ⟨pi, j, none⟩ = false := (fun j => frozen_of_block HPU.out.1); clear hown hgw hfr hpu)
   go_meet
   have hgo : y.ks.v.ownBlock = some gi := HEQ.out
   have hc : Chg [pi, gi] w14 (w15.setCell ⟨pi, 4, none⟩ (.slice a9 (y.ks.n + 1) c9)) := by
    have h := HPU.out.2.2
    rw [hgo] at h
    exact (Chg.of_below HG.out _).trans h (fun k hk => .inl (by simpa using hk))
   have hgA := OI.out.al gi hgo
   simp only [List.mem_cons, List.not_mem_nil, or_false, not_or] at hgA
   have h2 := HOL.out _ hgo
   have := HBP.out; have := HLTph.out; have := HLTpb.out; have := HORD.out; have := HZI.out
   have hgen := GEN.out _ _ hc (fun k hk => by
    simp only [List.mem_cons, List.not_mem_nil, or_false] at hk
    rcases hk with rfl | rfl
    ·exact ⟨HAPP.out _ (by simp), by omega⟩
    ·exact ⟨hgA.1, by omega⟩)
   have hph : ph ∉ [pi, gi] := fun hm => by
    simp only [List.mem_cons, List.not_mem_nil, or_false] at hm
    rcases hm with h | h
    ·omega
    ·exact hgA.2.2.1 h.symm
   have hoh : ∀ q, vh.ks.v.ownBlock = some q → q ∉ [pi, gi] := fun q hq hm => by
    have h4 := OH.out.al q hq
    have h5 := LH.out q hq
    simp only [List.mem_cons, List.not_mem_nil, or_false, not_or] at hm h4
    rcases hm with h3 | h3
    ·exact h4.2.1 h3
    ·omega
   have hpb : pb ∉ [pi, gi] := fun hm => by
    simp only [List.mem_cons, List.not_mem_nil, or_false] at hm
    rcases hm with h | h
    ·omega
    ·exact hgA.2.2.2 h.symm
   have hob : ∀ q, vb.ks.v.ownBlock = some q → q ∉ [pi, gi] := fun q hq hm => by
    have h4 := OB.out.al q hq
    have h5 := LB.out q hq
    simp only [List.mem_cons, List.not_mem_nil, or_false, not_or] at hm h4
    rcases hm with h3 | h3
    ·exact h4.2.1 h3
    ·omega
   exact ⟨_, vh, vb, hgen.1, HPU.out.2.1, hgen.2.2.1 hph hoh, hgen.2.2.2 hpb hob, by have := HYK.out; show 2 ≤ y.ks.n + 1 ∧ y.ks.n + 1 ≤ 1000; omega, by have := KH.out; show vh.ks.n ≤ 1000; omega, by have := KB.out; show vb.ks.n ≤ 1000; omega⟩
  have n8 : (pk == 8) = false := by simpa using e8
  by_cases e9 : pk = 9
  ·subst e9
   obtain ⟨m9, hm9⟩ : ∃ m, m + 1 = vh.ks.n := ⟨vh.ks.n - 1, by have := KH.out; omega⟩
   have HM9 := hid hm9
   obtain ⟨b9, o9, x, h9, hx, hrow⟩ := (ItV.ok_iff.1 (OH.out.ok (by have := KH.out; omega))).2.1.row (k := m9) (by have := KH.out; omega)
   rw [HGH.out] at h9
   simp only [Option.some.injEq, Addr.mk.injEq, and_true] at h9
   obtain ⟨rfl, rfl⟩ := h9
   rw [Nat.zero_add] at hrow
   have HROW := hid hrow
   have HX : Hid (x ∈ vh.kids) := List.mem_of_getElem? hx
   have HWR : Hid (IntKind.i64.wrap ((vh.ks.n : Int) - 1) = (m9 : Int)) := (IntWalk.i64_in _ (by have := KH.out; omega)).trans (by omega)
   have HSF := hid (fun w => run_slice_front (P := Tryd.prog) 25 27 5 Tryd.underlying25 (fun w => by kernel_rfl) (some (⟨gh, 0, none⟩ : Addr)) vh.ks.n vh.ks.c m9 (by have := HHC.out; omega) w)
   clear hx hrow
   have HC4 : Hid (∀ w', Below w14.heap.size w14 w' → w'.cell? ⟨ph, 4, none⟩ = some (.slice (some ⟨gh, 0, none⟩) vh.ks.n vh.ks.c)) := fun w' hb => by rw [← HGH.out]; exact cell_of_block (j := 4) ((OH.out.below hb).blk) (ar4 vh)
   have hc4 := HC4.out _ (Below.refl _ _)
   have hs := HWR.out
   have hl : m9 < vh.ks.n := by omega
   have hl2 : ((m9 : Int)) < (vh.ks.n : Int) := by omega
   go_upto_region 30 with (first | (refine wpList_load_mid rfl 27 _ rfl gh _ rfl x.arr.toList _ HROW.out Tryd.underlying27 rfl iSize ?_; simp only [Array.toArray_toList]) | (refine wpList_alloc_obj rfl 27 rfl _ iZero ?_) | (refine wpList_store_obj rfl 27 _ _ rfl w14.heap.size rfl x.arr rfl _ _ (block_new w14 _) rfl iSize (arr_one _) ?_; intro w16 hb2 hc2 hs2; have HB_w16 := hid hb2; have HC_w16 := hid hc2; clear hb2 hc2 hs2))
   have hbel : Below w14.heap.size w14 w16 := ((Below.refl _ w14).alloc (Nat.le_refl _) _).trans (HC_w16.out.below (fun k hk => by rw [List.mem_singleton.1 hk]; exact Nat.le_refl _) (by simp))
   have HBL := hid hbel
   have HX16 : Hid (x.ok w16) := (OH.out.kids x HX.out).1.below hbel
   clear hbel HC_w16 hc4 hs hl hl2 HROW hm9
   have HC5 : Hid (∀ w', Below w16.heap.size w16 w' → w'.cell? ⟨ph, 4, none⟩ = some (.slice (some ⟨gh, 0, none⟩) vh.ks.n vh.ks.c)) := fun w' hb => HC4.out w' (HBL.out.trans (hb.mono HBL.out.size))
   clear HC4
   refine wp_region_each 10 [.eq (.pointer (some ⟨ph, 4, none⟩)), .eq (.slice (some ⟨gh, 0, none⟩) vh.ks.n vh.ks.c), .eq (.pointer (some ⟨ph, 4, none⟩)), .eq (.slice (some ⟨gh, 0, none⟩) vh.ks.n vh.ks.c), .eq (.int .i64 vh.ks.n), .eq (.int .i64 (m9 : Int)), .eq (.slice (some ⟨gh, 0, none⟩) m9 vh.ks.c), .eq (.agg (ItV.arr ({ tag := 4325392, typ := 6, int := 1 } : ItV))), .eq (.agg x.arr), stItV [({ tag := 4325392, typ := 6, int := 1 } : ItV), x]] (by kernel_rfl) (by kernel_rfl) (by kernel_rfl) (by kernel_rfl) ?_ ?_
   ·all_goals
     refine each_5 ?_ ?_ ?_ ?_ ?_ (each_5 ?_ ?_ ?_ ?_ ?_ (each_n))
     ·intro w1 hg Ar seen
      have s13 := seen.sl 13 (.pointer (some ⟨ph, 0, none⟩))
      refine does_plain rfl fun K Q' hK => ?_
      go_simp; exact hK _ _ (Grow.refl _) rfl
     ·intro w1 hg Ar seen
      have e0 := seen.de 0 151
      refine does_plain rfl fun K Q' hK => ?_
      have hc := HC5.out _ hg
      go_simp; exact hK _ _ (Grow.refl _) rfl
     ·intro w1 hg Ar seen
      have s13 := seen.sl 13 (.pointer (some ⟨ph, 0, none⟩))
      refine does_plain rfl fun K Q' hK => ?_
      go_simp; exact hK _ _ (Grow.refl _) rfl
     ·intro w1 hg Ar seen
      have e2 := seen.de 2 153
      refine does_plain rfl fun K Q' hK => ?_
      have hc := HC5.out _ hg
      go_simp; exact hK _ _ (Grow.refl _) rfl
     ·intro w1 hg Ar seen
      have e3 := seen.de 3 154
      refine does_plain rfl fun K Q' hK => ?_
      go_simp; exact hK _ _ (Grow.refl _) rfl
     ·intro w1 hg Ar seen
      have e4 := seen.de 4 155
      refine does_plain rfl fun K Q' hK => ?_
      have hs := HWR.out
      go_simp; exact hK _ _ (Grow.refl _) rfl
     ·intro w1 hg Ar seen
      have e1 := seen.de 1 152
      have e5 := seen.de 5 156
      refine does_plain rfl fun K Q' hK => ?_
      have hsl := HSF.out
      go_simp; exact hK _ _ (Grow.refl _) rfl
     ·intro w1 hg Ar seen
      refine does_plain rfl fun K Q' hK => ?_
      go_simp; exact hK _ _ (Grow.refl _) rfl
     ·intro w1 hg Ar seen
      have s17 := seen.sl 17 (.pointer (some ⟨w14.heap.size, 0, none⟩))
      refine does_plain rfl fun K Q' hK => ?_
      refine wp_load_row 27 _ rfl w14.heap.size (by simp [Act.eval, s17]) _ _ _ _ ((hg.block _ (block_lt HB_w16.out)).trans HB_w16.out) Tryd.underlying27 rfl iSize ?_
      exact hK _ _ (Grow.refl _) rfl
     ·intro w1 hg Ar seen
      have e7 := seen.de 7 158
      have e8 := seen.de 8 159
      refine does_plain rfl fun K Q' hK => ?_
      refine wp_build_items 25 27 2 _ rfl [({ tag := 4325392, typ := 6, int := 1 } : ItV), x] rfl (by decide) (by decide) (by simp [Act.eval, e7, e8] <;> rfl) (ItV.arr ({ tag := 4325392, typ := 6, int := 1 } : ItV) ++ x.arr) (by simp [itmCells, ItV.cells]) i Tryd.underlying25 hi hz0 hz1 (fill2 _ x) (fun s hs => hK _ _ ((Below.refl _ _).alloc (Nat.le_refl _) _) ⟨s, rfl, hs.klen.symm, hs⟩)
   intro w1 hg
   refine upon_w' (js := [0, 1, 2, 3, 4, 5, 6, 7, 8, 9]) (by rfl) ?_
   refine upon_e (some 151) (upon_e (some 152) (upon_e (some 153) (upon_e (some 154) (upon_e (some 155) (upon_e (some 156) (upon_e (some 157) (upon_e (some 158) (upon_e (some 159) (upon_v (some 160) fun v9 h9 => upon_n ?_)))))))))
   obtain ⟨⟨a1, n1, c1⟩, rfl, hn1, hs1⟩ := h9
   obtain rfl : n1 = 2 := hn1
   have HRD1 := hid hs1.rd; have HNO := hid hs1.no
   have HG : Hid (Below w14.heap.size w14 w1) := HBL.out.trans (Below.mono (show Below w16.heap.size w16 w1 from hg) HBL.out.size)
   clear hg HC5 hs1 HBL HWR HSF HB_w16
   have OA := hid (OH.out.below HG.out)
   have HEQ : Hid (vh.ks.v.ownBlock = some gh) := by show _ = _; rw [show vh.ks.v = Value.slice vh.ks.a vh.ks.n vh.ks.c from rfl, HGH.out]; rfl
   have HOWF : Hid ((w1).ownsRow zph 27 5 (.slice (some ⟨gh, 0, none⟩) vh.ks.n vh.ks.c) vh.ks.n (itmCells vh.kids)) := by have h := OA.out.own; rw [HGH.out] at h; exact h
   have HZL : Hid (zph ≤ (w1).heap.size) := by show zph ≤ _; have h := HOWF.out.lt gh rfl; omega
   have HLEN : Hid (vh.kids.length = vh.ks.n) := (ItV.ok_iff.1 (OH.out.ok (by have := KH.out; omega))).2.1.klen
   have HOWA : Hid ((w1).ownsRow zph 27 5 (.slice (some ⟨gh, 0, none⟩) m9 vh.ks.c) m9 (itmCells (vh.kids.take m9))) := by
    have h := own_take (k := m9) HOWF.out (by have := KH.out; have := HM9.out; omega)
    rw [itm_take] at h
    exact h
   clear HOWF
   have HNW : Hid (∀ k, w1.heap.size ≤ k → A k) := fun k hk => HPL.out k (by have := HG.out.size; omega)
   have HPP : Hid (∀ q ∈ [pi, ph, pb], q < w1.heap.size) := fun q hq => by
    simp only [List.mem_cons, List.not_mem_nil, or_false] at hq
    have h1 := block_lt OI.out.blk; have h2 := block_lt OH.out.blk; have h3 := block_lt OB.out.blk; have h4 := HG.out.size
    omega
   have HAPP : Hid (∀ q ∈ [pi, ph, pb], A q) := fun q hq => (HA.out q).2 (.inl (by
    simp only [List.mem_cons, List.not_mem_nil, or_false] at hq
    have := HLTph.out; have := HLTpb.out
    omega))
   go_simp
   go_wp2_with (at_builtin; go_must (refine wpList_append_c rfl _ _ 25 rfl zph 27 i _ 5 72 Tryd.underlying25 hi hz0 hz1 hz2 rfl (by decide) (.slice (some ⟨gh, 0, none⟩) m9 vh.ks.c) m9 _ rfl HOWA.out _ (2) _ (itmCells [({ tag := 4325392, typ := 6, int := 1 } : ItV), x]) rfl HRD1.out (itm_one _) HNO.out (by unfold maxLen; have := KH.out; have := HM9.out; have := KH.out; omega) (by have := KH.out; have := HM9.out; have := KH.out; omega) HZL.out ?_); intro a9 c9 w15 hown hgw hfr; have hpu := OA.out.pushed (m := m9) (ys := [({ tag := 4325392, typ := 6, int := 1 } : ItV), x]) (by rw [itm_app]; exact hown) (by rw [HEQ.out]; exact hgw) (by rw [HEQ.out]; exact hfr) HNW.out HPP.out (by simp) HAPP.out (fun z hz => by simp only [List.mem_cons, List.not_mem_nil, or_false] at hz; rcases hz with rfl | rfl; exact ⟨numV_ok _ _ _ _, numV_foot _, fun hm => numV_foot (fun _ => False) _ (footN_sub _ _ hm)⟩; exact OA.out.kids _ HX.out); have HPU := hid hpu; have hq4 := cell_of_block (j := 4) HPU.out.1 (ar4 _); have hfz : ∀ j, w15.frozen? ⟨ph, j, none⟩ = false := (fun j => frozen_of_block HPU.out.1); clear hown hgw hfr hpu)
   go_meet
   have hgo : vh.ks.v.ownBlock = some gh := HEQ.out
   have hc : Chg [ph, gh] w14 (w15.setCell ⟨ph, 4, none⟩ (.slice a9 (m9 + 2) c9)) := by
    have h := HPU.out.2.2
    rw [hgo] at h
    exact (Chg.of_below HG.out _).trans h (fun k hk => .inl (by simpa using hk))
   have hgA := OH.out.al gh hgo
   simp only [List.mem_cons, List.not_mem_nil, or_false, not_or] at hgA
   have h2 := LH.out _ hgo
   have := HBP.out; have := HLTph.out; have := HLTpb.out; have := HORD.out; have := HZI.out
   have hgen := GEN.out _ _ hc (fun k hk => by
    simp only [List.mem_cons, List.not_mem_nil, or_false] at hk
    rcases hk with rfl | rfl
    ·exact ⟨HAPP.out _ (by simp), by omega⟩
    ·exact ⟨hgA.1, by omega⟩)
   have hpi : pi ∉ [ph, gh] := fun hm => by
    simp only [List.mem_cons, List.not_mem_nil, or_false] at hm
    rcases hm with h | h
    ·omega
    ·exact hgA.2.1 h.symm
   have hoi : ∀ q, y.ks.v.ownBlock = some q → q ∉ [ph, gh] := fun q hq hm => by
    have h4 := OI.out.al q hq
    have h5 := HOL.out q hq
    simp only [List.mem_cons, List.not_mem_nil, or_false, not_or] at hm h4
    rcases hm with h3 | h3
    ·exact h4.2.2.1 h3
    ·omega
   have hpb : pb ∉ [ph, gh] := fun hm => by
    simp only [List.mem_cons, List.not_mem_nil, or_false] at hm
    rcases hm with h | h
    ·omega
    ·exact hgA.2.2.2 h.symm
   have hob : ∀ q, vb.ks.v.ownBlock = some q → q ∉ [ph, gh] := fun q hq hm => by
    have h4 := OB.out.al q hq
    have h5 := LB.out q hq
    simp only [List.mem_cons, List.not_mem_nil, or_false, not_or] at hm h4
    rcases hm with h3 | h3
    ·exact h4.2.2.1 h3
    ·omega
   exact ⟨y, _, vb, hgen.1, hgen.2.1 hpi hoi, HPU.out.2.1, hgen.2.2.2 hpb hob, by have := HYK.out; show 2 ≤ y.ks.n ∧ y.ks.n ≤ 1000; omega, by have := KH.out; have := HM9.out; show m9 + 2 ≤ 1000; omega, by have := KB.out; show vb.ks.n ≤ 1000; omega⟩
  have n9 : (pk == 9) = false := by simpa using e9
  go_wp2_with fail
  go_meet
  exact ⟨y, vh, vb, B.out, OI.out, OH.out, OB.out, by have := HYK.out; show _ ∧ _; omega, by have := KH.out; omega, by have := KB.out; omega⟩
 case rest =>
  clear OI OH OB B HV LH LB HGH HGB HHC HBC KH KB HORD HYK Lnn Lmm HYD HYDA HOL HLTph HLTpb HPL HAV HVL
  obtain ⟨vi, vh, vb, hbx, hoi, hoh, hob, hni, hnh, hnb⟩ := hcut
  have BX := hid hbx; have OI := hid hoi; have OH := hid hoh; have OB := hid hob; have HNI := hid hni; have HNH := hid hnh; have HNB := hid hnb
  clear hbx hoi hoh hob hni hnh hnb
  obtain ⟨a2, ha2⟩ : ∃ a2, (if vi.ks.c = 2 then vi.ks.a else vi.ks.a.map (·.add (2 * 5))) = a2 := ⟨_, rfl⟩
  have hsl : ∀ w, (Instr.slice 25 (.slice vi.ks.a vi.ks.n vi.ks.c) (some (.int .i64 2)) none none).run Tryd.prog w = .ok (.slice a2 (vi.ks.n - 2) (vi.ks.c - 2)) w := fun w => by rw [← ha2]; exact run_slice_back (P := Tryd.prog) 25 27 5 Tryd.underlying25 (fun w => by kernel_rfl) vi.ks.a vi.ks.n vi.ks.c 2 (by have := HNI.out; omega) w
  have HSLB := hid hsl
  have hks := (ItV.ok_iff.1 (OI.out.ok (by have := HNI.out; omega))).2.1
  have hrd := rdC_drop (k := 2) hks.rd hks.nc (by have := HNI.out; omega)
  rw [ha2, itm_drop] at hrd
  have HRD := hid hrd
  have HNO : Hid (a2 = none → vi.ks.c - 2 = 0) := fun hn => by
   have h0 := (own_slice OI.out.own).2.1
   rw [← ha2] at hn
   split at hn
   ·omega
   ·simp at hn
    have := h0 hn
    omega
  clear hsl hks hrd ha2
  obtain ⟨zc, hzc⟩ : ∃ q, q = wc.heap.size := ⟨_, rfl⟩
  have HZC := hid hzc
  have HPIZ : Hid (pi < zc) := by show pi < zc; rw [hzc]; exact block_lt OI.out.blk
  have HBZC : Hid (b + 1 < zc) := by show _ < zc; rw [hzc]; exact block_lt BX.out.res
  clear hzc
  have HC4 : Hid (∀ w', Below wc.heap.size wc w' → w'.cell? ⟨pi, 4, none⟩ = some (.slice vi.ks.a vi.ks.n vi.ks.c)) := fun w' hb => cell_of_block (j := 4) ((OI.out.below hb).blk) (ar4 vi)
  go_upto_region 31 with (fail)
  refine wp_region_each 6 [.eq (.agg vh.arr), .eq (.agg vb.arr), stRowO 27 [vh, vb] zc, .eq (.pointer (some ⟨pi, 4, none⟩)), .eq (.slice vi.ks.a vi.ks.n vi.ks.c), .eq (.slice a2 (vi.ks.n - 2) (vi.ks.c - 2))] (by kernel_rfl) (by kernel_rfl) (by kernel_rfl) (by kernel_rfl) ?_ ?_
  ·all_goals
    refine each_5 ?_ ?_ ?_ ?_ ?_ (each_c ?_ (each_n))
    ·intro w1 hg Ar seen
     have s13 := seen.sl 13 (.pointer (some ⟨ph, 0, none⟩))
     refine does_plain rfl fun K Q' hK => ?_
     refine wp_load_row 27 _ rfl ph (by simp [Act.eval, s13]) _ _ _ _ ((hg.block _ (block_lt OH.out.blk)).trans OH.out.blk) Tryd.underlying27 rfl iSize ?_
     exact hK _ _ (Grow.refl _) rfl
    ·intro w1 hg Ar seen
     have s14 := seen.sl 14 (.pointer (some ⟨pb, 0, none⟩))
     refine does_plain rfl fun K Q' hK => ?_
     refine wp_load_row 27 _ rfl pb (by simp [Act.eval, s14]) _ _ _ _ ((hg.block _ (block_lt OB.out.blk)).trans OB.out.blk) Tryd.underlying27 rfl iSize ?_
     exact hK _ _ (Grow.refl _) rfl
    ·intro w1 hg Ar seen
     have e0 := seen.de 0 163
     have e1 := seen.de 1 164
     refine does_plain rfl fun K Q' hK => ?_
     refine wp_build_own 25 27 2 _ rfl [vh, vb] rfl (by decide) (by decide) (by simp [Act.eval, e0, e1] <;> rfl) (vh.arr ++ vb.arr) (by simp [itmCells, ItV.cells]) i Tryd.underlying25 hi hz0 hz1 (fill2 vh vb) zc (Nat.le_trans (Nat.le_of_eq HZC.out) hg.size) (fun ho => hK _ _ ((Below.refl _ _).alloc (Nat.le_refl _) _) ⟨⟨_, _, _⟩, rfl, rfl, ho⟩)
    ·intro w1 hg Ar seen
     have s12 := seen.sl 12 (.pointer (some ⟨pi, 0, none⟩))
     refine does_plain rfl fun K Q' hK => ?_
     go_simp; exact hK _ _ (Grow.refl _) rfl
    ·intro w1 hg Ar seen
     have e3 := seen.de 3 166
     refine does_plain rfl fun K Q' hK => ?_
     have hc := HC4.out _ hg
     go_simp; exact hK _ _ (Grow.refl _) rfl
    ·intro w1 hg Ar seen
     have e4 := seen.de 4 167
     refine does_plain rfl fun K Q' hK => ?_
     have hsl := HSLB.out
     go_simp; exact hK _ _ (Grow.refl _) rfl
  intro w1 hg
  refine upon_w' (js := [0, 1, 2, 3, 4, 5]) (by rfl) ?_
  refine upon_e (some 163) (upon_e (some 164) (upon_v (some 165) fun v2 h2 => upon_e (some 166) (upon_e (some 167) (upon_e (some 168) (upon_n ?_)))))
  obtain ⟨⟨sa, sn, sc⟩, rfl, hsn, hown⟩ := h2
  obtain rfl : sn = 2 := hsn
  have HOW : Hid (w1.ownsRow zc 27 5 (.slice sa 2 sc) 2 (itmCells [vh, vb])) := hown
  have HG : Hid (Below wc.heap.size wc w1) := hg
  have HRD1 := hid (HRD.out.below HG.out)
  have HZ1 : Hid (zc ≤ w1.heap.size) := by show zc ≤ _; rw [HZC.out]; exact HG.out.size
  clear hown hg HC4 HRD HSLB
  go_simp
  go_upto_region 32 with (at_builtin; go_must (refine wpList_append_c rfl _ _ 25 rfl zc 27 i _ 5 72 Tryd.underlying25 hi hz0 hz1 hz2 rfl (by decide) (.slice sa 2 sc) 2 _ rfl HOW.out _ (vi.ks.n - 2) _ (itmCells (vi.kids.drop 2)) rfl HRD1.out (itm_one _) HNO.out (by unfold maxLen; have := HNI.out; omega) (by have := HNI.out; omega) HZ1.out ?_); intro a' c' w8 hown hgw hfr; have hch : Chg (Value.slice sa 2 sc).ownBlock.toList w1 w8 := (Chg.refl _ w1).grown hgw (fun k hk => .inl (by rw [hk]; simp)); have hb8 : Below wc.heap.size wc w8 := HG.out.trans (hch.below (fun k hk => by have h1 : (Value.slice sa 2 sc).ownBlock = some k := (by simpa using hk); have h2 := (HOW.out.lt k h1).1; have := HZC.out; omega) (by have := HZ1.out; have := HZC.out; omega)); have HB8 := hid hb8; have HJ := hid (Ob.joined (OI.out.below hb8) (OH.out.below hb8) (OB.out.below hb8) (by rw [itm_app]; exact hown) HPIZ.out HBZC.out (by have := HNI.out; omega) HNH.out HNB.out (by simp) ((HA.out pi).2 (.inl (Nat.le_refl _))) HAR.out); have hq4 := cell_of_block (j := 4) (OI.out.below hb8).blk (ar4 vi); have hfz : ∀ j, w8.frozen? ⟨pi, j, none⟩ = false := (fun j => frozen_of_block (OI.out.below HB8.out).blk); clear hown hgw hfr hch hb8)
  clear hq4 hfz HRD1 HOW
  obtain ⟨hxb, hxo, hxr, hxc⟩ := HJ.out
  have HN2 : Hid ((ItV.ks { vi with ks := ⟨a', 2 + (vi.ks.n - 2), c'⟩, kids := [vh, vb] ++ vi.kids.drop 2 }).n ≤ 2000) := by have := HNI.out; show 2 + (vi.ks.n - 2) ≤ 2000; omega
  have hb9 := ((BX.out.below HB8.out).chg hxc (fun k hk => by rw [List.mem_singleton.1 hk]; exact HBP.out))
  clear HJ hxc HB8 BX OI OH OB
  generalize ({ vi with ks := ⟨a', 2 + (vi.ks.n - 2), c'⟩, kids := [vh, vb] ++ vi.kids.drop 2 } : ItV) = x at *
  generalize w8.setCell ⟨pi, 4, none⟩ (.slice a' (2 + (vi.ks.n - 2)) c') = w9 at *
  have HXB := hid hxb; have HXO := hid hxo; have HXR := hid hxr; have BX := hid hb9
  clear hxb hxo hxr hb9
  go_wp2_with (first | (refine wpList_load_row rfl 27 _ rfl pi rfl _ _ _ _ HXB.out Tryd.underlying27 rfl iSize ?_) | (refine wpList_store_obj rfl 27 _ _ rfl (b + 1) rfl _ rfl _ _ BX.out.res rfl iSize (arr_one _) ?_; intro w10 hb10 hc10 hs10; have HB10 := hid hb10; have HC10 := hid hc10; clear hb10 hc10 hs10))
  refine bodyPost_ret (results_cell_row rfl _ _ (b + 1) _ _ _ _ rfl HB10.out Tryd.underlying27 rfl iSize) rfl ?_
  exact ⟨x, rfl, ItV.ok.keepN HC10.out HXO.out (fun j hj hm => HXR.out (by rw [← List.mem_singleton.1 hm]; exact hj)), HN2.out, BX.out.done HC10.out⟩
end
section
open Go.RowKit
set_option linter.unusedVariables false
set_option linter.unusedSimpArgs false
set_option maxRecDepth 100000
set_option maxHeartbeats 4000000
def outQ : Except Int Rq → Rq
 | .error _ => {}
 | .ok q => q
def outC : Except Int Rq → Int
 | .error c => c
 | .ok _ => 0
theorem rq_out {r : Except Int Rq} {w : World} {e : Ending} {w' : World} (h : ReqRead r w e w') : ∃ (q : RqV) (c : Int), e = .returned (.tuple #[.agg q.arr, .int .i64 c]) ∧ q.ok w' ∧ Below w.heap.size w w' ∧ q.rq = outQ r ∧ c = outC r := by
 cases r with
 | error c => obtain ⟨h1, h2⟩ := h; exact ⟨{}, c, h1, ⟨SlR.nil _ _, fun x hx => by cases hx⟩, h2, rfl, rfl⟩
 | ok q => obtain ⟨v, h1, h2, h3, h4⟩ := h; exact ⟨v, 0, h1, h3, h4, h2, rfl⟩
theorem reqsReads_walk (l : List AskD) (a : Option Addr) (n c : Nat) (option most how : Int) (lo : List RawD) (ao : Option Addr) (no co : Nat) (any : Bool) (w : World) (hal : AskArgs w a n l) (hao : ArgSl 4 RawR w (.slice ao no co) lo) (hnt : NamesTab w) (hkt : KindsTab w) :
  Calls Tryd.prog 3 #[.slice a n c, .int .i64 option, .int .i64 most, .int .i64 how, .slice ao no co, .bool any] w fun e w' => e = .returned (.bool true) ∧ Below w.heap.size w w' := by
 have HAL := hid hal; have HAO := hid hao; have HT := hid hnt; have HK := hid hkt
 clear hal hao hnt hkt
 generalize hbe : w.heap.size = b
 have HBE := hid hbe; clear hbe
 go_enter Tryd.func3, Tryd.ntmps3
 go_wp2_with fail
 refine (handItem_any lo ao no co _ HAO.out).mono ?_
 rintro e w1 ⟨v, rfl, -, hvo, -, hb1, hv8⟩
 have HVO := hid hvo; have HV8 := hid hv8
 have HZ1 : Hid (b ≤ w1.heap.size) := by show b ≤ _; rw [← HBE.out]; exact hb1.size
 rw [HBE.out] at hb1
 have HBW1 := hid hb1
 clear hvo hv8 hb1
 dsimp only
 go_upto_region 2 with (first | (refine wpList_alloc_obj rfl 27 rfl _ iZero ?_) | (refine wpList_store_obj rfl 27 _ _ rfl w1.heap.size rfl v.arr rfl _ _ (block_new w1 _) rfl iSize (arr_one _) ?_; intro w2 hb2 hc2 hs2; have HB_w2 := hid hb2; have HC_w2 := hid hc2; clear hb2 hc2 hs2))
 go_simp
 have hbel : Below w1.heap.size w1 w2 := ((Below.refl _ w1).alloc (Nat.le_refl _) _).trans (HC_w2.out.below (fun k hk => by rw [List.mem_singleton.1 hk]; exact Nat.le_refl _) (by simp))
 have HVO2 := hid (HVO.out.below hbel)
 have HBW2 := hid (HBW1.out.trans (hbel.mono HZ1.out))
 have hbw : Below w.heap.size w w2 := by rw [HBE.out]; exact HBW2.out
 have HAL2 := hid (HAL.out.below hbw)
 have HT2 := hid (HT.out.below hbw); have HK2 := hid (HK.out.below hbw)
 have HZ2 : Hid (b ≤ w2.heap.size) := Nat.le_trans HZ1.out hbel.size
 clear hbel hbw HC_w2 HVO HBW1 HAL HAO HT HK HZ1
 generalize w1.heap.size = pv at *
 go_wp2_with (refine wpList_load_row rfl 27 _ rfl pv rfl _ _ _ _ HB_w2.out Tryd.underlying27 rfl iSize ?_)
 refine (item16_any l a n c option most how v _ HAL2.out HT2.out HK2.out HVO2.out).mono ?_
 rintro e w3 ⟨x, rfl, hxo, hxn, hb3⟩
 have HXO := hid hxo; have HXN := hid hxn
 have HB3 := hid ((hb3.block _ (block_lt HB_w2.out)).trans HB_w2.out)
 have HVO3 := hid (HVO2.out.below hb3)
 have HBW3 := hid (HBW2.out.trans (hb3.mono HZ2.out))
 have HZ3 : Hid (b ≤ w3.heap.size) := Nat.le_trans HZ2.out hb3.size
 clear hxo hxn hb3 HB_w2 HVO2 HBW2 HAL2 HT2 HK2 HZ2
 dsimp only
 go_upto_region 3 with (first | (refine wpList_alloc_obj rfl 27 rfl _ iZero ?_) | (refine wpList_store_obj rfl 27 _ _ rfl w3.heap.size rfl x.arr rfl _ _ (block_new w3 _) rfl iSize (arr_one _) ?_; intro w4 hb2 hc2 hs2; have HB_w4 := hid hb2; have HC_w4 := hid hc2; clear hb2 hc2 hs2))
 go_simp
 have hbel : Below w3.heap.size w3 w4 := ((Below.refl _ w3).alloc (Nat.le_refl _) _).trans (HC_w4.out.below (fun k hk => by rw [List.mem_singleton.1 hk]; exact Nat.le_refl _) (by simp))
 have HB4 := hid ((hbel.block _ (block_lt HB3.out)).trans HB3.out)
 have HVO4 := hid (HVO3.out.below hbel)
 have HXO4 := hid (HXO.out.below hbel)
 have HBW4 := hid (HBW3.out.trans (hbel.mono HZ3.out))
 have HZ4 : Hid (b ≤ w4.heap.size) := Nat.le_trans HZ3.out hbel.size
 have HVF : Hid (∀ k ∈ v.foot, k < w3.heap.size) := HVO3.out.lt
 have HBX : Hid (b ≤ w3.heap.size) := HZ3.out
 clear hbel HC_w4 HB3 HVO3 HXO HBW3 HZ3
 generalize w3.heap.size = px at *
 go_upto_if 27 with (fail)
 go_cut [] (fun wx => ∃ y : ItV, wx.heap[px]? = some (.cells y.arr 27 (0, 0)) ∧ y.ok wx ∧ y.ks.n ≤ 2000 ∧ Below b w wx ∧ b ≤ wx.heap.size)
 case first =>
  cases any with
  | false =>
   go_wp2_with fail
   go_meet
   exact ⟨x, HB_w4.out, HXO4.out, HXN.out, HBW4.out, HZ4.out⟩
  | true =>
   go_wp2_with (first | (refine wpList_load_row rfl 27 _ rfl pv rfl _ _ _ _ HB4.out Tryd.underlying27 rfl iSize ?_) | (refine wpList_store_obj rfl 27 _ _ rfl px rfl v.arr rfl _ _ HB_w4.out rfl iSize (arr_one _) ?_; intro w5 hb2 hc2 hs2; have HB_w5 := hid hb2; have HC_w5 := hid hc2; clear hb2 hc2 hs2))
   go_meet
   exact ⟨v, HB_w5.out, ItV.ok.keep HC_w5.out HVO4.out (fun k hk hm => by have h1 := List.mem_singleton.1 hm; have h2 := HVF.out k hk; omega), Nat.le_trans HV8.out (by decide), HBW4.out.trans (HC_w5.out.below (B := b) (fun k hk => by rw [List.mem_singleton.1 hk]; exact HBX.out) HZ4.out), Nat.le_trans HZ4.out HC_w5.out.size⟩
 case rest =>
  clear HB_w4 HXO4 HXN HBW4 HZ4 HB4 HVO4 HVF HV8 HBX
  obtain ⟨y, hyb, hyo, hyn, hyw, hyz⟩ := hcut
  have HYB := hid hyb; have HYO := hid hyo; have HYW := hid hyw; have HYZ := hid hyz
  have hkd : y.it.kids.length ≤ 1000000 := by
   have h : y.it.kids = y.kids.map ItV.it := by rw [ItV.it_eq]
   rw [h, List.length_map, (ItV.ok_iff.1 hyo).2.1.klen]
   exact Nat.le_trans hyn (by decide)
  have HKD := hid hkd
  clear hyb hyo hyn hyw hyz hkd
  go_wp2_with (refine wpList_load_row rfl 27 _ rfl px rfl _ _ _ _ HYB.out Tryd.underlying27 rfl iSize ?_)
  refine (read_any y _ HYO.out).mono ?_
  intro e wa hres
  obtain ⟨q1, c1, rfl, hq1, hba, hr1, hc1⟩ := rq_out hres
  clear hres
  have HQ1 := hid hq1; have HR1 := hid hr1; have HC1 := hid hc1
  have HIA := hid ((hba.block _ (block_lt HYB.out)).trans HYB.out)
  have HOA := hid (HYO.out.below hba)
  have HBA := hid (HYW.out.trans (hba.mono HYZ.out))
  have HSA : Hid (b ≤ wa.heap.size) := Nat.le_trans HYZ.out hba.size
  clear hq1 hr1 hc1 hba HYB HYO HYW HYZ
  dsimp only
  go_upto_region 6 with (first | (refine wpList_alloc_obj rfl 32 rfl _ vZero ?_) | (refine wpList_store_obj rfl 32 _ _ rfl wa.heap.size rfl q1.arr rfl _ _ (block_new wa _) rfl vSize (varr_one _) ?_; intro wb hb2 hc2 hs2; have HB_wb := hid hb2; have HC_wb := hid hc2; clear hb2 hc2 hs2))
  have hbel : Below wa.heap.size wa wb := ((Below.refl _ wa).alloc (Nat.le_refl _) _).trans (HC_wb.out.below (fun k hk => by rw [List.mem_singleton.1 hk]; exact Nat.le_refl _) (by simp))
  have HIB := hid ((hbel.block _ (block_lt HIA.out)).trans HIA.out)
  have HOB := hid (HOA.out.below hbel)
  have HQ1B := hid (HQ1.out.below hbel)
  have HBB := hid (HBA.out.trans (hbel.mono HSA.out))
  have HSB : Hid (b ≤ wb.heap.size) := Nat.le_trans HSA.out hbel.size
  clear hbel HIA HOA HQ1 HBA HC_wb HSA
  generalize wa.heap.size = pa at *
  go_wp2_with (refine wpList_load_row rfl 27 _ rfl px rfl _ _ _ _ HIB.out Tryd.underlying27 rfl iSize ?_)
  refine (readR_any y _ HOB.out HKD.out).mono ?_
  intro e wd hres
  obtain ⟨q2, c2, rfl, hq2, hbd, hr2, hc2⟩ := rq_out hres
  clear hres
  have hcc : c2 = c1 := by rw [hc2, HC1.out]
  subst hcc
  have HQ2 := hid hq2; have HR2 := hid hr2
  have HPA := hid ((hbd.block _ (block_lt HB_wb.out)).trans HB_wb.out)
  have HQ1D := hid (HQ1B.out.below hbd)
  have HBD := hid (HBB.out.trans (hbd.mono HSB.out))
  have HSD : Hid (b ≤ wd.heap.size) := Nat.le_trans HSB.out hbd.size
  clear hq2 hr2 hc2 hbd HB_wb HQ1B HBB HIB HOB HSB
  dsimp only
  go_upto_region 7 with (first | (refine wpList_alloc_obj rfl 32 rfl _ vZero ?_) | (refine wpList_store_obj rfl 32 _ _ rfl wd.heap.size rfl q2.arr rfl _ _ (block_new wd _) rfl vSize (varr_one _) ?_; intro we hb2 hc2 hs2; have HB_we := hid hb2; have HC_we := hid hc2; clear hb2 hc2 hs2))
  have hbel : Below wd.heap.size wd we := ((Below.refl _ wd).alloc (Nat.le_refl _) _).trans (HC_we.out.below (fun k hk => by rw [List.mem_singleton.1 hk]; exact Nat.le_refl _) (by simp))
  have HPE := hid ((hbel.block _ (block_lt HPA.out)).trans HPA.out)
  have HQ1E := hid (HQ1D.out.below hbel)
  have HQ2E := hid (HQ2.out.below hbel)
  have HBE5 := hid (HBD.out.trans (hbel.mono HSD.out))
  have HSE : Hid (b ≤ we.heap.size) := Nat.le_trans HSD.out hbel.size
  clear hbel HPA HQ1D HQ2 HBD HC_we HSD
  generalize wd.heap.size = pe at *
  go_wp2_with fail
  refine (known16_any _).mono ?_
  rintro e wf ⟨rfl, hbf⟩
  dsimp only
  have HPF := hid ((hbf.block _ (block_lt HPE.out)).trans HPE.out)
  have HPF2 := hid ((hbf.block _ (block_lt HB_we.out)).trans HB_we.out)
  have HQ1F := hid (HQ1E.out.below hbf)
  have HQ2F := hid (HQ2E.out.below hbf)
  have HBF := hid (HBE5.out.trans (hbf.mono HSE.out))
  have HSF : Hid (b ≤ wf.heap.size) := Nat.le_trans HSE.out hbf.size
  clear hbf HPE HB_we HQ1E HQ2E HBE5 HSE
  go_wp2_with (first | (refine wpList_load_on rfl 32 _ rfl pa rfl _ _ _ _ HPF.out Tryd.underlying32 rfl vSize ?_) | (refine wpList_load_on rfl 32 _ rfl pe rfl _ _ _ _ HPF2.out Tryd.underlying32 rfl vSize ?_))
  refine (sameRq_any q1 q2 _ HQ1F.out HQ2F.out (HR1.out.trans HR2.out.symm)).mono ?_
  rintro e wg ⟨rfl, hbg⟩
  have HBG := hid (HBF.out.trans (hbg.mono HSF.out))
  clear hbg
  go_wp2_with fail
  go_ret
  exact ⟨rfl, HBG.out⟩
end
end Go.Proofs.YtbnbofooofedkaaDoor
