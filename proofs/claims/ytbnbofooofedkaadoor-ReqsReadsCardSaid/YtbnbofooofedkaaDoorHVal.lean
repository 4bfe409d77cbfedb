/- locksmithhand: Id, Value: an item of the call's own, whatever the name. -/
import Derived.Test.YtbnbofooofedkaaDoorItemR
import Derived.Test.YtbnbofooofedkaaDoorRaw
import Derived.Test.YtbnbofooofedkaaDoorFootN
import Derived.Deep.DeepMust
import Derived.Deep.DeepCutAuto
namespace Go.Proofs.YtbnbofooofedkaaDoor
open Go.RowKit
set_option linter.unusedVariables false
set_option linter.unusedSimpArgs false
set_option maxRecDepth 100000
set_option maxHeartbeats 4000000
def idL : List ByteArray := [⟨#[49]⟩, ⟨#[50]⟩, ⟨#[51]⟩, ⟨#[52]⟩, ⟨#[53]⟩, ⟨#[54]⟩, ⟨#[55]⟩, ⟨#[49]⟩, ⟨#[50]⟩, ⟨#[51]⟩, ⟨#[57, 57]⟩, ⟨#[120]⟩]
def handId (n : Int) : ByteArray := idL.getD (pickN n 12) ⟨#[]⟩
def strsA (l : List ByteArray) : Array Value := (l.map Value.string).toArray
def intsA (l : List Int) : Array Value := (l.map (Value.int .i64)).toArray
theorem strsA_get (l : List ByteArray) (k : Nat) (h : k < l.length) : (strsA l)[k]? = some (.string (l.getD k ⟨#[]⟩)) := by
 simp [strsA, List.getD_eq_getElem?_getD, h]
theorem intsA_get (l : List Int) (k : Nat) (h : k < l.length) : (intsA l)[k]? = some (.int .i64 (l.getD k 0)) := by
 simp [intsA, List.getD_eq_getElem?_getD, h]
theorem sizeStr : ∀ w : World, (sizeOf 9).run Tryd.prog w = .ok 1 w := fun w => by kernel_rfl
theorem sizeInt : ∀ w : World, (sizeOf 3).run Tryd.prog w = .ok 1 w := fun w => by kernel_rfl
theorem handId_any (n : Int) (w : World) : Calls Tryd.prog 51 #[.int .i64 n] w fun e w' => e = .returned (.string (handId n)) ∧ w = w' := by
 have hbu : ∀ w, (Instr.build 95 #[(0, .string ⟨#[49]⟩), (1, .string ⟨#[50]⟩), (2, .string ⟨#[51]⟩), (3, .string ⟨#[52]⟩), (4, .string ⟨#[53]⟩), (5, .string ⟨#[54]⟩), (6, .string ⟨#[55]⟩), (7, .string ⟨#[49]⟩), (8, .string ⟨#[50]⟩), (9, .string ⟨#[51]⟩), (10, .string ⟨#[57, 57]⟩), (11, .string ⟨#[120]⟩)]).run Tryd.prog w = .ok (.agg (strsA idL)) w := fun w => by kernel_rfl
 have hlt := pickN_lt n 12 (by omega)
 have hget := strsA_get idL (pickN n 12) (by simpa [idL] using hlt)
 have hpe : pick n 12 = (pickN n 12 : Int) := pickN_eq n 12 (by omega)
 have HG := hid hget; have HP := hid hpe; have HL := hid hlt
 clear hget hpe hlt
 unfold handId
 generalize strsA idL = A at *
 go_enter Tryd.func51, Tryd.ntmps51
 go_upto_region 1 with (fail)
 refine wp_region_lit ?_
 refine wpList_build_obj rfl 95 _ rfl #[(0, .string ⟨#[49]⟩), (1, .string ⟨#[50]⟩), (2, .string ⟨#[51]⟩), (3, .string ⟨#[52]⟩), (4, .string ⟨#[53]⟩), (5, .string ⟨#[54]⟩), (6, .string ⟨#[55]⟩), (7, .string ⟨#[49]⟩), (8, .string ⟨#[50]⟩), (9, .string ⟨#[51]⟩), (10, .string ⟨#[57, 57]⟩), (11, .string ⟨#[120]⟩)] (by simp [Act.eval]) _ (hbu _) ?_
 clear hbu
 go_simp
 go_wp2_with fail
 refine (pick_any n 12 _ (by omega) (by omega)).mono ?_
 rintro e w1 ⟨rfl, rfl⟩
 rw [HP.out]
 go_wp2_with (refine wpList_index_row rfl _ _ rfl Tryd.underlying95 sizeStr Tryd.underlying9 rfl A rfl _ rfl (pickN n 12) rfl _ HL.out HG.out ?_)
 go_ret
 exact ⟨rfl, rfl⟩

def stSome (lo : Nat) : St Grow := ⟨fun v w => ∃ x : ItV, v = .agg x.arr ∧ x.ok w ∧ (∀ k ∈ x.foot, lo ≤ k) ∧ x.typ ≠ 0 ∧ nz x.it = true, fun v w w' h hg => let ⟨x, e, h2, h3⟩ := h; ⟨x, e, h2.below hg, h3⟩⟩
def stSomes (lo : Nat) : St Grow := ⟨fun v w => ∃ (s : Sl) (l : List ItV), v = .slice s.a s.n s.c ∧ SlR w s 5 (itmCells l) ∧ (∀ k ∈ s.blk, lo ≤ k) ∧ ∀ x ∈ l, x.ok w ∧ (∀ k ∈ x.foot, lo ≤ k) ∧ x.typ ≠ 0 ∧ nz x.it = true, fun v w w' h hg => let ⟨s, l, e, h2, h3, h4⟩ := h; ⟨s, l, e, h2.below hg, h3, fun x hx => ⟨(h4 x hx).1.below hg, (h4 x hx).2⟩⟩⟩
theorem wp_build_itemsB {P : Program} {o : Oper} {a : Act} {w : World} {K : Act → World → Prop} {Q : Exit → Act → World → Prop} (T E : TypeId) (n : Nat) (ps : Array (Nat × Operand)) (ho : o.op = .buildSlice T n ps) (vs : List ItV) (hn : vs.length = n) (h0 : 0 < n) (h9 : n ≤ 100)
  (hx : (ps.map fun (i, x) => (i, a.eval x)).toList = (vs.zipIdx 0).map fun x => (x.2, Value.agg x.1.arr)) (C : Array Value) (hC : C.toList = itmCells vs)
  (i : TypeInfo) (hu : P.underlying T = some (.slice E)) (hi : P.info? E = some i) (hz : i.zero = some (.agg itZ.arr)) (hs : i.size = 5)
  (hf : Instr.fill (fun i => some (i * 5, 5)) ((Array.range (n * 5)).map (itZ.arr[· % itZ.arr.size]!)) ((vs.zipIdx 0).map fun x => (x.2, Value.agg x.1.arr)) = some C)
  (h : SlR (w.alloc (.cells C E)) ⟨some ⟨w.heap.size, 0, none⟩, n, n⟩ 5 (itmCells vs) → K (a.put o.dst (.slice (some ⟨w.heap.size, 0, none⟩) n n)) (w.alloc (.cells C E))) : o.wp P a w K Q := by
 refine wp_buildSlice T E n _ ho C i _ hu hi hz (by rw [hs]; omega) (by rw [hs]; omega) ?_ (h (SlR.built hC hn (by omega)))
 rw [hs, hx]
 exact hf
/-- The number's box, and the result's room. -/
structure VB (x : RawD) (w W : World) (b : Nat) : Prop where
 box : W.heap[b]? = some (.cells x.cells 75 (0, 0))
 res : W.heap[b + 1]? = some (.cells itZ.arr 27 (0, 0))
 bel : Below b w W
 size : b + 2 ≤ W.heap.size
theorem VB.start {x : RawD} {w : World} {b : Nat} (hb : w.heap.size = b) : VB x w ((w.alloc (.cells x.cells 75)).alloc (.cells itZ.arr 27)) b := by
 subst hb
 exact ⟨heap_alloc2_old _ _ _, heap_alloc2_new _ _ _, ((Below.refl _ _).alloc (Nat.le_refl _) _).alloc (by simp) _, by simp⟩
theorem VB.below {x : RawD} {w W W' : World} {b : Nat} (h : VB x w W b) (hb : Below W.heap.size W W') : VB x w W' b :=
 ⟨(hb.block _ (block_lt h.box)).trans h.box, (hb.block _ (block_lt h.res)).trans h.res, h.bel.trans (hb.mono (by have := h.size; omega)), Nat.le_trans h.size hb.size⟩
theorem VB.done {x : RawD} {w W W' : World} {b : Nat} (h : VB x w W b) (hc : Chg [b + 1] W W') : Below b w W' :=
 h.bel.trans (hc.below (fun k hk => by rw [List.mem_singleton.1 hk]; omega) (by have := h.size; omega))
theorem it_typ' (x : ItV) : x.it.typ = x.typ := by rw [ItV.it_eq]
theorem numV_nz (t k n : Int) : nz (ItV.it { tag := t, typ := k, int := n }) = true := by rw [numV_it]; rfl
theorem nz_of {t : Int} {s : Sl} {l : List ItV} (hl : ∀ x ∈ l, x.typ ≠ 0 ∧ nz x.it = true) : nz (ItV.it { tag := t, typ := 1, ks := s, kids := l }) = true := by
 rw [ItV.it_eq, nz, nzAll_mem]
 intro y hy
 obtain ⟨x, hx, rfl⟩ := List.mem_map.1 hy
 exact ⟨.inr (by rw [ItV.it_eq]; exact (hl x hx).1), (hl x hx).2⟩
def VRes (B : Nat) (w : World) (e : Ending) (w' : World) : Prop := ∃ v : ItV, e = .returned (.agg v.arr) ∧ v.ok w' ∧ nz v.it = true ∧ Below B w w' ∧ (∀ k ∈ v.foot, B ≤ k) ∧ v.typ ≠ 0
/-- The end: the item in the result's room. -/
theorem VB.fin {x : RawD} {w W W' : World} {b : Nat} (h : VB x w W b) (hc : Chg [b + 1] W W') {v : ItV} (ho : v.ok W) (hf : ∀ k ∈ v.foot, b + 2 ≤ k) (hn : nz v.it = true) (ht : v.typ ≠ 0) {e : Ending} (he : e = .returned (.agg v.arr)) : VRes b w e W' :=
 ⟨v, he, ItV.ok.keep hc ho (fun k hk hm => by have := hf k hk; have := List.mem_singleton.1 hm; omega), hn, h.done hc, fun k hk => by have := hf k hk; omega, ht⟩
theorem some_of {t : Int} {s : Sl} {l : List ItV} {w : World} (hs : SlR w s 5 (itmCells l)) (hl : ∀ x ∈ l, x.ok w) : ItV.ok w { tag := t, typ := 1, ks := s, kids := l } := ItV.ok_iff.2 ⟨SlC.nil _, hs, hl⟩
theorem foot_of {t : Int} {s : Sl} {l : List ItV} {lo : Nat} (hs : ∀ k ∈ s.blk, lo ≤ k) (hl : ∀ x ∈ l, ∀ k ∈ x.foot, lo ≤ k) : ∀ k ∈ ItV.foot { tag := t, typ := 1, ks := s, kids := l }, lo ≤ k := fun k hk => by
 rcases ItV.mem_foot.1 hk with h | h | ⟨x, hx, h⟩
 ·simp [Sl.blk] at h
 ·exact hs k h
 ·exact hl x hx k h
def vTexts : List ByteArray := [⟨#[111, 110, 101]⟩, ⟨#[116, 119, 111]⟩, ⟨#[116, 104, 114, 101, 101]⟩, ⟨#[102, 111, 117, 114]⟩, ⟨#[]⟩, ⟨#[53]⟩, ⟨#[49]⟩]
theorem vTexts_size (k : Nat) : (vTexts.getD k ⟨#[]⟩).size ≤ 5 := by
 match k with
 | 0 => decide
 | 1 => decide
 | 2 => decide
 | 3 => decide
 | 4 => decide
 | 5 => decide
 | 6 => decide
 | k + 7 => rw [List.getD_eq_getElem?_getD, List.getElem?_eq_none (by simp [vTexts])]; decide
theorem idL_size (k : Nat) : (idL.getD k ⟨#[]⟩).size ≤ 2 := by
 match k with
 | 0 => decide
 | 1 => decide
 | 2 => decide
 | 3 => decide
 | 4 => decide
 | 5 => decide
 | 6 => decide
 | 7 => decide
 | 8 => decide
 | 9 => decide
 | 10 => decide
 | 11 => decide
 | k + 12 => rw [List.getD_eq_getElem?_getD, List.getElem?_eq_none (by simp [idL])]; decide
theorem value_any (nm : ByteArray) (x : RawD) (hx : x.ok) (w : World) : Calls Tryd.prog 61 #[.string nm, .agg x.cells] w (VRes w.heap.size w) := by
 obtain ⟨i, hi, hz0, hz1, hz2⟩ := info_parts iInfo
 obtain ⟨hx0, hx1, hx2, hx3⟩ := hx
 generalize hbe : w.heap.size = b
 have HBE := hid hbe; clear hbe
 go_enter Tryd.func61, Tryd.ntmps61
 go_upto_region 1 with (refine wpList_alloc_obj rfl 27 rfl _ iZero ?_)
 go_simp
 have V0 := hid (VB.start (x := x) (w := w) HBE.out)
 rw [HBE.out]
 generalize (w.alloc (.cells x.cells 75)).alloc (.cells itZ.arr 27) = W at *
 have c1 : W.cell? ⟨b, 1, none⟩ = some (.int .i64 x.a) := cell_of_block (j := 1) V0.out.box rfl
 have c2 : W.cell? ⟨b, 2, none⟩ = some (.int .i64 x.b) := cell_of_block (j := 2) V0.out.box rfl
 have c3 : W.cell? ⟨b, 3, none⟩ = some (.int .i64 x.c) := cell_of_block (j := 3) V0.out.box rfl
 go_wp2_with fail
 refine (pick_any x.c 17 _ (by omega) (by omega)).mono ?_
 rintro e u ⟨rfl, rfl⟩
 generalize hpc : pick x.c 17 = pc at *
 clear hpc
 by_cases h16 : pc = 16
 ·subst h16
  go_wp2_with fail
  refine (handNum_any _ _ _ _).mono ?_
  rintro e wn ⟨rfl, hbn⟩
  have VN := hid (V0.out.below hbn)
  clear hbn
  go_wp2_with (refine wpList_store_obj rfl 27 _ _ rfl (b + 1) rfl _ rfl _ _ VN.out.res rfl iSize (arr_one _) ?_; intro w10 hb10 hc10 hs10; have HB10 := hid hb10; have HC10 := hid hc10; clear hb10 hc10 hs10)
  refine bodyPost_ret (results_cell_row rfl _ _ (b + 1) _ _ _ _ rfl HB10.out Tryd.underlying27 rfl iSize) rfl ?_
  exact VN.out.fin HC10.out (numV_ok _ _ _ _) (numV_foot _) (numV_nz _ _ _) (by simp) rfl
 have h16b : (pc == 16) = false := by simpa using h16
 clear h16
 go_upto_region 4 with (fail)
 rcases Bool.eq_false_or_eq_true (nm.toList == [78, 97, 109, 101]) with hn0 | hn0
 ·go_wp2_with fail
  have hP : pick x.a 7 = (pickN x.a 7 : Int) := pickN_eq x.a 7 (by omega)
  have hL := pickN_lt x.a 7 (by omega)
  have hG := strsA_get vTexts (pickN x.a 7) (by simpa [vTexts] using hL)
  have HP := hid hP; have HL := hid hL; have HG := hid hG
  have HSZ := hid (vTexts_size (pickN x.a 7))
  clear hP hL hG
  refine (pick_any x.a 7 _ (by omega) (by omega)).mono ?_
  rintro e u ⟨rfl, rfl⟩
  rw [HP.out]
  go_wp2_with (refine wpList_index_row rfl _ _ rfl Tryd.underlying102 sizeStr Tryd.underlying9 rfl (strsA vTexts) rfl _ rfl (pickN x.a 7) rfl _ HL.out HG.out ?_)
  refine (handText_any _ _ _ (by have h5 := HSZ.out; rw [List.getD_eq_getElem?_getD] at h5; omega)).mono ?_
  rintro e wn ⟨v, rfl, hvi, hvo, hvf, hbn⟩
  have HVO := hid hvo
  have HVF : Hid (∀ k ∈ v.foot, b + 2 ≤ k) := fun k hk => Nat.le_trans V0.out.size (hvf k hk)
  have VN := hid (V0.out.below hbn)
  have HNZ : Hid (nz v.it = true) := by show _ = _; rw [hvi]; rfl
  have HVT : Hid (v.typ ≠ 0) := by show _ ≠ _; rw [← it_typ', hvi]; show (7 : Int) ≠ 0; decide
  clear hvi hvo hvf hbn
  go_wp2_with (refine wpList_store_obj rfl 27 _ _ rfl (b + 1) rfl _ rfl _ _ VN.out.res rfl iSize (arr_one _) ?_; intro w10 hb10 hc10 hs10; have HB10 := hid hb10; have HC10 := hid hc10; clear hb10 hc10 hs10)
  refine bodyPost_ret (results_cell_row rfl _ _ (b + 1) _ _ _ _ rfl HB10.out Tryd.underlying27 rfl iSize) rfl ?_
  exact VN.out.fin HC10.out HVO.out HVF.out HNZ.out HVT.out rfl
 rcases Bool.eq_false_or_eq_true (nm.toList == [85, 110, 105, 113, 117, 101, 32, 73, 100, 101, 110, 116, 105, 102, 105, 101, 114]) with hn1 | hn1
 ·go_wp2_with fail
  have hP : pick x.a 7 = (pickN x.a 7 : Int) := pickN_eq x.a 7 (by omega)
  have hL := pickN_lt x.a 7 (by omega)
  have hG := strsA_get vTexts (pickN x.a 7) (by simpa [vTexts] using hL)
  have HP := hid hP; have HL := hid hL; have HG := hid hG
  have HSZ := hid (vTexts_size (pickN x.a 7))
  clear hP hL hG
  refine (pick_any x.a 7 _ (by omega) (by omega)).mono ?_
  rintro e u ⟨rfl, rfl⟩
  rw [HP.out]
  go_wp2_with (refine wpList_index_row rfl _ _ rfl Tryd.underlying102 sizeStr Tryd.underlying9 rfl (strsA vTexts) rfl _ rfl (pickN x.a 7) rfl _ HL.out HG.out ?_)
  refine (handText_any _ _ _ (by have h5 := HSZ.out; rw [List.getD_eq_getElem?_getD] at h5; omega)).mono ?_
  rintro e wn ⟨v, rfl, hvi, hvo, hvf, hbn⟩
  have HVO := hid hvo
  have HVF : Hid (∀ k ∈ v.foot, b + 2 ≤ k) := fun k hk => Nat.le_trans V0.out.size (hvf k hk)
  have VN := hid (V0.out.below hbn)
  have HNZ : Hid (nz v.it = true) := by show _ = _; rw [hvi]; rfl
  have HVT : Hid (v.typ ≠ 0) := by show _ ≠ _; rw [← it_typ', hvi]; show (7 : Int) ≠ 0; decide
  clear hvi hvo hvf hbn
  go_wp2_with (refine wpList_store_obj rfl 27 _ _ rfl (b + 1) rfl _ rfl _ _ VN.out.res rfl iSize (arr_one _) ?_; intro w10 hb10 hc10 hs10; have HB10 := hid hb10; have HC10 := hid hc10; clear hb10 hc10 hs10)
  refine bodyPost_ret (results_cell_row rfl _ _ (b + 1) _ _ _ _ rfl HB10.out Tryd.underlying27 rfl iSize) rfl ?_
  exact VN.out.fin HC10.out HVO.out HVF.out HNZ.out HVT.out rfl
 rcases Bool.eq_false_or_eq_true (nm.toList == [120, 45, 97]) with hn2 | hn2
 ·go_wp2_with fail
  have hP : pick x.a 7 = (pickN x.a 7 : Int) := pickN_eq x.a 7 (by omega)
  have hL := pickN_lt x.a 7 (by omega)
  have hG := strsA_get vTexts (pickN x.a 7) (by simpa [vTexts] using hL)
  have HP := hid hP; have HL := hid hL; have HG := hid hG
  have HSZ := hid (vTexts_size (pickN x.a 7))
  clear hP hL hG
  refine (pick_any x.a 7 _ (by omega) (by omega)).mono ?_
  rintro e u ⟨rfl, rfl⟩
  rw [HP.out]
  go_wp2_with (refine wpList_index_row rfl _ _ rfl Tryd.underlying102 sizeStr Tryd.underlying9 rfl (strsA vTexts) rfl _ rfl (pickN x.a 7) rfl _ HL.out HG.out ?_)
  refine (handText_any _ _ _ (by have h5 := HSZ.out; rw [List.getD_eq_getElem?_getD] at h5; omega)).mono ?_
  rintro e wn ⟨v, rfl, hvi, hvo, hvf, hbn⟩
  have HVO := hid hvo
  have HVF : Hid (∀ k ∈ v.foot, b + 2 ≤ k) := fun k hk => Nat.le_trans V0.out.size (hvf k hk)
  have VN := hid (V0.out.below hbn)
  have HNZ : Hid (nz v.it = true) := by show _ = _; rw [hvi]; rfl
  have HVT : Hid (v.typ ≠ 0) := by show _ ≠ _; rw [← it_typ', hvi]; show (7 : Int) ≠ 0; decide
  clear hvi hvo hvf hbn
  go_wp2_with (refine wpList_store_obj rfl 27 _ _ rfl (b + 1) rfl _ rfl _ _ VN.out.res rfl iSize (arr_one _) ?_; intro w10 hb10 hc10 hs10; have HB10 := hid hb10; have HC10 := hid hc10; clear hb10 hc10 hs10)
  refine bodyPost_ret (results_cell_row rfl _ _ (b + 1) _ _ _ _ rfl HB10.out Tryd.underlying27 rfl iSize) rfl ?_
  exact VN.out.fin HC10.out HVO.out HVF.out HNZ.out HVT.out rfl
 rcases Bool.eq_false_or_eq_true (nm.toList == [120, 45, 98]) with hn3 | hn3
 ·go_wp2_with fail
  have hP : pick x.a 7 = (pickN x.a 7 : Int) := pickN_eq x.a 7 (by omega)
  have hL := pickN_lt x.a 7 (by omega)
  have hG := strsA_get vTexts (pickN x.a 7) (by simpa [vTexts] using hL)
  have HP := hid hP; have HL := hid hL; have HG := hid hG
  have HSZ := hid (vTexts_size (pickN x.a 7))
  clear hP hL hG
  refine (pick_any x.a 7 _ (by omega) (by omega)).mono ?_
  rintro e u ⟨rfl, rfl⟩
  rw [HP.out]
  go_wp2_with (refine wpList_index_row rfl _ _ rfl Tryd.underlying102 sizeStr Tryd.underlying9 rfl (strsA vTexts) rfl _ rfl (pickN x.a 7) rfl _ HL.out HG.out ?_)
  refine (handText_any _ _ _ (by have h5 := HSZ.out; rw [List.getD_eq_getElem?_getD] at h5; omega)).mono ?_
  rintro e wn ⟨v, rfl, hvi, hvo, hvf, hbn⟩
  have HVO := hid hvo
  have HVF : Hid (∀ k ∈ v.foot, b + 2 ≤ k) := fun k hk => Nat.le_trans V0.out.size (hvf k hk)
  have VN := hid (V0.out.below hbn)
  have HNZ : Hid (nz v.it = true) := by show _ = _; rw [hvi]; rfl
  have HVT : Hid (v.typ ≠ 0) := by show _ ≠ _; rw [← it_typ', hvi]; show (7 : Int) ≠ 0; decide
  clear hvi hvo hvf hbn
  go_wp2_with (refine wpList_store_obj rfl 27 _ _ rfl (b + 1) rfl _ rfl _ _ VN.out.res rfl iSize (arr_one _) ?_; intro w10 hb10 hc10 hs10; have HB10 := hid hb10; have HC10 := hid hc10; clear hb10 hc10 hs10)
  refine bodyPost_ret (results_cell_row rfl _ _ (b + 1) _ _ _ _ rfl HB10.out Tryd.underlying27 rfl iSize) rfl ?_
  exact VN.out.fin HC10.out HVO.out HVF.out HNZ.out HVT.out rfl
 rcases Bool.eq_false_or_eq_true (nm.toList == [120, 45]) with hn4 | hn4
 ·go_wp2_with fail
  have hP : pick x.a 7 = (pickN x.a 7 : Int) := pickN_eq x.a 7 (by omega)
  have hL := pickN_lt x.a 7 (by omega)
  have hG := strsA_get vTexts (pickN x.a 7) (by simpa [vTexts] using hL)
  have HP := hid hP; have HL := hid hL; have HG := hid hG
  have HSZ := hid (vTexts_size (pickN x.a 7))
  clear hP hL hG
  refine (pick_any x.a 7 _ (by omega) (by omega)).mono ?_
  rintro e u ⟨rfl, rfl⟩
  rw [HP.out]
  go_wp2_with (refine wpList_index_row rfl _ _ rfl Tryd.underlying102 sizeStr Tryd.underlying9 rfl (strsA vTexts) rfl _ rfl (pickN x.a 7) rfl _ HL.out HG.out ?_)
  refine (handText_any _ _ _ (by have h5 := HSZ.out; rw [List.getD_eq_getElem?_getD] at h5; omega)).mono ?_
  rintro e wn ⟨v, rfl, hvi, hvo, hvf, hbn⟩
  have HVO := hid hvo
  have HVF : Hid (∀ k ∈ v.foot, b + 2 ≤ k) := fun k hk => Nat.le_trans V0.out.size (hvf k hk)
  have VN := hid (V0.out.below hbn)
  have HNZ : Hid (nz v.it = true) := by show _ = _; rw [hvi]; rfl
  have HVT : Hid (v.typ ≠ 0) := by show _ ≠ _; rw [← it_typ', hvi]; show (7 : Int) ≠ 0; decide
  clear hvi hvo hvf hbn
  go_wp2_with (refine wpList_store_obj rfl 27 _ _ rfl (b + 1) rfl _ rfl _ _ VN.out.res rfl iSize (arr_one _) ?_; intro w10 hb10 hc10 hs10; have HB10 := hid hb10; have HC10 := hid hc10; clear hb10 hc10 hs10)
  refine bodyPost_ret (results_cell_row rfl _ _ (b + 1) _ _ _ _ rfl HB10.out Tryd.underlying27 rfl iSize) rfl ?_
  exact VN.out.fin HC10.out HVO.out HVF.out HNZ.out HVT.out rfl
 rcases Bool.eq_false_or_eq_true (nm.toList == [121]) with hn5 | hn5
 ·go_wp2_with fail
  have hP : pick x.a 7 = (pickN x.a 7 : Int) := pickN_eq x.a 7 (by omega)
  have hL := pickN_lt x.a 7 (by omega)
  have hG := strsA_get vTexts (pickN x.a 7) (by simpa [vTexts] using hL)
  have HP := hid hP; have HL := hid hL; have HG := hid hG
  have HSZ := hid (vTexts_size (pickN x.a 7))
  clear hP hL hG
  refine (pick_any x.a 7 _ (by omega) (by omega)).mono ?_
  rintro e u ⟨rfl, rfl⟩
  rw [HP.out]
  go_wp2_with (refine wpList_index_row rfl _ _ rfl Tryd.underlying102 sizeStr Tryd.underlying9 rfl (strsA vTexts) rfl _ rfl (pickN x.a 7) rfl _ HL.out HG.out ?_)
  refine (handText_any _ _ _ (by have h5 := HSZ.out; rw [List.getD_eq_getElem?_getD] at h5; omega)).mono ?_
  rintro e wn ⟨v, rfl, hvi, hvo, hvf, hbn⟩
  have HVO := hid hvo
  have HVF : Hid (∀ k ∈ v.foot, b + 2 ≤ k) := fun k hk => Nat.le_trans V0.out.size (hvf k hk)
  have VN := hid (V0.out.below hbn)
  have HNZ : Hid (nz v.it = true) := by show _ = _; rw [hvi]; rfl
  have HVT : Hid (v.typ ≠ 0) := by show _ ≠ _; rw [← it_typ', hvi]; show (7 : Int) ≠ 0; decide
  clear hvi hvo hvf hbn
  go_wp2_with (refine wpList_store_obj rfl 27 _ _ rfl (b + 1) rfl _ rfl _ _ VN.out.res rfl iSize (arr_one _) ?_; intro w10 hb10 hc10 hs10; have HB10 := hid hb10; have HC10 := hid hc10; clear hb10 hc10 hs10)
  refine bodyPost_ret (results_cell_row rfl _ _ (b + 1) _ _ _ _ rfl HB10.out Tryd.underlying27 rfl iSize) rfl ?_
  exact VN.out.fin HC10.out HVO.out HVF.out HNZ.out HVT.out rfl
 rcases Bool.eq_false_or_eq_true (nm.toList == [79, 98, 106, 101, 99, 116, 32, 84, 121, 112, 101]) with hn6 | hn6
 ·go_wp2_with fail
  refine (pick_any x.a 8 _ (by omega) (by omega)).mono ?_
  rintro e u ⟨rfl, rfl⟩
  go_wp2_with fail
  refine (handNum_any _ _ _ _).mono ?_
  rintro e wn ⟨rfl, hbn⟩
  have VN := hid (V0.out.below hbn)
  clear hbn
  go_wp2_with (refine wpList_store_obj rfl 27 _ _ rfl (b + 1) rfl _ rfl _ _ VN.out.res rfl iSize (arr_one _) ?_; intro w10 hb10 hc10 hs10; have HB10 := hid hb10; have HC10 := hid hc10; clear hb10 hc10 hs10)
  refine bodyPost_ret (results_cell_row rfl _ _ (b + 1) _ _ _ _ rfl HB10.out Tryd.underlying27 rfl iSize) rfl ?_
  exact VN.out.fin HC10.out (numV_ok _ _ _ _) (numV_foot _) (numV_nz _ _ _) (by simp) rfl
 rcases Bool.eq_false_or_eq_true (nm.toList == [83, 116, 97, 116, 101]) with hn7 | hn7
 ·go_wp2_with fail
  refine (pick_any x.a 8 _ (by omega) (by omega)).mono ?_
  rintro e u ⟨rfl, rfl⟩
  go_wp2_with fail
  refine (handNum_any _ _ _ _).mono ?_
  rintro e wn ⟨rfl, hbn⟩
  have VN := hid (V0.out.below hbn)
  clear hbn
  go_wp2_with (refine wpList_store_obj rfl 27 _ _ rfl (b + 1) rfl _ rfl _ _ VN.out.res rfl iSize (arr_one _) ?_; intro w10 hb10 hc10 hs10; have HB10 := hid hb10; have HC10 := hid hc10; clear hb10 hc10 hs10)
  refine bodyPost_ret (results_cell_row rfl _ _ (b + 1) _ _ _ _ rfl HB10.out Tryd.underlying27 rfl iSize) rfl ?_
  exact VN.out.fin HC10.out (numV_ok _ _ _ _) (numV_foot _) (numV_nz _ _ _) (by simp) rfl
 rcases Bool.eq_false_or_eq_true (nm.toList == [67, 114, 121, 112, 116, 111, 103, 114, 97, 112, 104, 105, 99, 32, 65, 108, 103, 111, 114, 105, 116, 104, 109]) with hn8 | hn8
 ·go_wp2_with fail
  have hP : pick x.a 5 = (pickN x.a 5 : Int) := pickN_eq x.a 5 (by omega)
  have hL := pickN_lt x.a 5 (by omega)
  have hG := intsA_get [3, 3, 4, 0, 101] (pickN x.a 5) (by simpa using hL)
  have HP := hid hP; have HL := hid hL; have HG := hid hG
  clear hP hL hG
  refine (pick_any x.a 5 _ (by omega) (by omega)).mono ?_
  rintro e u ⟨rfl, rfl⟩
  rw [HP.out]
  go_wp2_with (refine wpList_index_row rfl _ _ rfl Tryd.underlying86 sizeInt Tryd.underlying3 rfl (intsA [3, 3, 4, 0, 101]) rfl _ rfl (pickN x.a 5) rfl _ HL.out HG.out ?_)
  refine (handNum_any _ _ _ _).mono ?_
  rintro e wn ⟨rfl, hbn⟩
  have VN := hid (V0.out.below hbn)
  clear hbn
  go_wp2_with (refine wpList_store_obj rfl 27 _ _ rfl (b + 1) rfl _ rfl _ _ VN.out.res rfl iSize (arr_one _) ?_; intro w10 hb10 hc10 hs10; have HB10 := hid hb10; have HC10 := hid hc10; clear hb10 hc10 hs10)
  refine bodyPost_ret (results_cell_row rfl _ _ (b + 1) _ _ _ _ rfl HB10.out Tryd.underlying27 rfl iSize) rfl ?_
  exact VN.out.fin HC10.out (numV_ok _ _ _ _) (numV_foot _) (numV_nz _ _ _) (by simp) rfl
 rcases Bool.eq_false_or_eq_true (nm.toList == [67, 114, 121, 112, 116, 111, 103, 114, 97, 112, 104, 105, 99, 32, 76, 101, 110, 103, 116, 104]) with hn9 | hn9
 ·go_wp2_with fail
  have hP : pick x.a 7 = (pickN x.a 7 : Int) := pickN_eq x.a 7 (by omega)
  have hL := pickN_lt x.a 7 (by omega)
  have hG := intsA_get [128, 192, 256, 1024, 2048, 0, 64] (pickN x.a 7) (by simpa using hL)
  have HP := hid hP; have HL := hid hL; have HG := hid hG
  clear hP hL hG
  refine (pick_any x.a 7 _ (by omega) (by omega)).mono ?_
  rintro e u ⟨rfl, rfl⟩
  rw [HP.out]
  go_wp2_with (refine wpList_index_row rfl _ _ rfl Tryd.underlying103 sizeInt Tryd.underlying3 rfl (intsA [128, 192, 256, 1024, 2048, 0, 64]) rfl _ rfl (pickN x.a 7) rfl _ HL.out HG.out ?_)
  refine (handNum_any _ _ _ _).mono ?_
  rintro e wn ⟨rfl, hbn⟩
  have VN := hid (V0.out.below hbn)
  clear hbn
  go_wp2_with (refine wpList_store_obj rfl 27 _ _ rfl (b + 1) rfl _ rfl _ _ VN.out.res rfl iSize (arr_one _) ?_; intro w10 hb10 hc10 hs10; have HB10 := hid hb10; have HC10 := hid hc10; clear hb10 hc10 hs10)
  refine bodyPost_ret (results_cell_row rfl _ _ (b + 1) _ _ _ _ rfl HB10.out Tryd.underlying27 rfl iSize) rfl ?_
  exact VN.out.fin HC10.out (numV_ok _ _ _ _) (numV_foot _) (numV_nz _ _ _) (by simp) rfl
 rcases Bool.eq_false_or_eq_true (nm.toList == [67, 114, 121, 112, 116, 111, 103, 114, 97, 112, 104, 105, 99, 32, 85, 115, 97, 103, 101, 32, 77, 97, 115, 107]) with hn10 | hn10
 ·go_wp2_with fail
  have hP : pick x.a 7 = (pickN x.a 7 : Int) := pickN_eq x.a 7 (by omega)
  have hL := pickN_lt x.a 7 (by omega)
  have hG := intsA_get [396, 12, 4, 0, 384, 2097152, 8] (pickN x.a 7) (by simpa using hL)
  have HP := hid hP; have HL := hid hL; have HG := hid hG
  clear hP hL hG
  refine (pick_any x.a 7 _ (by omega) (by omega)).mono ?_
  rintro e u ⟨rfl, rfl⟩
  rw [HP.out]
  go_wp2_with (refine wpList_index_row rfl _ _ rfl Tryd.underlying103 sizeInt Tryd.underlying3 rfl (intsA [396, 12, 4, 0, 384, 2097152, 8]) rfl _ rfl (pickN x.a 7) rfl _ HL.out HG.out ?_)
  refine (handNum_any _ _ _ _).mono ?_
  rintro e wn ⟨rfl, hbn⟩
  have VN := hid (V0.out.below hbn)
  clear hbn
  go_wp2_with (refine wpList_store_obj rfl 27 _ _ rfl (b + 1) rfl _ rfl _ _ VN.out.res rfl iSize (arr_one _) ?_; intro w10 hb10 hc10 hs10; have HB10 := hid hb10; have HC10 := hid hc10; clear hb10 hc10 hs10)
  refine bodyPost_ret (results_cell_row rfl _ _ (b + 1) _ _ _ _ rfl HB10.out Tryd.underlying27 rfl iSize) rfl ?_
  exact VN.out.fin HC10.out (numV_ok _ _ _ _) (numV_foot _) (numV_nz _ _ _) (by simp) rfl
 rcases Bool.eq_false_or_eq_true (nm.toList == [82, 101, 118, 111, 99, 97, 116, 105, 111, 110, 32, 82, 101, 97, 115, 111, 110]) with hn11 | hn11
 ·go_wp2_with fail
  refine (pick_any x.a 9 _ (by omega) (by omega)).mono ?_
  rintro e u ⟨rfl, rfl⟩
  go_wp2_with fail
  refine (handNum_any _ _ _ _).mono ?_
  rintro e w5 ⟨rfl, hb5⟩
  have V5 := hid (V0.out.below hb5)
  clear hb5
  go_wp2_with (refine wpList_build_item rfl 25 27 _ rfl { tag := 4325506, typ := 5, int := pick x.a 9 } rfl i Tryd.underlying25 hi hz0 hz1 ?_)
  have hba : Below w5.heap.size w5 (w5.alloc (.cells (ItV.arr { tag := 4325506, typ := 5, int := pick x.a 9 }) 27)) := (Below.refl _ _).alloc (Nat.le_refl _) _
  have HSL : Hid (SlR (w5.alloc (.cells (ItV.arr { tag := 4325506, typ := 5, int := pick x.a 9 }) 27)) ⟨some ⟨w5.heap.size, 0, none⟩, 1, 1⟩ 5 (itmCells [{ tag := 4325506, typ := 5, int := pick x.a 9 }])) := SlR.built (by simp [itmCells, ItV.cells]) rfl (by decide)
  have V6 := hid (V5.out.below hba)
  have HZ := hid V5.out.size
  clear hba V5
  generalize w5.alloc (.cells (ItV.arr { tag := 4325506, typ := 5, int := pick x.a 9 }) 27) = w6 at *
  generalize w5.heap.size = z at *
  refine (handOf_any _ ⟨some ⟨z, 0, none⟩, 1, 1⟩ _).mono ?_
  rintro e wn ⟨rfl, hbn⟩
  have VN := hid (V6.out.below hbn)
  have HSN := hid (HSL.out.below hbn)
  clear hbn
  go_wp2_with (refine wpList_store_obj rfl 27 _ _ rfl (b + 1) rfl (ItV.arr { tag := 4325387, typ := 1, ks := ⟨some ⟨z, 0, none⟩, 1, 1⟩, kids := [{ tag := 4325506, typ := 5, int := pick x.a 9 }] }) rfl _ _ VN.out.res rfl iSize (arr_one _) ?_; intro w10 hb10 hc10 hs10; have HB10 := hid hb10; have HC10 := hid hc10; clear hb10 hc10 hs10)
  refine bodyPost_ret (results_cell_row rfl _ _ (b + 1) _ _ _ _ rfl HB10.out Tryd.underlying27 rfl iSize) rfl ?_
  exact VN.out.fin HC10.out (some_of HSN.out (fun y hy => by rw [List.mem_singleton.1 hy]; exact numV_ok _ _ _ _)) (foot_of (fun k hk => by simp [Sl.blk] at hk; have := HZ.out; omega) (fun y hy => by rw [List.mem_singleton.1 hy]; exact numV_foot _)) (nz_of (fun y hy => by rw [List.mem_singleton.1 hy]; exact ⟨by simp, numV_nz _ _ _⟩)) (by simp) rfl
 rcases Bool.eq_false_or_eq_true (nm.toList == [76, 105, 110, 107]) with hn12 | hn12
 ·have p1 := pick_lo x.a 12 (by omega)
  have p2 := pick_hi x.a 12 (by omega)
  have HWR : Hid (IntKind.i64.wrap (100 + pick x.a 12) = 100 + pick x.a 12) := IntWalk.i64_in _ (by omega)
  clear p1 p2
  go_upto_region 23 with (fail)
  refine wp_region_each 11 [.eq (.pointer (some ⟨b, 1, none⟩)), .eq (.int .i64 x.a), .eq (.int .i64 (pick x.a 12)), .eq (.int .i64 (100 + pick x.a 12)), stSome (b + 2), .eq (.pointer (some ⟨b, 2, none⟩)), .eq (.int .i64 x.b), .eq (.string (handId x.b)), stSome (b + 2), stSomes (b + 2), stSome (b + 2)] (by kernel_rfl) (by kernel_rfl) (by kernel_rfl) (by kernel_rfl) ?_ ?_
  ·as_aux_lemma =>
    refine each_5 ?_ ?_ ?_ ?_ ?_ (each_5 ?_ ?_ ?_ ?_ ?_ (each_c ?_ (each_n)))
    ·intro w1 hg Ar seen
     have s3 := seen.sl 3 (.pointer (some ⟨b, 0, none⟩))
     refine does_plain rfl fun K Q' hK => ?_
     go_simp; exact hK _ _ (Grow.refl _) rfl
    ·intro w1 hg Ar seen
     have e0 := seen.de 0 71
     refine does_plain rfl fun K Q' hK => ?_
     have hc := cell_of_block (j := 1) ((hg.block _ (block_lt V0.out.box)).trans V0.out.box) rfl
     go_simp; exact hK _ _ (Grow.refl _) rfl
    ·intro w1 hg Ar seen
     have e1 := seen.de 1 72
     refine does_plain rfl fun K Q' hK => ?_
     go_simp
     refine (pick_any x.a 12 _ (by omega) (by omega)).mono ?_
     rintro e u ⟨rfl, rfl⟩
     exact hK _ _ (Grow.refl _) rfl
    ·intro w1 hg Ar seen
     have e2 := seen.de 2 73
     refine does_plain rfl fun K Q' hK => ?_
     have hs := HWR.out
     go_simp; exact hK _ _ (Grow.refl _) rfl
    ·intro w1 hg Ar seen
     have e3 := seen.de 3 74
     refine does_plain rfl fun K Q' hK => ?_
     go_simp
     refine (handNum_any _ _ _ _).mono ?_
     rintro e u ⟨rfl, hb⟩
     exact hK _ _ hb ⟨_, rfl, numV_ok _ _ _ _, numV_foot _, by simp, numV_nz _ _ _⟩
    ·intro w1 hg Ar seen
     have s3 := seen.sl 3 (.pointer (some ⟨b, 0, none⟩))
     refine does_plain rfl fun K Q' hK => ?_
     go_simp; exact hK _ _ (Grow.refl _) rfl
    ·intro w1 hg Ar seen
     have e5 := seen.de 5 76
     refine does_plain rfl fun K Q' hK => ?_
     have hc := cell_of_block (j := 2) ((hg.block _ (block_lt V0.out.box)).trans V0.out.box) rfl
     go_simp; exact hK _ _ (Grow.refl _) rfl
    ·intro w1 hg Ar seen
     have e6 := seen.de 6 77
     refine does_plain rfl fun K Q' hK => ?_
     go_simp
     refine (handId_any x.b _).mono ?_
     rintro e u ⟨rfl, rfl⟩
     exact hK _ _ (Grow.refl _) rfl
    ·intro w1 hg Ar seen
     have e7 := seen.de 7 78
     refine does_plain rfl fun K Q' hK => ?_
     go_simp
     refine (handText_any _ _ _ (by have := idL_size (pickN x.b 12); unfold handId; omega)).mono ?_
     rintro e u ⟨v, rfl, hvi, hvo, hvf, hb⟩
     exact hK _ _ hb ⟨v, rfl, hvo, (fun k hk => by have := hvf k hk; have := V0.out.size; have := hg.size; omega), (by rw [← it_typ', hvi]; simp), (by rw [hvi]; rfl)⟩
    ·intro w1 hg Ar seen
     obtain ⟨v4, e4, h4⟩ := seen.dp 4 75
     obtain ⟨v8, e8, h8⟩ := seen.dp 8 79
     refine does_plain rfl fun K Q' hK => ?_
     obtain ⟨x4, rfl, ho4, hf4, hn4⟩ := h4
     obtain ⟨x8, rfl, ho8, hf8, hn8⟩ := h8
     refine wp_build_itemsB _ 27 2 _ rfl [x4, x8] rfl (by decide) (by decide) (by simp [Act.eval, e4, e8] <;> rfl) (x4.arr ++ x8.arr) (by simp [itmCells, ItV.cells]) i Tryd.underlying25 hi hz0 hz1 (fill2 x4 x8) ?_
     intro hs
     exact hK _ _ ((Below.refl _ _).alloc (Nat.le_refl _) _) ⟨⟨some ⟨w1.heap.size, 0, none⟩, 2, 2⟩, [x4, x8], rfl, hs, (fun k hk => by simp [Sl.blk] at hk; have := V0.out.size; have := hg.size; omega), fun x hx => by simp only [List.mem_cons, List.not_mem_nil, or_false] at hx; rcases hx with rfl | rfl <;> first | exact ⟨ho4.below ((Below.refl _ _).alloc (Nat.le_refl _) _), hf4, hn4⟩ | exact ⟨ho8.below ((Below.refl _ _).alloc (Nat.le_refl _) _), hf8, hn8⟩⟩
    ·intro w1 hg Ar seen
     obtain ⟨v9, e9, h9⟩ := seen.dp 9 80
     refine does_plain rfl fun K Q' hK => ?_
     obtain ⟨s, l, rfl, hs, hsb, ha⟩ := h9
     go_simp
     refine (handOf_any _ s _).mono ?_
     rintro e u ⟨rfl, hb⟩
     exact hK _ _ hb ⟨{ tag := 4325387, typ := 1, ks := s, kids := l }, rfl, some_of (hs.below hb) (fun x hx => (ha x hx).1.below hb), foot_of hsb (fun x hx => (ha x hx).2.1), (by show (1 : Int) ≠ 0; decide), nz_of (fun x hx => (ha x hx).2.2)⟩
  intro w1 hg
  refine upon_w' (js := [0, 1, 2, 3, 4, 5, 6, 7, 8, 9, 10]) (by rfl) ?_
  refine upon_e (some 71) (upon_e (some 72) (upon_e (some 73) (upon_e (some 74) (upon_v (some 75) fun v4 h4 => upon_e (some 76) (upon_e (some 77) (upon_e (some 78) (upon_v (some 79) fun v8 h8 => upon_v (some 80) fun v9 h9 => upon_v (some 81) fun v10 h10 => upon_n ?_)))))))
  obtain ⟨v, rfl, hvo, hvf, hvt, hvn⟩ := h10
  have HVT := hid hvt
  have VN := hid (V0.out.below hg)
  have HVO := hid hvo
  have HVF := hid hvf
  have HNZ := hid hvn
  clear hvo hvf hvn hvt hg h4 h8 h9
  go_simp
  go_wp2_with (refine wpList_store_obj rfl 27 _ _ rfl (b + 1) rfl _ rfl _ _ VN.out.res rfl iSize (arr_one _) ?_; intro w10 hb10 hc10 hs10; have HB10 := hid hb10; have HC10 := hid hc10; clear hb10 hc10 hs10)
  refine bodyPost_ret (results_cell_row rfl _ _ (b + 1) _ _ _ _ rfl HB10.out Tryd.underlying27 rfl iSize) rfl ?_
  exact VN.out.fin HC10.out HVO.out HVF.out HNZ.out HVT.out rfl
 rcases Bool.eq_false_or_eq_true (nm.toList == [85, 115, 97, 103, 101, 32, 76, 105, 109, 105, 116, 115]) with hn13 | hn13
 ·have p1 := pick_lo x.b 3 (by omega)
  have p2 := pick_hi x.b 3 (by omega)
  have HWR : Hid (IntKind.i64.wrap (1 + pick x.b 3) = 1 + pick x.b 3) := IntWalk.i64_in _ (by omega)
  clear p1 p2
  go_wp2_with fail
  refine (pick_any x.a 60 _ (by omega) (by omega)).mono ?_
  rintro e u ⟨rfl, rfl⟩
  by_cases hb4 : x.b.tmod 4 = 0
  ·have hb4' : (x.b.tmod 4 == 0) = true := by simpa using hb4
   go_wp2_with fail
   refine (pick_any x.b 70 _ (by omega) (by omega)).mono ?_
   rintro e u ⟨rfl, rfl⟩
   go_upto_region 29 with (fail)
   refine wp_region_each 11 [.eq (.int .i64 (pick x.a 60)), stSome (b + 2), .eq (.int .i64 (pick x.b 70)), stSome (b + 2), .eq (.pointer (some ⟨b, 2, none⟩)), .eq (.int .i64 x.b), .eq (.int .i64 (pick x.b 3)), .eq (.int .i64 (1 + pick x.b 3)), stSome (b + 2), stSomes (b + 2), stSome (b + 2)] (by kernel_rfl) (by kernel_rfl) (by kernel_rfl) (by kernel_rfl) ?_ ?_
   ·as_aux_lemma =>
     refine each_5 ?_ ?_ ?_ ?_ ?_ (each_5 ?_ ?_ ?_ ?_ ?_ (each_c ?_ (each_n)))
     ·intro w1 hg Ar seen
      have s5 := seen.sl 5 (.int .i64 (pick x.a 60))
      refine does_plain rfl fun K Q' hK => ?_
      go_simp; exact hK _ _ (Grow.refl _) rfl
     ·intro w1 hg Ar seen
      have e0 := seen.de 0 95
      refine does_plain rfl fun K Q' hK => ?_
      go_simp
      refine (handNum_any _ _ _ _).mono ?_
      rintro e u ⟨rfl, hb⟩
      exact hK _ _ hb ⟨_, rfl, numV_ok _ _ _ _, numV_foot _, by simp, numV_nz _ _ _⟩
     ·intro w1 hg Ar seen
      have s6 := seen.sl 6 (.int .i64 (pick x.b 70))
      refine does_plain rfl fun K Q' hK => ?_
      go_simp; exact hK _ _ (Grow.refl _) rfl
     ·intro w1 hg Ar seen
      have e2 := seen.de 2 97
      refine does_plain rfl fun K Q' hK => ?_
      go_simp
      refine (handNum_any _ _ _ _).mono ?_
      rintro e u ⟨rfl, hb⟩
      exact hK _ _ hb ⟨_, rfl, numV_ok _ _ _ _, numV_foot _, by simp, numV_nz _ _ _⟩
     ·intro w1 hg Ar seen
      have s3 := seen.sl 3 (.pointer (some ⟨b, 0, none⟩))
      refine does_plain rfl fun K Q' hK => ?_
      go_simp; exact hK _ _ (Grow.refl _) rfl
     ·intro w1 hg Ar seen
      have e4 := seen.de 4 99
      refine does_plain rfl fun K Q' hK => ?_
      have hc := cell_of_block (j := 2) ((hg.block _ (block_lt V0.out.box)).trans V0.out.box) rfl
      go_simp; exact hK _ _ (Grow.refl _) rfl
     ·intro w1 hg Ar seen
      have e5 := seen.de 5 100
      refine does_plain rfl fun K Q' hK => ?_
      go_simp
      refine (pick_any x.b 3 _ (by omega) (by omega)).mono ?_
      rintro e u ⟨rfl, rfl⟩
      exact hK _ _ (Grow.refl _) rfl
     ·intro w1 hg Ar seen
      have e6 := seen.de 6 101
      refine does_plain rfl fun K Q' hK => ?_
      have hs := HWR.out
      go_simp; exact hK _ _ (Grow.refl _) rfl
     ·intro w1 hg Ar seen
      have e7 := seen.de 7 102
      refine does_plain rfl fun K Q' hK => ?_
      go_simp
      refine (handNum_any _ _ _ _).mono ?_
      rintro e u ⟨rfl, hb⟩
      exact hK _ _ hb ⟨_, rfl, numV_ok _ _ _ _, numV_foot _, by simp, numV_nz _ _ _⟩
     ·intro w1 hg Ar seen
      obtain ⟨v1, e1, h1⟩ := seen.dp 1 96
      obtain ⟨v3, e3, h3⟩ := seen.dp 3 98
      obtain ⟨v8, e8, h8⟩ := seen.dp 8 103
      refine does_plain rfl fun K Q' hK => ?_
      obtain ⟨x1, rfl, ho1, hf1, hn1⟩ := h1
      obtain ⟨x3, rfl, ho3, hf3, hn3⟩ := h3
      obtain ⟨x8, rfl, ho8, hf8, hn8⟩ := h8
      refine wp_build_itemsB _ 27 3 _ rfl [x1, x3, x8] rfl (by decide) (by decide) (by simp [Act.eval, e1, e3, e8] <;> rfl) (x1.arr ++ x3.arr ++ x8.arr) (by simp [itmCells, ItV.cells]) i Tryd.underlying25 hi hz0 hz1 (fill3 x1 x3 x8) ?_
      intro hs
      exact hK _ _ ((Below.refl _ _).alloc (Nat.le_refl _) _) ⟨⟨some ⟨w1.heap.size, 0, none⟩, 3, 3⟩, [x1, x3, x8], rfl, hs, (fun k hk => by simp [Sl.blk] at hk; have := V0.out.size; have := hg.size; omega), fun x hx => by simp only [List.mem_cons, List.not_mem_nil, or_false] at hx; rcases hx with rfl | rfl | rfl <;> first | exact ⟨ho1.below ((Below.refl _ _).alloc (Nat.le_refl _) _), hf1, hn1⟩ | exact ⟨ho3.below ((Below.refl _ _).alloc (Nat.le_refl _) _), hf3, hn3⟩ | exact ⟨ho8.below ((Below.refl _ _).alloc (Nat.le_refl _) _), hf8, hn8⟩⟩
     ·intro w1 hg Ar seen
      obtain ⟨v9, e9, h9⟩ := seen.dp 9 104
      refine does_plain rfl fun K Q' hK => ?_
      obtain ⟨s, l, rfl, hs, hsb, ha⟩ := h9
      go_simp
      refine (handOf_any _ s _).mono ?_
      rintro e u ⟨rfl, hb⟩
      exact hK _ _ hb ⟨{ tag := 4325387, typ := 1, ks := s, kids := l }, rfl, some_of (hs.below hb) (fun x hx => (ha x hx).1.below hb), foot_of hsb (fun x hx => (ha x hx).2.1), (by show (1 : Int) ≠ 0; decide), nz_of (fun x hx => (ha x hx).2.2)⟩
   intro w1 hg
   refine upon_w' (js := [0, 1, 2, 3, 4, 5, 6, 7, 8, 9, 10]) (by rfl) ?_
   refine upon_e (some 95) (upon_v (some 96) fun v1 h1 => upon_e (some 97) (upon_v (some 98) fun v3 h3 => upon_e (some 99) (upon_e (some 100) (upon_e (some 101) (upon_e (some 102) (upon_v (some 103) fun v8 h8 => upon_v (some 104) fun v9 h9 => upon_v (some 105) fun v10 h10 => upon_n ?_))))))
   obtain ⟨v, rfl, hvo, hvf, hvt, hvn⟩ := h10
   have HVT := hid hvt
   have VN := hid (V0.out.below hg)
   have HVO := hid hvo
   have HVF := hid hvf
   have HNZ := hid hvn
   clear hvo hvf hvn hvt hg h1 h3 h8 h9
   go_simp
   go_wp2_with (refine wpList_store_obj rfl 27 _ _ rfl (b + 1) rfl _ rfl _ _ VN.out.res rfl iSize (arr_one _) ?_; intro w10 hb10 hc10 hs10; have HB10 := hid hb10; have HC10 := hid hc10; clear hb10 hc10 hs10)
   refine bodyPost_ret (results_cell_row rfl _ _ (b + 1) _ _ _ _ rfl HB10.out Tryd.underlying27 rfl iSize) rfl ?_
   exact VN.out.fin HC10.out HVO.out HVF.out HNZ.out HVT.out rfl
  ·have hb4' : (x.b.tmod 4 == 0) = false := by simpa using hb4
   go_upto_region 29 with (fail)
   refine wp_region_each 11 [.eq (.int .i64 (pick x.a 60)), stSome (b + 2), .eq (.int .i64 (pick x.a 60)), stSome (b + 2), .eq (.pointer (some ⟨b, 2, none⟩)), .eq (.int .i64 x.b), .eq (.int .i64 (pick x.b 3)), .eq (.int .i64 (1 + pick x.b 3)), stSome (b + 2), stSomes (b + 2), stSome (b + 2)] (by kernel_rfl) (by kernel_rfl) (by kernel_rfl) (by kernel_rfl) ?_ ?_
   ·as_aux_lemma =>
     refine each_5 ?_ ?_ ?_ ?_ ?_ (each_5 ?_ ?_ ?_ ?_ ?_ (each_c ?_ (each_n)))
     ·intro w1 hg Ar seen
      have s5 := seen.sl 5 (.int .i64 (pick x.a 60))
      refine does_plain rfl fun K Q' hK => ?_
      go_simp; exact hK _ _ (Grow.refl _) rfl
     ·intro w1 hg Ar seen
      have e0 := seen.de 0 95
      refine does_plain rfl fun K Q' hK => ?_
      go_simp
      refine (handNum_any _ _ _ _).mono ?_
      rintro e u ⟨rfl, hb⟩
      exact hK _ _ hb ⟨_, rfl, numV_ok _ _ _ _, numV_foot _, by simp, numV_nz _ _ _⟩
     ·intro w1 hg Ar seen
      have s6 := seen.sl 6 (.int .i64 (pick x.a 60))
      refine does_plain rfl fun K Q' hK => ?_
      go_simp; exact hK _ _ (Grow.refl _) rfl
     ·intro w1 hg Ar seen
      have e2 := seen.de 2 97
      refine does_plain rfl fun K Q' hK => ?_
      go_simp
      refine (handNum_any _ _ _ _).mono ?_
      rintro e u ⟨rfl, hb⟩
      exact hK _ _ hb ⟨_, rfl, numV_ok _ _ _ _, numV_foot _, by simp, numV_nz _ _ _⟩
     ·intro w1 hg Ar seen
      have s3 := seen.sl 3 (.pointer (some ⟨b, 0, none⟩))
      refine does_plain rfl fun K Q' hK => ?_
      go_simp; exact hK _ _ (Grow.refl _) rfl
     ·intro w1 hg Ar seen
      have e4 := seen.de 4 99
      refine does_plain rfl fun K Q' hK => ?_
      have hc := cell_of_block (j := 2) ((hg.block _ (block_lt V0.out.box)).trans V0.out.box) rfl
      go_simp; exact hK _ _ (Grow.refl _) rfl
     ·intro w1 hg Ar seen
      have e5 := seen.de 5 100
      refine does_plain rfl fun K Q' hK => ?_
      go_simp
      refine (pick_any x.b 3 _ (by omega) (by omega)).mono ?_
      rintro e u ⟨rfl, rfl⟩
      exact hK _ _ (Grow.refl _) rfl
     ·intro w1 hg Ar seen
      have e6 := seen.de 6 101
      refine does_plain rfl fun K Q' hK => ?_
      have hs := HWR.out
      go_simp; exact hK _ _ (Grow.refl _) rfl
     ·intro w1 hg Ar seen
      have e7 := seen.de 7 102
      refine does_plain rfl fun K Q' hK => ?_
      go_simp
      refine (handNum_any _ _ _ _).mono ?_
      rintro e u ⟨rfl, hb⟩
      exact hK _ _ hb ⟨_, rfl, numV_ok _ _ _ _, numV_foot _, by simp, numV_nz _ _ _⟩
     ·intro w1 hg Ar seen
      obtain ⟨v1, e1, h1⟩ := seen.dp 1 96
      obtain ⟨v3, e3, h3⟩ := seen.dp 3 98
      obtain ⟨v8, e8, h8⟩ := seen.dp 8 103
      refine does_plain rfl fun K Q' hK => ?_
      obtain ⟨x1, rfl, ho1, hf1, hn1⟩ := h1
      obtain ⟨x3, rfl, ho3, hf3, hn3⟩ := h3
      obtain ⟨x8, rfl, ho8, hf8, hn8⟩ := h8
      refine wp_build_itemsB _ 27 3 _ rfl [x1, x3, x8] rfl (by decide) (by decide) (by simp [Act.eval, e1, e3, e8] <;> rfl) (x1.arr ++ x3.arr ++ x8.arr) (by simp [itmCells, ItV.cells]) i Tryd.underlying25 hi hz0 hz1 (fill3 x1 x3 x8) ?_
      intro hs
      exact hK _ _ ((Below.refl _ _).alloc (Nat.le_refl _) _) ⟨⟨some ⟨w1.heap.size, 0, none⟩, 3, 3⟩, [x1, x3, x8], rfl, hs, (fun k hk => by simp [Sl.blk] at hk; have := V0.out.size; have := hg.size; omega), fun x hx => by simp only [List.mem_cons, List.not_mem_nil, or_false] at hx; rcases hx with rfl | rfl | rfl <;> first | exact ⟨ho1.below ((Below.refl _ _).alloc (Nat.le_refl _) _), hf1, hn1⟩ | exact ⟨ho3.below ((Below.refl _ _).alloc (Nat.le_refl _) _), hf3, hn3⟩ | exact ⟨ho8.below ((Below.refl _ _).alloc (Nat.le_refl _) _), hf8, hn8⟩⟩
     ·intro w1 hg Ar seen
      obtain ⟨v9, e9, h9⟩ := seen.dp 9 104
      refine does_plain rfl fun K Q' hK => ?_
      obtain ⟨s, l, rfl, hs, hsb, ha⟩ := h9
      go_simp
      refine (handOf_any _ s _).mono ?_
      rintro e u ⟨rfl, hb⟩
      exact hK _ _ hb ⟨{ tag := 4325387, typ := 1, ks := s, kids := l }, rfl, some_of (hs.below hb) (fun x hx => (ha x hx).1.below hb), foot_of hsb (fun x hx => (ha x hx).2.1), (by show (1 : Int) ≠ 0; decide), nz_of (fun x hx => (ha x hx).2.2)⟩
   intro w1 hg
   refine upon_w' (js := [0, 1, 2, 3, 4, 5, 6, 7, 8, 9, 10]) (by rfl) ?_
   refine upon_e (some 95) (upon_v (some 96) fun v1 h1 => upon_e (some 97) (upon_v (some 98) fun v3 h3 => upon_e (some 99) (upon_e (some 100) (upon_e (some 101) (upon_e (some 102) (upon_v (some 103) fun v8 h8 => upon_v (some 104) fun v9 h9 => upon_v (some 105) fun v10 h10 => upon_n ?_))))))
   obtain ⟨v, rfl, hvo, hvf, hvt, hvn⟩ := h10
   have HVT := hid hvt
   have VN := hid (V0.out.below hg)
   have HVO := hid hvo
   have HVF := hid hvf
   have HNZ := hid hvn
   clear hvo hvf hvn hvt hg h1 h3 h8 h9
   go_simp
   go_wp2_with (refine wpList_store_obj rfl 27 _ _ rfl (b + 1) rfl _ rfl _ _ VN.out.res rfl iSize (arr_one _) ?_; intro w10 hb10 hc10 hs10; have HB10 := hid hb10; have HC10 := hid hc10; clear hb10 hc10 hs10)
   refine bodyPost_ret (results_cell_row rfl _ _ (b + 1) _ _ _ _ rfl HB10.out Tryd.underlying27 rfl iSize) rfl ?_
   exact VN.out.fin HC10.out HVO.out HVF.out HNZ.out HVT.out rfl
 go_wp2_with fail
 refine (pick_any x.a 60 _ (by omega) (by omega)).mono ?_
 rintro e u ⟨rfl, rfl⟩
 go_wp2_with fail
 refine (handNum_any _ _ _ _).mono ?_
 rintro e wn ⟨rfl, hbn⟩
 have VN := hid (V0.out.below hbn)
 clear hbn
 go_wp2_with (refine wpList_store_obj rfl 27 _ _ rfl (b + 1) rfl _ rfl _ _ VN.out.res rfl iSize (arr_one _) ?_; intro w10 hb10 hc10 hs10; have HB10 := hid hb10; have HC10 := hid hc10; clear hb10 hc10 hs10)
 refine bodyPost_ret (results_cell_row rfl _ _ (b + 1) _ _ _ _ rfl HB10.out Tryd.underlying27 rfl iSize) rfl ?_
 exact VN.out.fin HC10.out (numV_ok _ _ _ _) (numV_foot _) (numV_nz _ _ _) (by simp) rfl
end Go.Proofs.YtbnbofooofedkaaDoor
