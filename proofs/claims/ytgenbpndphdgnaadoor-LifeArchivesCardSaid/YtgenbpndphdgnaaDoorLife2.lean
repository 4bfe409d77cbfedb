/- life: change, Move; law11's known. -/
import Derived.Test.YtgenbpndphdgnaaDoorLife
import Derived.Test.YtgenbpndphdgnaaDoorHand
namespace Go.Proofs.YtgenbpndphdgnaaDoor
open Go.RowKit
set_option linter.unusedVariables false
set_option linter.unusedSimpArgs false
set_option maxRecDepth 100000
set_option maxHeartbeats 1600000

/-- An object's box and a result's room. -/
structure Box2 (T : TypeId) (O : ObjD) (s : ObjV) (w W : World) (b : Nat) : Prop where
  obj : W.heap[b]? = some (.cells (objCells O s) T (0, 0))
  res : W.heap[b + 1]? = some (.cells (objCells zObj zObjV) T (0, 0))
  bel : Below b w W
  size : b + 2 ≤ W.heap.size
theorem box2_start {T : TypeId} {O : ObjD} {s : ObjV} {w : World} {b : Nat} (hb : w.heap.size = b) : Box2 T O s w ((w.alloc (.cells (objCells O s) T)).alloc (.cells (objCells zObj zObjV) T)) b := by
  subst hb
  exact ⟨heap_alloc2_old _ _ _, heap_alloc2_new _ _ _, ((Below.refl _ _).alloc (Nat.le_refl _) _).alloc (by simp) _, by simp⟩
section
variable {T : TypeId} {O O' : ObjD} {s s' : ObjV} {w W W' : World} {b : Nat}
theorem Box2.below (h : Box2 T O s w W b) (hb : Below W.heap.size W W') : Box2 T O s w W' b :=
  ⟨(hb.block _ (block_lt h.obj)).trans h.obj, (hb.block _ (block_lt h.res)).trans h.res, h.bel.trans (hb.mono (by have := h.size; omega)), Nat.le_trans h.size hb.size⟩
theorem Box2.store (h : Box2 T O s w W b) (h1 : W'.heap[b]? = some (.cells (objCells O' s') T (0, 0))) (hc : Chg [b] W W') : Box2 T O' s' w W' b :=
  ⟨h1, (hc.block _ (block_lt h.res) (by simp)).trans h.res, h.bel.trans (hc.below (fun k hk => by rw [List.mem_singleton.1 hk]; exact Nat.le_refl _) (by have := h.size; omega)), Nat.le_trans h.size hc.size⟩
theorem Box2.cell (h : Box2 T O s w W b) {j : Nat} {v : Value} (hv : (objCells O s)[j]? = some v) : W.cell? ⟨b, j, none⟩ = some v := cell_of_block h.obj hv
theorem Box2.fz (h : Box2 T O s w W b) (j : Nat) : W.frozen? ⟨b, j, none⟩ = false := frozen_of_block h.obj
theorem Box2.set (h : Box2 T O s w W b) (j : Nat) (v : Value) (he : (objCells O s).setIfInBounds j v = objCells O' s') : Box2 T O' s' w (W.setCell ⟨b, j, none⟩ v) b :=
  h.store (he ▸ block_setCell h.obj v) ((Chg.refl [b] W).setCell (.inl (by simp)) v)
theorem Box2.date (h : Box2 T O s w W b) (hl : O.dates.length = 10) (i : Nat) (hi : i < 10) (x : Bool) (t : Int) : Box2 T (O.setDate i (x, t)) s w ((W.setCell ⟨b, 7 + i * 2, none⟩ (.bool x)).setCell ⟨b, 7 + i * 2 + 1, none⟩ (.int .i64 t)) b := by
  refine h.store ?_ (((Chg.refl [b] W).setCell (.inl (by simp)) _).setCell (.inl (by simp)) _)
  rw [← osD O s hl i hi]
  exact block_setCell (block_setCell h.obj _) _
end
/-- An object's box alone. -/
structure Box1 (T : TypeId) (O : ObjD) (s : ObjV) (w W : World) (b : Nat) : Prop where
  obj : W.heap[b]? = some (.cells (objCells O s) T (0, 0))
  bel : Below b w W
section
variable {T : TypeId} {O O' : ObjD} {s s' : ObjV} {w W W' : World} {b : Nat}
theorem Box1.below (h : Box1 T O s w W b) (hb : Below W.heap.size W W') : Box1 T O s w W' b :=
  ⟨(hb.block _ (block_lt h.obj)).trans h.obj, h.bel.trans (hb.mono (by have := block_lt h.obj; omega))⟩
theorem Box1.store (h : Box1 T O s w W b) (h1 : W'.heap[b]? = some (.cells (objCells O' s') T (0, 0))) (hc : Chg [b] W W') : Box1 T O' s' w W' b :=
  ⟨h1, h.bel.trans (hc.below (fun k hk => by rw [List.mem_singleton.1 hk]; exact Nat.le_refl _) (by have := block_lt h.obj; omega))⟩
theorem Box1.cell (h : Box1 T O s w W b) {j : Nat} {v : Value} (hv : (objCells O s)[j]? = some v) : W.cell? ⟨b, j, none⟩ = some v := cell_of_block h.obj hv
theorem Box1.fz (h : Box1 T O s w W b) (j : Nat) : W.frozen? ⟨b, j, none⟩ = false := frozen_of_block h.obj
theorem Box1.set (h : Box1 T O s w W b) (j : Nat) (v : Value) (he : (objCells O s).setIfInBounds j v = objCells O' s') : Box1 T O' s' w (W.setCell ⟨b, j, none⟩ v) b :=
  h.store (he ▸ block_setCell h.obj v) ((Chg.refl [b] W).setCell (.inl (by simp)) v)
theorem Box1.date (h : Box1 T O s w W b) (hl : O.dates.length = 10) (i : Nat) (hi : i < 10) (x : Bool) (t : Int) : Box1 T (O.setDate i (x, t)) s w ((W.setCell ⟨b, 7 + i * 2, none⟩ (.bool x)).setCell ⟨b, 7 + i * 2 + 1, none⟩ (.int .i64 t)) b := by
  refine h.store ?_ (((Chg.refl [b] W).setCell (.inl (by simp)) _).setCell (.inl (by simp)) _)
  rw [← osD O s hl i hi]
  exact block_setCell (block_setCell h.obj _) _
end
theorem ObjM.zero (w : World) : ObjM w zObj zObjV := by
  have h : ∀ size, SlR w {} size [] := fun size => ⟨⟨by simp, fun j hj => by simp at hj⟩, fun _ => rfl, by simp, fun k hk => by simp [Sl.blk] at hk, Nat.le_refl _⟩
  exact ⟨h 1, h 1, h 2, h 2, rfl⟩
theorem setDate_len (O : ObjD) (i : Nat) (d : Bool × Int) : (O.setDate i d).dates.length = O.dates.length := by simp [ObjD.setDate]

theorem change_any (O : ObjD) (s : ObjV) (now : Int) (w : World) (h : ObjM w O s) :
    Calls Tryd.prog 22 #[.agg (objCells O s), .int .i64 now] w fun e w' => ∃ s' : ObjV, e = .returned (.agg (objCells (O.setDate 9 (true, now)) s')) ∧ ObjM w' (O.setDate 9 (true, now)) s' ∧ (∀ k ∈ s'.foot, w.heap.size ≤ k) ∧ Below w.heap.size w w' := by
  have H := hid h; clear h
  generalize hbe : w.heap.size = b
  have HBE := hid hbe; clear hbe
  go_enter Tryd.func22, Tryd.ntmps22
  go_upto_region 1 with (refine wpList_alloc_obj rfl 35 rfl _ oZeroO ?_)
  go_simp
  have B0 := hid (box2_start (T := 35) (O := O) (s := s) (w := w) HBE.out)
  have hO := H.out.below (B0.out.bel.mono (by rw [HBE.out]; exact Nat.le_refl _))
  have hlt := H.out.lt
  rw [HBE.out] at hlt ⊢
  have HLT := hid hlt
  generalize (w.alloc (.cells (objCells O s) 35)).alloc (.cells (objCells zObj zObjV) 35) = W at *
  have HO := hid hO
  clear hO hlt H
  go_wp2_with (first | (refine wpList_load_row rfl 35 _ rfl b rfl _ _ _ _ B0.out.obj Tryd.underlying35 rfl (by rw [objCells_size]; exact oSizeO) ?_) | fail)
  refine (copy_any O s _ HO.out).mono ?_
  rintro e w2 ⟨s2, rfl, hm2, hf2, hb2⟩
  have B2 := hid (B0.out.below hb2)
  have HM2 := hid hm2
  have HF2 := hid (fun k hk => Nat.le_trans B0.out.size (hf2 k hk))
  clear hm2 hf2 hb2 B0 HO
  go_wp2_with (refine wpList_store_obj rfl 35 _ _ rfl b rfl _ rfl _ _ B2.out.obj rfl (by rw [objCells_size]; exact oSizeO) (oc_one _ _) ?_; intro w3 hb3 hc3 hs3; have B3 := hid (B2.out.store hb3 hc3); have HM3 := hid (HM2.out.keep hc3 (fun k hk hm => by have := HF2.out k hk; have := List.mem_singleton.1 hm; omega)); clear hb3 hc3 hs3)
  refine (at_any now _).mono ?_
  rintro e w4 ⟨rfl, hb4⟩
  have b4 := B3.out.below hb4
  have HM4 := hid (HM3.out.below hb4)
  have hfz := b4.fz
  have c25 := b4.cell (j := 25) rfl
  have c26 := b4.cell (j := 26) rfl
  have B5 := hid (b4.date HM4.out.dl 9 (by decide) true now)
  have hc5 : Hid (Chg [b] w4 ((w4.setCell ⟨b, 7 + 9 * 2, none⟩ (.bool true)).setCell ⟨b, 7 + 9 * 2 + 1, none⟩ (.int .i64 now))) := ((Chg.refl [b] w4).setCell (.inl (by simp)) _).setCell (.inl (by simp)) _
  have HM5 := hid (HM4.out.keep hc5.out (fun k hk hm => by have := HF2.out k hk; have := List.mem_singleton.1 hm; omega))
  clear hb4 b4 B3 HM3 B2 HM2
  go_upto_region 3 with (fail)
  simp only [Nat.reduceMul, Nat.reduceAdd] at B5 HM5 hc5
  generalize (w4.setCell ⟨b, 25, none⟩ (.bool true)).setCell ⟨b, 26, none⟩ (.int .i64 now) = w5 at *
  clear hfz c25 c26 hc5 HM4
  have HM6 := hid (HM5.out.data (O' := O.setDate 9 (true, now)) rfl rfl rfl rfl (by rw [setDate_len]; exact HM5.out.dl))
  go_wp2_with (first | (refine wpList_load_row rfl 35 _ rfl b rfl _ _ _ _ B5.out.obj Tryd.underlying35 rfl (by rw [objCells_size]; exact oSizeO) ?_) | (refine wpList_store_obj rfl 35 _ _ rfl (b + 1) rfl _ rfl _ _ B5.out.res rfl (by rw [objCells_size]; exact oSizeO) (oc_one _ _) ?_; intro w6 hb6 hc6 hs6; have HB6 := hid hb6; have HC6 := hid hc6; clear hb6 hc6 hs6))
  refine bodyPost_ret (results_cell_row rfl _ _ (b + 1) _ _ _ _ rfl HB6.out Tryd.underlying35 rfl (by rw [objCells_size]; exact oSizeO)) rfl ?_
  refine ⟨s2, rfl, HM6.out.keep HC6.out (fun k hk hm => by have := HF2.out k hk; have := List.mem_singleton.1 hm; omega), fun k hk => by have := HF2.out k hk; omega, ?_⟩
  exact B5.out.bel.trans (HC6.out.below (fun k hk => by rw [List.mem_singleton.1 hk]; omega) (by have := B5.out.size; omega))
theorem ret_agg {O O' : ObjD} {s : ObjV} (h : O = O') : Ending.returned (.agg (objCells O s)) = .returned (.agg (objCells O' s)) := by rw [h]
/-- life.Move -/
theorem move_any (O : ObjD) (s : ObjV) (now : Int) (w : World) (h : ObjM w O s) :
    Calls Tryd.prog 14 #[.agg (objCells O s), .int .i64 now] w fun e w' => ∃ s' : ObjV, e = .returned (.agg (objCells (movedOf O now) s')) ∧ ObjM w' (movedOf O now) s' ∧ (∀ k ∈ s'.foot, w.heap.size ≤ k) ∧ Below w.heap.size w w' := by
  have H := hid h; clear h
  generalize hbe : w.heap.size = b
  have HBE := hid hbe; clear hbe
  go_enter Tryd.func14, Tryd.ntmps14
  go_upto_region 1 with (refine wpList_alloc_obj rfl 35 rfl _ oZeroO ?_)
  go_simp
  have B0 := hid (box2_start (T := 35) (O := O) (s := s) (w := w) HBE.out)
  have hO := H.out.below (B0.out.bel.mono (by rw [HBE.out]; exact Nat.le_refl _))
  have hlt := H.out.lt
  rw [HBE.out] at hlt ⊢
  have HLT := hid hlt
  generalize (w.alloc (.cells (objCells O s) 35)).alloc (.cells (objCells zObj zObjV) 35) = W at *
  have HO := hid hO
  clear hO hlt H
  go_wp2_with (first | (refine wpList_load_row rfl 35 _ rfl b rfl _ _ _ _ B0.out.obj Tryd.underlying35 rfl (by rw [objCells_size]; exact oSizeO) ?_) | fail)
  refine (due_any O s now _).mono ?_
  rintro e w2 ⟨a, n, c, rfl, ho2, hb2⟩
  have B2 := hid (B0.out.below hb2)
  have HM2 := hid (HO.out.below hb2)
  have HO2 := hid ho2
  have HSZ := hid B0.out.size
  have hl : (dueOf O now).length = n := by simpa using ho2.1
  have HL := hid hl
  clear ho2 hb2 B0 HO hl
  by_cases hn : n = 0
  · subst hn
    have HMV : Hid (movedOf O now = O) := by unfold movedOf; rw [List.eq_nil_of_length_eq_zero HL.out]; rfl
    go_wp2_with (first | (refine wpList_load_row rfl 35 _ rfl b rfl _ _ _ _ B2.out.obj Tryd.underlying35 rfl (by rw [objCells_size]; exact oSizeO) ?_) | fail)
    refine (copy_any O s _ HM2.out).mono ?_
    rintro e w3 ⟨s3, rfl, hm3, hf3, hb3⟩
    have B3 := hid (B2.out.below hb3)
    have HM3 := hid hm3
    have HF3 := hid (fun k hk => Nat.le_trans B2.out.size (hf3 k hk))
    clear hm3 hf3 hb3
    go_wp2_with (refine wpList_store_obj rfl 35 _ _ rfl (b + 1) rfl _ rfl _ _ B3.out.res rfl (by rw [objCells_size]; exact oSizeO) (oc_one _ _) ?_; intro w6 hb6 hc6 hs6; have HB6 := hid hb6; have HC6 := hid hc6; clear hb6 hc6 hs6)
    refine bodyPost_ret (results_cell_row rfl _ _ (b + 1) _ _ _ _ rfl HB6.out Tryd.underlying35 rfl (by rw [objCells_size]; exact oSizeO)) rfl ?_
    refine ⟨s3, ret_agg HMV.out.symm, ?_, fun k hk => by have := HF3.out k hk; omega, B3.out.bel.trans (HC6.out.below (fun k hk => by rw [List.mem_singleton.1 hk]; omega) (by have := B3.out.size; omega))⟩
    rw [HMV.out]
    exact HM3.out.keep HC6.out (fun k hk hm => by have := HF3.out k hk; have := List.mem_singleton.1 hm; omega)
  · obtain ⟨m, rfl⟩ : ∃ m, n = m + 1 := ⟨n - 1, by omega⟩
    have hne : ((m : Int) + 1 == 0) = false := by simp; omega
    obtain ⟨z, hz⟩ : ∃ z, (dueOf O now)[m]? = some z := ⟨(dueOf O now)[m]'(by rw [HL.out]; omega), List.getElem?_eq_getElem _⟩
    have HMV : Hid (movedOf O now = { O.setDate 9 (true, now) with st := z }) := by
      unfold movedOf
      rw [List.getLast?_eq_getElem?, HL.out, Nat.add_sub_cancel, hz]
      try rfl
    obtain ⟨g, hg, hgb, hglt⟩ := (own_slice HO2.out).2.2 (by omega)
    subst hg
    have hcz : w2.cell? ⟨g, m, none⟩ = some (.int .i64 z) := by
      rw [HO2.out.cellAt m (by omega), List.getElem?_map, hz]; rfl
    have HCZ := hid hcz
    have hm63 : m ≤ 2 := by
      have : ∀ st d1 d4, (dueV st d1 d4 now).length ≤ 2 := by
        intro st d1 d4; unfold dueV; split
        · split
          · split <;> simp
          · simp
        · split
          · split <;> simp
          · simp
      have := this O.st (O.dat 1) (O.dat 4)
      have h2 := HL.out
      unfold dueOf at h2
      omega
    clear hz hcz hn hglt
    go_wp2_with (first | (refine wpList_load_row rfl 35 _ rfl b rfl _ _ _ _ B2.out.obj Tryd.underlying35 rfl (by rw [objCells_size]; exact oSizeO) ?_) | fail)
    refine (change_any O s now _ HM2.out).mono ?_
    rintro e w3 ⟨s3, rfl, hm3, hf3, hb3⟩
    have B3 := hid (B2.out.below hb3)
    have HM3 := hid hm3
    have HF3 := hid (fun k hk => Nat.le_trans B2.out.size (hf3 k hk))
    have HC3 := hid (cell_later hb3 HCZ.out)
    clear hm3 hf3 hb3 B2 HM2 HO2 HCZ
    have HGB := hid (Nat.le_trans HSZ.out hgb)
    clear hgb HSZ
    go_upto_region 5 with (refine wpList_store_obj rfl 35 _ _ rfl b rfl _ rfl _ _ B3.out.obj rfl (by rw [objCells_size]; exact oSizeO) (oc_one _ _) ?_; intro w4 hb4 hc4 hs4; have B4 := hid (B3.out.store hb4 hc4); have HM4 := hid (HM3.out.keep hc4 (fun k hk hm => by have := HF3.out k hk; have := List.mem_singleton.1 hm; omega)); have HC4 := hid (hc4.cell HC3.out (by have := HGB.out; simp; omega)); clear hb4 hc4 hs4)
    go_simp
    have hc := HC4.out
    have hfz := B4.out.fz
    have c6 := B4.out.cell (oc6 _ s3)
    have B5 := hid (B4.out.set 6 (.int .i64 z) (os6 _ s3 z))
    have HM5 := hid ((HM4.out.keep ((Chg.refl [b] w4).setCell (p := ⟨b, 6, none⟩) (.inl (by simp)) (.int .i64 z)) (fun k hk hm => by have := HF3.out k hk; have := List.mem_singleton.1 hm; omega)).data (O' := { O.setDate 9 (true, now) with st := z }) rfl rfl rfl rfl (by have := HM4.out.dl; simpa using this))
    clear B3 HM3 HC3 HC4 HGB B4 HM4
    go_upto_region 6 with (fail)
    clear hc hfz c6
    generalize w4.setCell ⟨b, 6, none⟩ (.int .i64 z) = w5 at *
    go_wp2_with (first | (refine wpList_load_row rfl 35 _ rfl b rfl _ _ _ _ B5.out.obj Tryd.underlying35 rfl (by rw [objCells_size]; exact oSizeO) ?_) | (refine wpList_store_obj rfl 35 _ _ rfl (b + 1) rfl _ rfl _ _ B5.out.res rfl (by rw [objCells_size]; exact oSizeO) (oc_one _ _) ?_; intro w6 hb6 hc6 hs6; have HB6 := hid hb6; have HC6 := hid hc6; clear hb6 hc6 hs6))
    refine bodyPost_ret (results_cell_row rfl _ _ (b + 1) _ _ _ _ rfl HB6.out Tryd.underlying35 rfl (by rw [objCells_size]; exact oSizeO)) rfl ?_
    refine ⟨s3, ret_agg HMV.out.symm, ?_, fun k hk => by have := HF3.out k hk; omega, B5.out.bel.trans (HC6.out.below (fun k hk => by rw [List.mem_singleton.1 hk]; omega) (by have := B5.out.size; omega))⟩
    rw [HMV.out]
    exact HM5.out.keep HC6.out (fun k hk hm => by have := HF3.out k hk; have := List.mem_singleton.1 hm; omega)
def kObj : ObjD := { id := ⟨#[49]⟩, typ := 2, st := 1 }
theorem known11_any (w : World) : Calls Tryd.prog 7 #[] w fun e w' => e = .returned (.bool true) ∧ Below w.heap.size w w' := by
  have hbu : ∀ w, (Instr.build 35 #[(0, .string ⟨#[49]⟩), (1, .int .i64 2), (6, .int .i64 1)]).run Tryd.prog w = .ok (.agg (objCells kObj zObjV)) w := fun w => by kernel_rfl
  generalize hbe : w.heap.size = b
  have HBE := hid hbe; clear hbe
  go_enter Tryd.func7, Tryd.ntmps7
  go_upto_region 1 with (fail)
  refine wp_region_lit ?_
  refine wpList_build_obj rfl 35 _ rfl #[(0, .string ⟨#[49]⟩), (1, .int .i64 2), (6, .int .i64 1)] (by simp [Act.eval]) _ (hbu _) ?_
  refine wpList_alloc_obj rfl 35 rfl _ oZeroO ?_
  refine wpList_store_obj rfl 35 _ _ rfl w.heap.size rfl _ rfl _ _ (block_new _ _) rfl (by rw [objCells_size]; exact oSizeO) (oc_one _ _) ?_
  intro w1 hb1 hc1 hs1
  have hB1 : Below b w w1 := by
    rw [← HBE.out]
    exact ((Below.refl _ w).alloc (Nat.le_refl _) _).trans (hc1.below (fun k hk => by rw [List.mem_singleton.1 hk]; exact Nat.le_refl _) (by simp))
  rw [HBE.out] at hb1 ⊢
  have B1 : Hid (Box1 35 kObj zObjV w w1 b) := ⟨hb1, hB1⟩
  clear hb1 hc1 hs1 hB1 hbu
  go_simp
  go_wp2_with fail
  refine (lawDate_any 5 _).mono ?_
  rintro e w2 ⟨rfl, hb2⟩
  have b2 := B1.out.below hb2
  have hfz := b2.fz
  have k9 := b2.cell (j := 9) rfl
  have k10 := b2.cell (j := 10) rfl
  have B2 := hid (b2.date rfl 1 (by decide) true 5)
  clear hb2 b2 B1
  go_upto_region 3 with (fail)
  simp only [Nat.reduceMul, Nat.reduceAdd] at B2
  generalize (w2.setCell ⟨b, 9, none⟩ (.bool true)).setCell ⟨b, 10, none⟩ (.int .i64 5) = w3 at *
  clear hfz k9 k10
  go_wp2_with fail
  refine (lawDate_any 7 _).mono ?_
  rintro e w4 ⟨rfl, hb4⟩
  have b4 := B2.out.below hb4
  have hfz := b4.fz
  have k15 := b4.cell (j := 15) rfl
  have k16 := b4.cell (j := 16) rfl
  have B4 := hid (b4.date rfl 4 (by decide) true 7)
  clear hb4 b4 B2
  go_upto_region 4 with (fail)
  simp only [Nat.reduceMul, Nat.reduceAdd] at B4
  generalize (w4.setCell ⟨b, 15, none⟩ (.bool true)).setCell ⟨b, 16, none⟩ (.int .i64 7) = w5 at *
  clear hfz k15 k16
  have hdue : dueOf ((kObj.setDate 1 (true, 5)).setDate 4 (true, 7)) 9 = [2, 3] := by kernel_rfl
  have hmv : (movedOf ((kObj.setDate 1 (true, 5)).setDate 4 (true, 7)) 9).st = 3 := by kernel_rfl
  have hm0 : ∀ w, ObjM w ((kObj.setDate 1 (true, 5)).setDate 4 (true, 7)) zObjV := fun w => (ObjM.zero w).data rfl rfl rfl rfl rfl
  generalize (kObj.setDate 1 (true, 5)).setDate 4 (true, 7) = K at *
  have HD := hid hdue; have HMV := hid hmv; have HM0 := hid hm0
  clear hdue hmv hm0
  go_wp2_with (first | (refine wpList_load_row rfl 35 _ rfl b rfl _ _ _ _ B4.out.obj Tryd.underlying35 rfl (by rw [objCells_size]; exact oSizeO) ?_) | fail)
  refine (due_any K zObjV 9 _).mono ?_
  rintro e w6 ⟨a, n, c, rfl, ho, hb6⟩
  rw [HD.out] at ho
  obtain rfl : n = 2 := by have := ho.1; simp at this; omega
  obtain ⟨g, hg, _⟩ := (own_slice ho).2.2 (by omega)
  subst hg
  have B6 := hid (B4.out.below hb6)
  have HO6 := hid ho
  clear ho hb6 B4
  have e25 : edgeB 2 5 = false := by decide
  have e24 : edgeB 2 4 = true := by decide
  go_wp2_with fail
  refine (edge_any 2 5 _).mono ?_
  rintro e w7 ⟨rfl, rfl⟩
  rw [e25]
  go_wp2_with fail
  refine (edge_any 2 4 _).mono ?_
  rintro e w7 ⟨rfl, rfl⟩
  rw [e24]
  go_wp2_with (first | (refine wpList_load_on rfl 35 _ rfl b rfl _ _ _ _ B6.out.obj Tryd.underlying35 rfl (by rw [objCells_size]; exact oSizeO) ?_) | fail)
  refine (move_any K zObjV 9 _ (HM0.out _)).mono ?_
  rintro e w8 ⟨s8, rfl, hm8, hf8, hb8⟩
  have f6 := oc6 (movedOf K 9) s8
  rw [HMV.out] at f6
  have ho8 := (Chg.of_below hb8 []).owns HO6.out (fun k _ hm => by cases hm)
  have k0 : w8.cell? ⟨g, 0, none⟩ = some (.int .i64 2) := ho8.cellAt 0 (by omega)
  have k1 : w8.cell? ⟨g, 1, none⟩ = some (.int .i64 3) := ho8.cellAt 1 (by omega)
  have B8 := hid (B6.out.below hb8)
  clear hm8 hf8 hb8 ho8 HO6 B6
  generalize objCells (movedOf K 9) s8 = A at *
  have hfld := fun w => run_field_cell (P := Tryd.prog) Tryd.underlying35 6 rfl Tryd.underlying3 rfl A _ f6 w
  go_wp2
  go_ret
  exact ⟨rfl, B8.out.bel⟩
end Go.Proofs.YtgenbpndphdgnaaDoor
