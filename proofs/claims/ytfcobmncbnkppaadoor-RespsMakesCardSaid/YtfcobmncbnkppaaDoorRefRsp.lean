/- locksmithref15: Word, Whole, Undo, OfItem. -/
import Derived.Test.YtfcobmncbnkppaaDoorRsp4
namespace Go.Proofs.YtfcobmncbnkppaaDoor
open Go.RowKit
set_option linter.unusedVariables false
set_option linter.unusedSimpArgs false
set_option maxRecDepth 100000
set_option maxHeartbeats 3200000
theorem refWord_any (r : Int) (w : World) : Calls Tryd.prog 15 #[.int .i64 r] w fun e w' => e = .returned (.string (wordS r)) ∧ w = w' := by
  by_cases h0 : r = 0
  · subst h0
    rw [show wordS 0 = ⟨#[70, 105, 110, 101]⟩ by kernel_rfl]
    go_enter Tryd.func15, Tryd.ntmps15
    go_wp2_with fail
    go_ret
    exact ⟨rfl, rfl⟩
  by_cases h1 : r = 1
  · subst h1
    rw [show wordS 1 = ⟨#[78, 111, 116, 70, 111, 117, 110, 100]⟩ by kernel_rfl]
    go_enter Tryd.func15, Tryd.ntmps15
    go_wp2_with fail
    go_ret
    exact ⟨rfl, rfl⟩
  by_cases h2 : r = 2
  · subst h2
    rw [show wordS 2 = ⟨#[84, 111, 111, 76, 97, 114, 103, 101]⟩ by kernel_rfl]
    go_enter Tryd.func15, Tryd.ntmps15
    go_wp2_with fail
    go_ret
    exact ⟨rfl, rfl⟩
  by_cases h4 : r = 4
  · subst h4
    rw [show wordS 4 = ⟨#[73, 110, 118, 97, 108, 105, 100]⟩ by kernel_rfl]
    go_enter Tryd.func15, Tryd.ntmps15
    go_wp2_with fail
    go_ret
    exact ⟨rfl, rfl⟩
  by_cases h5 : r = 5
  · subst h5
    rw [show wordS 5 = ⟨#[85, 110, 115, 117, 112, 112, 111, 114, 116, 101, 100]⟩ by kernel_rfl]
    go_enter Tryd.func15, Tryd.ntmps15
    go_wp2_with fail
    go_ret
    exact ⟨rfl, rfl⟩
  by_cases h6 : r = 6
  · subst h6
    rw [show wordS 6 = ⟨#[77, 105, 115, 115, 105, 110, 103]⟩ by kernel_rfl]
    go_enter Tryd.func15, Tryd.ntmps15
    go_wp2_with fail
    go_ret
    exact ⟨rfl, rfl⟩
  by_cases h7 : r = 7
  · subst h7
    rw [show wordS 7 = ⟨#[70, 105, 101, 108, 100]⟩ by kernel_rfl]
    go_enter Tryd.func15, Tryd.ntmps15
    go_wp2_with fail
    go_ret
    exact ⟨rfl, rfl⟩
  by_cases h8 : r = 8
  · subst h8
    rw [show wordS 8 = ⟨#[70, 101, 97, 116, 117, 114, 101]⟩ by kernel_rfl]
    go_enter Tryd.func15, Tryd.ntmps15
    go_wp2_with fail
    go_ret
    exact ⟨rfl, rfl⟩
  by_cases h10 : r = 10
  · subst h10
    rw [show wordS 10 = ⟨#[67, 114, 121, 112, 116, 111]⟩ by kernel_rfl]
    go_enter Tryd.func15, Tryd.ntmps15
    go_wp2_with fail
    go_ret
    exact ⟨rfl, rfl⟩
  by_cases h11 : r = 11
  · subst h11
    rw [show wordS 11 = ⟨#[73, 108, 108, 101, 103, 97, 108]⟩ by kernel_rfl]
    go_enter Tryd.func15, Tryd.ntmps15
    go_wp2_with fail
    go_ret
    exact ⟨rfl, rfl⟩
  by_cases h12 : r = 12
  · subst h12
    rw [show wordS 12 = ⟨#[68, 101, 110, 105, 101, 100]⟩ by kernel_rfl]
    go_enter Tryd.func15, Tryd.ntmps15
    go_wp2_with fail
    go_ret
    exact ⟨rfl, rfl⟩
  by_cases h13 : r = 13
  · subst h13
    rw [show wordS 13 = ⟨#[65, 114, 99, 104, 105, 118, 101, 100]⟩ by kernel_rfl]
    go_enter Tryd.func15, Tryd.ntmps15
    go_wp2_with fail
    go_ret
    exact ⟨rfl, rfl⟩
  by_cases h14 : r = 14
  · subst h14
    rw [show wordS 14 = ⟨#[73, 110, 100, 101, 120]⟩ by kernel_rfl]
    go_enter Tryd.func15, Tryd.ntmps15
    go_wp2_with fail
    go_ret
    exact ⟨rfl, rfl⟩
  by_cases h256 : r = 256
  · subst h256
    rw [show wordS 256 = ⟨#[71, 101, 110, 101, 114, 97, 108]⟩ by kernel_rfl]
    go_enter Tryd.func15, Tryd.ntmps15
    go_wp2_with fail
    go_ret
    exact ⟨rfl, rfl⟩
  have e0 : (r == 0) = false := by simpa using h0
  have e1 : (r == 1) = false := by simpa using h1
  have e2 : (r == 2) = false := by simpa using h2
  have e4 : (r == 4) = false := by simpa using h4
  have e5 : (r == 5) = false := by simpa using h5
  have e6 : (r == 6) = false := by simpa using h6
  have e7 : (r == 7) = false := by simpa using h7
  have e8 : (r == 8) = false := by simpa using h8
  have e10 : (r == 10) = false := by simpa using h10
  have e11 : (r == 11) = false := by simpa using h11
  have e12 : (r == 12) = false := by simpa using h12
  have e13 : (r == 13) = false := by simpa using h13
  have e14 : (r == 14) = false := by simpa using h14
  have e256 : (r == 256) = false := by simpa using h256
  have f0 : ((0 : Int) == r) = false := by simp; omega
  have f1 : ((1 : Int) == r) = false := by simp; omega
  have f2 : ((2 : Int) == r) = false := by simp; omega
  have f4 : ((4 : Int) == r) = false := by simp; omega
  have f5 : ((5 : Int) == r) = false := by simp; omega
  have f6 : ((6 : Int) == r) = false := by simp; omega
  have f7 : ((7 : Int) == r) = false := by simp; omega
  have f8 : ((8 : Int) == r) = false := by simp; omega
  have f10 : ((10 : Int) == r) = false := by simp; omega
  have f11 : ((11 : Int) == r) = false := by simp; omega
  have f12 : ((12 : Int) == r) = false := by simp; omega
  have f13 : ((13 : Int) == r) = false := by simp; omega
  have f14 : ((14 : Int) == r) = false := by simp; omega
  have f256 : ((256 : Int) == r) = false := by simp; omega
  rw [show wordS r = ⟨#[]⟩ by unfold wordS wordL; simp only [List.find?, f0, f1, f2, f4, f5, f6, f7, f8, f10, f11, f12, f13, f14, f256]]
  clear f0 f1 f2 f4 f5 f6 f7 f8 f10 f11 f12 f13 f14 f256 h0 h1 h2 h4 h5 h6 h7 h8 h10 h11 h12 h13 h14 h256
  go_enter Tryd.func15, Tryd.ntmps15
  go_wp2_with fail
  go_ret
  exact ⟨rfl, rfl⟩
theorem refWhole_any (t r : Int) (w : World) : Calls Tryd.prog 18 #[.int .i64 t, .int .i64 r] w fun e w' => ∃ v : RsV, e = .returned (.agg v.arr) ∧ v.rq = wholeP t r ∧ v.ok w' ∧ v.its.n = 1 ∧ Below w.heap.size w w' := by
  obtain ⟨iq, hiq, hy0, hy1, hy2⟩ := info_parts sInfo
  generalize hbe : w.heap.size = b
  have HBE := hid hbe; clear hbe
  go_enter Tryd.func18, Tryd.ntmps18
  go_upto_region 1 with (refine wpList_alloc_obj rfl 43 rfl _ pZero ?_)
  go_simp
  have hbw : Below w.heap.size w (w.alloc (.cells rpZ.arr 43)) := (Below.refl _ _).alloc (Nat.le_refl _) _
  have hb0 := block_new w (.cells rpZ.arr 43)
  have hsz : (w.alloc (.cells rpZ.arr 43)).heap.size = w.heap.size + 1 := by simp
  rw [HBE.out] at hbw hb0 hsz ⊢
  have HBW := hid hbw; have HB0 := hid hb0; have HSZ := hid hsz
  clear hbw hb0 hsz
  generalize w.alloc (.cells rpZ.arr 43) = W at *
  go_wp2_with fail
  refine (refWord_any r _).mono ?_
  rintro e w2 ⟨rfl, rfl⟩
  obtain ⟨m, hm⟩ : ∃ m, wordS r = m := ⟨_, rfl⟩
  rw [hm]
  have HM := hid hm
  clear hm
  have HB1 : Hid ((W.alloc (.cells (RsIV.arr { status := 1, reason := r, msg := m }) 37)).heap[b]? = some (.cells rpZ.arr 43 (0, 0))) := by show _ = _; rw [heap_alloc_old _ _ (block_lt HB0.out)]; exact HB0.out
  go_wp2_with (first | (refine wpList_build_obj rfl 37 _ rfl #[(4, .int .i64 1), (5, .int .i64 r), (6, .string m)] rfl _ (sBuildWhole r m _) ?_) | (refine wpList_build_rs rfl 41 37 _ rfl { status := 1, reason := r, msg := m } rfl iq Tryd.underlying41 hiq hy0 hy1 ?_) | (refine wpList_build_obj rfl 43 _ rfl #[(0, .int .i64 t), (1, .slice (some ⟨W.heap.size, 0, none⟩) 1 1)] rfl _ (pBuild t ⟨some ⟨W.heap.size, 0, none⟩, 1, 1⟩ [{ status := 1, reason := r, msg := m }] _) ?_) | (refine wpList_store_obj rfl 43 _ _ rfl b rfl (RsV.arr { time := t, its := ⟨some ⟨W.heap.size, 0, none⟩, 1, 1⟩, items := [{ status := 1, reason := r, msg := m }] }) rfl _ _ HB1.out rfl pSize (parr_one _) ?_; intro w10 hb10 hc10 hs10; have HB10 := hid hb10; have HC10 := hid hc10; clear hb10 hc10 hs10))
  refine bodyPost_ret (results_cell_row rfl _ _ b _ _ _ _ rfl HB10.out Tryd.underlying43 rfl pSize) rfl ?_
  have ho : (W.alloc (.cells (RsIV.arr { status := 1, reason := r, msg := m }) 37)).ownsRow b 37 13 (.slice (some ⟨W.heap.size, 0, none⟩) 1 1) 1 (rsCells [{ status := 1, reason := r, msg := m }]) := by
    have h := own_built (w := W) (T := 37) (base := b) (size := 13) (n := 1) (C := RsIV.arr { status := 1, reason := r, msg := m }) (by rw [HSZ.out]; omega) rfl (by decide)
    simpa [rsCells, RsIV.cells] using h
  have ho10 := HC10.out.owns ho (fun k hk hm => by simp [Value.ownBlock] at hk; have := List.mem_singleton.1 hm; have := HSZ.out; omega)
  refine ⟨{ time := t, its := ⟨some ⟨W.heap.size, 0, none⟩, 1, 1⟩, items := [{ status := 1, reason := r, msg := m }] }, rfl, ?_, ⟨SlR.of_own ho10 (show (1 : Nat) ≤ 1099511627776 by decide), fun x hx => by rw [List.mem_singleton.1 hx]; exact ⟨SlC.nil _, ItV.ok.zero _ _ _ _⟩⟩, rfl, ?_⟩
  · unfold wholeP RsV.rq
    rw [HM.out]
    simp only [List.map_cons, List.map_nil]
    unfold RsIV.rq
    rw [show ItV.it {} = {} from it_flat 0 0 0 [] {}]
  · exact (HBW.out.alloc (by rw [HSZ.out]; omega) _).trans (HC10.out.below (fun k hk => by rw [List.mem_singleton.1 hk]; exact Nat.le_refl _) (by simp; rw [HSZ.out]; omega))
theorem refUndo_any (q : RqIV) (w : World) (hq : SlC w q.ids (q.id.map B8)) : Calls Tryd.prog 13 #[.agg q.arr] w fun e w' => ∃ v : RsIV, e = .returned (.agg v.arr) ∧ v.rq = undoP q.rq ∧ v.ok w' ∧ Below w.heap.size w w' := by
  have HQ := hid hq
  have HLQ := hid hq.lt
  clear hq
  generalize hbe : w.heap.size = b
  rw [hbe] at HLQ
  have HBE := hid hbe; clear hbe
  go_enter Tryd.func13, Tryd.ntmps13
  go_upto_region 1 with (refine wpList_alloc_obj rfl 37 rfl _ sZero ?_)
  go_simp
  have B0 := hid (Bx2.start (T := 31) (T' := 37) (cs := q.arr) (zs := rsZ.arr) (w := w) HBE.out)
  rw [HBE.out]
  have HQ0 := hid (HQ.out.below (((Below.refl _ w).alloc (Nat.le_refl _) (.cells q.arr 31)).alloc (by simp) (.cells rsZ.arr 37)))
  generalize (w.alloc (.cells q.arr 31)).alloc (.cells rsZ.arr 37) = W at *
  clear HQ
  have c0 := cell_of_block (j := 0) B0.out.box (xr0 q)
  have c1 := cell_of_block (j := 1) B0.out.box (xr1 q)
  have c2 := cell_of_block (j := 2) B0.out.box (xr2 q)
  go_wp2_with (first | (refine wpList_build_obj rfl 37 _ rfl #[(0, .int .i64 q.op), (1, .bool true), (2, .bool q.has), (3, .slice q.ids.a q.ids.n q.ids.c), (4, .int .i64 3)] (by simp [Act.eval]) _ (sBuildUndo q.op q.has q.ids q.id _) ?_) | (refine wpList_store_obj rfl 37 _ _ rfl (b + 1) rfl (RsIV.arr { op := q.op, hasOp := true, hasId := q.has, id := q.id, ids := q.ids, status := 3 }) rfl _ _ B0.out.res rfl sSize (sarr_one _) ?_; intro w10 hb10 hc10 hs10; have HB10 := hid hb10; have HC10 := hid hc10; clear hb10 hc10 hs10) | go_in)
  refine bodyPost_ret (results_cell_row rfl _ _ (b + 1) _ _ _ _ rfl HB10.out Tryd.underlying37 rfl sSize) rfl ?_
  exact ⟨{ op := q.op, hasOp := true, hasId := q.has, id := q.id, ids := q.ids, status := 3 }, rfl, by unfold undoP RsIV.rq; rw [show ItV.it {} = {} from it_flat 0 0 0 [] {}]; rfl, ⟨HQ0.out.keep HC10.out (fun k hk hm => by have := HLQ.out k hk; have := List.mem_singleton.1 hm; omega), ItV.ok.zero _ _ _ _⟩, B0.out.done HC10.out⟩
theorem refOfItem_any (q : RqIV) (r : Int) (y : ItV) (w : World) (hq : SlC w q.ids (q.id.map B8)) (hy : y.ok w) : Calls Tryd.prog 11 #[.agg q.arr, .int .i64 r, .agg y.arr] w fun e w' => ∃ v : RsIV, e = .returned (.agg v.arr) ∧ v.rq = ofP q.rq r y.it ∧ v.ok w' ∧ Below w.heap.size w w' := by
  have HQ := hid hq; have HYO := hid hy
  have HYL := hid hy.lt
  have HLQ := hid hq.lt
  clear hq hy
  generalize hbe : w.heap.size = b
  rw [hbe] at HYL HLQ
  have HBE := hid hbe; clear hbe
  go_enter Tryd.func11, Tryd.ntmps11
  go_upto_region 1 with (refine wpList_alloc_obj rfl 37 rfl _ sZero ?_)
  go_simp
  have hbel : Below w.heap.size w (((w.alloc (.cells q.arr 31)).alloc (.cells y.arr 29)).alloc (.cells rsZ.arr 37)) := (((Below.refl _ w).alloc (Nat.le_refl _) _).alloc (by simp) _).alloc (by simp; omega) _
  have HBX : Hid ((((w.alloc (.cells q.arr 31)).alloc (.cells y.arr 29)).alloc (.cells rsZ.arr 37)).heap[b]? = some (.cells q.arr 31 (0, 0)) ∧ (((w.alloc (.cells q.arr 31)).alloc (.cells y.arr 29)).alloc (.cells rsZ.arr 37)).heap[b + 1]? = some (.cells y.arr 29 (0, 0)) ∧ (((w.alloc (.cells q.arr 31)).alloc (.cells y.arr 29)).alloc (.cells rsZ.arr 37)).heap[b + 2]? = some (.cells rsZ.arr 37 (0, 0))) := by
    show _ ∧ _ ∧ _
    rw [← HBE.out]
    refine ⟨?_, ?_, ?_⟩
    · rw [heap_alloc_old _ _ (by simp; omega), heap_alloc_old _ _ (by simp)]; exact block_new w _
    · rw [heap_alloc_old _ _ (by simp)]; have := block_new (w.alloc (.cells q.arr 31)) (.cells y.arr 29); simpa using this
    · have := block_new ((w.alloc (.cells q.arr 31)).alloc (.cells y.arr 29)) (.cells rsZ.arr 37); simpa using this
  have HQ0 := hid (HQ.out.below hbel); have HY0 := hid (HYO.out.below hbel)
  rw [HBE.out] at hbel ⊢
  have HBW := hid hbel
  have HSZ : Hid (b + 3 ≤ (((w.alloc (.cells q.arr 31)).alloc (.cells y.arr 29)).alloc (.cells rsZ.arr 37)).heap.size) := by show _ ≤ _; simp [HBE.out]
  clear hbel HQ HYO
  simp only [Nat.add_assoc, Nat.reduceAdd]
  generalize ((w.alloc (.cells q.arr 31)).alloc (.cells y.arr 29)).alloc (.cells rsZ.arr 37) = W at *
  have c0 := cell_of_block (j := 0) HBX.out.1 (xr0 q)
  have c1 := cell_of_block (j := 1) HBX.out.1 (xr1 q)
  have c2 := cell_of_block (j := 2) HBX.out.1 (xr2 q)
  go_upto_region 2 with (first | (refine wpList_build_obj rfl 37 _ rfl #[(0, .int .i64 q.op), (1, .bool true), (2, .bool q.has), (3, .slice q.ids.a q.ids.n q.ids.c)] (by simp [Act.eval]) _ (sBuildOf q.op q.has q.ids q.id _) ?_) | (refine wpList_alloc_obj rfl 37 rfl _ sZero ?_) | (refine wpList_store_obj rfl 37 _ _ rfl W.heap.size rfl (RsIV.arr { op := q.op, hasOp := true, hasId := q.has, id := q.id, ids := q.ids }) rfl _ _ (block_new W _) rfl sSize (sarr_one _) ?_; intro w4 hb4 hc4 hs4; have HB4 := hid hb4; have HC4 := hid hc4; clear hb4 hc4 hs4) | go_in)
  go_simp
  clear c0 c1 c2
  have hb4 : Below W.heap.size W w4 := ((Below.refl _ W).alloc (Nat.le_refl _) _).trans (HC4.out.below (fun k hk => by rw [List.mem_singleton.1 hk]; exact Nat.le_refl _) (by simp))
  have HY4 := hid (HY0.out.below hb4)
  have HQ4 := hid (HQ0.out.below hb4)
  have HX4 := hid (And.intro ((hb4.block _ (block_lt HBX.out.2.1)).trans HBX.out.2.1) ((hb4.block _ (block_lt HBX.out.2.2)).trans HBX.out.2.2))
  have HBZ := HSZ
  have HGG := hid (HBW.out.trans (hb4.mono (by have := HSZ.out; omega)))
  have HS4 := hid hb4.size
  clear hb4 HC4 HY0 HQ0 HBX HBW HSZ
  generalize W.heap.size = p at *
  by_cases hr : r = 0
  · subst hr
    have q4 := cell_of_block (j := 4) HB4.out (rx4 _)
    have hfz : ∀ j, w4.frozen? ⟨p, j, none⟩ = false := fun j => frozen_of_block HB4.out
    have HB41 : Hid ((w4.setCell ⟨p, 4, none⟩ (.int .i64 0)).heap[p]? = some (.cells (RsIV.arr { op := q.op, hasOp := true, hasId := q.has, id := q.id, ids := q.ids }) 37 (0, 0))) := block_setCell (j := 4) HB4.out _
    have hch : Chg [p] w4 (w4.setCell ⟨p, 4, none⟩ (.int .i64 0)) := (Chg.refl [p] w4).setCell (.inl (by simp)) _
    have HX41 := hid ((hch.block (b + 1) (block_lt HX4.out.1) (by have := HBZ.out; simp; omega)).trans HX4.out.1)
    go_upto_region 4 with (fail)
    clear q4 hfz
    have HCH1 := hid hch
    clear hch
    generalize w4.setCell ⟨p, 4, none⟩ (.int .i64 0) = w41 at *
    go_upto_region 5 with (first | (refine wpList_load_row rfl 29 _ rfl (b + 1) rfl _ _ _ _ HX41.out Tryd.underlying29 rfl iSize ?_) | (refine wpList_store_part rfl 29 _ _ rfl p 7 y.arr rfl rfl HB41.out (show 7 + 5 ≤ 13 by decide) iSize (arr_one y) (RsIV.arr { op := q.op, hasOp := true, hasId := q.has, id := q.id, ids := q.ids, pay := y }) rfl ?_; intro w42 hb42 hc42; have HB42 := hid hb42; have HC42 := hid hc42; clear hb42 hc42))
    have q12 := cell_of_block (j := 12) HB42.out (v := .bool false) rfl
    have hfz : ∀ j, w42.frozen? ⟨p, j, none⟩ = false := fun j => frozen_of_block HB42.out
    have HB5 : Hid ((w42.setCell ⟨p, 12, none⟩ (.bool true)).heap[p]? = some (.cells (RsIV.arr { op := q.op, hasOp := true, hasId := q.has, id := q.id, ids := q.ids, pay := y, hasPay := true }) 37 (0, 0))) := block_setCell HB42.out _
    have hch : Chg [p] w4 (w42.setCell ⟨p, 12, none⟩ (.bool true)) := (HCH1.out.trans HC42.out (fun k hk => .inl hk)).setCell (.inl (by simp)) _
    have HCH := hid hch
    go_upto_region 9 with (fail)
    clear q12 hfz hch HB41 HB42 HC42 HCH1 HX41
    generalize w42.setCell ⟨p, 12, none⟩ (.bool true) = w5 at *
    have HR5 : Hid (w5.heap[b + 2]? = some (.cells rsZ.arr 37 (0, 0))) := (HCH.out.block (b + 2) (block_lt HX4.out.2) (by have := HBZ.out; simp; omega)).trans HX4.out.2
    go_wp2_with (first | (refine wpList_load_row rfl 37 _ rfl p rfl _ _ _ _ HB5.out Tryd.underlying37 rfl sSize ?_) | (refine wpList_store_obj rfl 37 _ _ rfl (b + 2) rfl (RsIV.arr { op := q.op, hasOp := true, hasId := q.has, id := q.id, ids := q.ids, pay := y, hasPay := true }) rfl _ _ HR5.out rfl sSize (sarr_one _) ?_; intro w10 hb10 hc10 hs10; have HB10 := hid hb10; have HC10 := hid hc10; clear hb10 hc10 hs10))
    refine bodyPost_ret (results_cell_row rfl _ _ (b + 2) _ _ _ _ rfl HB10.out Tryd.underlying37 rfl sSize) rfl ?_
    refine ⟨{ op := q.op, hasOp := true, hasId := q.has, id := q.id, ids := q.ids, pay := y, hasPay := true }, rfl, ?_, ⟨(HQ4.out.keep HCH.out (fun k hk hm => by have := HLQ.out k hk; have := List.mem_singleton.1 hm; have := HBZ.out; omega)).keep HC10.out (fun k hk hm => by have := HLQ.out k hk; have := List.mem_singleton.1 hm; omega), ItV.ok.keep HC10.out (ItV.ok.keep HCH.out HY4.out (fun k hk hm => by have := List.mem_singleton.1 hm; have := HYL.out k hk; have := HBZ.out; omega)) (fun k hk hm => by have := List.mem_singleton.1 hm; have := HYL.out k hk; omega)⟩, (HGG.out.trans (HCH.out.below (B := b) (fun k hk => by rw [List.mem_singleton.1 hk]; have := HBZ.out; omega) (by have := HS4.out; have := HBZ.out; omega))).trans (HC10.out.below (B := b) (fun k hk => by rw [List.mem_singleton.1 hk]; omega) (by have := HCH.out.size; have := HS4.out; have := HBZ.out; omega))⟩
    rfl
  · have hne : (r == 0) = false := by simpa using hr
    have q4 := cell_of_block (j := 4) HB4.out (rx4 _)
    have f4 : ∀ j, w4.frozen? ⟨p, j, none⟩ = false := fun j => frozen_of_block HB4.out
    have HB41 := hid (block_setCell (j := 4) HB4.out (.int .i64 1))
    have q5 := cell_of_block (j := 5) HB41.out (v := .int .i64 0) rfl
    have f5 : ∀ j, (w4.setCell ⟨p, 4, none⟩ (.int .i64 1)).frozen? ⟨p, j, none⟩ = false := fun j => frozen_of_block HB41.out
    have HB42 := hid (block_setCell (j := 5) HB41.out (.int .i64 r))
    have q6 := cell_of_block (j := 6) HB42.out (v := .string ⟨#[]⟩) rfl
    have f6 : ∀ j, ((w4.setCell ⟨p, 4, none⟩ (.int .i64 1)).setCell ⟨p, 5, none⟩ (.int .i64 r)).frozen? ⟨p, j, none⟩ = false := fun j => frozen_of_block HB42.out
    have HB5 : Hid ((((w4.setCell ⟨p, 4, none⟩ (.int .i64 1)).setCell ⟨p, 5, none⟩ (.int .i64 r)).setCell ⟨p, 6, none⟩ (.string (wordS r))).heap[p]? = some (.cells (RsIV.arr { op := q.op, hasOp := true, hasId := q.has, id := q.id, ids := q.ids, status := 1, reason := r, msg := wordS r }) 37 (0, 0))) := block_setCell (j := 6) HB42.out _
    have HCH : Hid (Chg [p] w4 (((w4.setCell ⟨p, 4, none⟩ (.int .i64 1)).setCell ⟨p, 5, none⟩ (.int .i64 r)).setCell ⟨p, 6, none⟩ (.string (wordS r)))) := (((Chg.refl [p] w4).setCell (.inl (by simp)) _).setCell (.inl (by simp)) _).setCell (.inl (by simp)) _
    go_wp2_with fail
    refine (refWord_any r _).mono ?_
    rintro e u ⟨rfl, rfl⟩
    go_upto_region 9 with (fail)
    clear q4 f4 q5 f5 q6 f6 HB41 HB42
    generalize ((w4.setCell ⟨p, 4, none⟩ (.int .i64 1)).setCell ⟨p, 5, none⟩ (.int .i64 r)).setCell ⟨p, 6, none⟩ (.string (wordS r)) = w5 at *
    have HR5 : Hid (w5.heap[b + 2]? = some (.cells rsZ.arr 37 (0, 0))) := (HCH.out.block (b + 2) (block_lt HX4.out.2) (by have := HBZ.out; simp; omega)).trans HX4.out.2
    go_wp2_with (first | (refine wpList_load_row rfl 37 _ rfl p rfl _ _ _ _ HB5.out Tryd.underlying37 rfl sSize ?_) | (refine wpList_store_obj rfl 37 _ _ rfl (b + 2) rfl (RsIV.arr { op := q.op, hasOp := true, hasId := q.has, id := q.id, ids := q.ids, status := 1, reason := r, msg := wordS r }) rfl _ _ HR5.out rfl sSize (sarr_one _) ?_; intro w10 hb10 hc10 hs10; have HB10 := hid hb10; have HC10 := hid hc10; clear hb10 hc10 hs10))
    refine bodyPost_ret (results_cell_row rfl _ _ (b + 2) _ _ _ _ rfl HB10.out Tryd.underlying37 rfl sSize) rfl ?_
    refine ⟨{ op := q.op, hasOp := true, hasId := q.has, id := q.id, ids := q.ids, status := 1, reason := r, msg := wordS r }, rfl, ?_, ⟨(HQ4.out.keep HCH.out (fun k hk hm => by have := HLQ.out k hk; have := List.mem_singleton.1 hm; have := HBZ.out; omega)).keep HC10.out (fun k hk hm => by have := HLQ.out k hk; have := List.mem_singleton.1 hm; omega), ItV.ok.zero _ _ _ _⟩, (HGG.out.trans (HCH.out.below (B := b) (fun k hk => by rw [List.mem_singleton.1 hk]; have := HBZ.out; omega) (by have := HS4.out; have := HBZ.out; omega))).trans (HC10.out.below (B := b) (fun k hk => by rw [List.mem_singleton.1 hk]; omega) (by have := HCH.out.size; have := HS4.out; have := HBZ.out; omega))⟩
    unfold ofP RsIV.rq
    rw [if_neg hr, show ItV.it {} = {} from it_flat 0 0 0 [] {}]
    rfl
end Go.Proofs.YtfcobmncbnkppaaDoor
