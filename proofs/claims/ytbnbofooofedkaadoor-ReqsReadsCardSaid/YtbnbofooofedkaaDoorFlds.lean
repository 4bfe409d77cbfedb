/- Fields, numbers (reqs, resps, locksmithref15). -/
import Derived.Test.YtbnbofooofedkaaDoorParse
namespace Go.Proofs.YtbnbofooofedkaaDoor
open Go.RowKit
set_option linter.unusedVariables false
set_option linter.unusedSimpArgs false
set_option maxRecDepth 100000
set_option maxHeartbeats 1600000
theorem qneed_any (t k : Int) (w : World) : Calls Tryd.prog 21 #[.int .i64 t, .int .i64 k] w fun e w' => e = .returned (.agg (needF t k).arr) ∧ Below w.heap.size w w' := by
 generalize hbe : w.heap.size = b
 have HBE := hid hbe; clear hbe
 go_enter Tryd.func21, Tryd.ntmps21
 go_upto_region 1 with (refine wpList_alloc_obj rfl 52 rfl _ fZero ?_)
 go_simp
 have hbw : Below w.heap.size w (w.alloc (.cells fldZ.arr 52)) := (Below.refl _ _).alloc (Nat.le_refl _) _
 have hb0 := block_new w (.cells fldZ.arr 52)
 have hsz : (w.alloc (.cells fldZ.arr 52)).heap.size = w.heap.size + 1 := by simp
 rw [HBE.out] at hbw hb0 hsz ⊢
 have HBW := hid hbw; have HB0 := hid hb0; have HSZ := hid hsz
 clear hbw hb0 hsz
 generalize w.alloc (.cells fldZ.arr 52) = W at *
 have HB := HB0
 go_wp2_with (refine wpList_store_obj rfl 52 _ _ rfl b rfl (needF t k).arr rfl _ _ HB.out rfl fSize (farr_one _) ?_; intro w10 hb10 hc10 hs10; have HB10 := hid hb10; have HC10 := hid hc10; clear hb10 hc10 hs10)
 refine bodyPost_ret (results_cell_row rfl _ _ b _ _ _ _ rfl HB10.out Tryd.underlying52 rfl fSize) rfl ?_
 exact ⟨rfl, HBW.out.trans (HC10.out.below (fun k hk => by rw [List.mem_singleton.1 hk]; exact Nat.le_refl _) (by rw [HSZ.out]; omega))⟩
theorem qmaybe_any (t k : Int) (w : World) : Calls Tryd.prog 23 #[.int .i64 t, .int .i64 k] w fun e w' => e = .returned (.agg (maybeF t k).arr) ∧ Below w.heap.size w w' := by
 generalize hbe : w.heap.size = b
 have HBE := hid hbe; clear hbe
 go_enter Tryd.func23, Tryd.ntmps23
 go_upto_region 1 with (refine wpList_alloc_obj rfl 52 rfl _ fZero ?_)
 go_simp
 have hbw : Below w.heap.size w (w.alloc (.cells fldZ.arr 52)) := (Below.refl _ _).alloc (Nat.le_refl _) _
 have hb0 := block_new w (.cells fldZ.arr 52)
 have hsz : (w.alloc (.cells fldZ.arr 52)).heap.size = w.heap.size + 1 := by simp
 rw [HBE.out] at hbw hb0 hsz ⊢
 have HBW := hid hbw; have HB0 := hid hb0; have HSZ := hid hsz
 clear hbw hb0 hsz
 generalize w.alloc (.cells fldZ.arr 52) = W at *
 have HB := HB0
 go_wp2_with (refine wpList_store_obj rfl 52 _ _ rfl b rfl (maybeF t k).arr rfl _ _ HB.out rfl fSize (farr_one _) ?_; intro w10 hb10 hc10 hs10; have HB10 := hid hb10; have HC10 := hid hc10; clear hb10 hc10 hs10)
 refine bodyPost_ret (results_cell_row rfl _ _ b _ _ _ _ rfl HB10.out Tryd.underlying52 rfl fSize) rfl ?_
 exact ⟨rfl, HBW.out.trans (HC10.out.below (fun k hk => by rw [List.mem_singleton.1 hk]; exact Nat.le_refl _) (by rw [HSZ.out]; omega))⟩
theorem qmany_any (t k : Int) (w : World) : Calls Tryd.prog 22 #[.int .i64 t, .int .i64 k] w fun e w' => e = .returned (.agg (manyF t k).arr) ∧ Below w.heap.size w w' := by
 generalize hbe : w.heap.size = b
 have HBE := hid hbe; clear hbe
 go_enter Tryd.func22, Tryd.ntmps22
 go_upto_region 1 with (refine wpList_alloc_obj rfl 52 rfl _ fZero ?_)
 go_simp
 have hbw : Below w.heap.size w (w.alloc (.cells fldZ.arr 52)) := (Below.refl _ _).alloc (Nat.le_refl _) _
 have hb0 := block_new w (.cells fldZ.arr 52)
 have hsz : (w.alloc (.cells fldZ.arr 52)).heap.size = w.heap.size + 1 := by simp
 rw [HBE.out] at hbw hb0 hsz ⊢
 have HBW := hid hbw; have HB0 := hid hb0; have HSZ := hid hsz
 clear hbw hb0 hsz
 generalize w.alloc (.cells fldZ.arr 52) = W at *
 have HB := HB0
 go_wp2_with (refine wpList_store_obj rfl 52 _ _ rfl b rfl (manyF t k).arr rfl _ _ HB.out rfl fSize (farr_one _) ?_; intro w10 hb10 hc10 hs10; have HB10 := hid hb10; have HC10 := hid hc10; clear hb10 hc10 hs10)
 refine bodyPost_ret (results_cell_row rfl _ _ b _ _ _ _ rfl HB10.out Tryd.underlying52 rfl fSize) rfl ?_
 exact ⟨rfl, HBW.out.trans (HC10.out.below (fun k hk => by rw [List.mem_singleton.1 hk]; exact Nat.le_refl _) (by rw [HSZ.out]; omega))⟩
theorem qnumber_any (s : Sl) (l : List ItV) (o : Int) (w : World) (hs : SlR w s 5 (itmCells l)) : Calls Tryd.prog 24 #[.slice s.a s.n s.c, .int .i64 o] w fun e w' => e = .returned (.int .i64 (numV (l.map ItV.it) o)) ∧ w = w' := by
 have hl := hs.klen
 have hsm := hs.sm
 by_cases hn : s.n = 0
 ·obtain rfl : l = [] := List.eq_nil_of_length_eq_zero (by omega)
  rw [hn]
  clear hn hl hs hsm
  go_enter Tryd.func24, Tryd.ntmps24
  go_wp2
  go_ret
  exact ⟨rfl, rfl⟩
 ·obtain ⟨b, off, v, ha, hv, -, -, h2, -, -⟩ := hs.kid (k := 0) (by omega)
  have hr : numV (l.map ItV.it) o = v.int := by
   cases l with
   | nil => simp at hl; omega
   | cons x t => simp at hv; subst hv; rw [List.map_cons, ItV.it_eq]; rfl
  rw [hr, ha]
  have hn' : ((s.n : Int) == 0) = false := by simp; omega
  rw [Nat.zero_mul, Nat.add_zero] at h2
  clear hr ha hv hl hs
  go_enter Tryd.func24, Tryd.ntmps24
  go_wp2_with fail
  go_ret
  exact ⟨rfl, rfl⟩
theorem rneed_any (t k : Int) (w : World) : Calls Tryd.prog 27 #[.int .i64 t, .int .i64 k] w fun e w' => e = .returned (.agg (needF t k).arr) ∧ Below w.heap.size w w' := by
 generalize hbe : w.heap.size = b
 have HBE := hid hbe; clear hbe
 go_enter Tryd.func27, Tryd.ntmps27
 go_upto_region 1 with (refine wpList_alloc_obj rfl 52 rfl _ fZero ?_)
 go_simp
 have hbw : Below w.heap.size w (w.alloc (.cells fldZ.arr 52)) := (Below.refl _ _).alloc (Nat.le_refl _) _
 have hb0 := block_new w (.cells fldZ.arr 52)
 have hsz : (w.alloc (.cells fldZ.arr 52)).heap.size = w.heap.size + 1 := by simp
 rw [HBE.out] at hbw hb0 hsz ⊢
 have HBW := hid hbw; have HB0 := hid hb0; have HSZ := hid hsz
 clear hbw hb0 hsz
 generalize w.alloc (.cells fldZ.arr 52) = W at *
 have HB := HB0
 go_wp2_with (refine wpList_store_obj rfl 52 _ _ rfl b rfl (needF t k).arr rfl _ _ HB.out rfl fSize (farr_one _) ?_; intro w10 hb10 hc10 hs10; have HB10 := hid hb10; have HC10 := hid hc10; clear hb10 hc10 hs10)
 refine bodyPost_ret (results_cell_row rfl _ _ b _ _ _ _ rfl HB10.out Tryd.underlying52 rfl fSize) rfl ?_
 exact ⟨rfl, HBW.out.trans (HC10.out.below (fun k hk => by rw [List.mem_singleton.1 hk]; exact Nat.le_refl _) (by rw [HSZ.out]; omega))⟩
theorem rmaybe_any (t k : Int) (w : World) : Calls Tryd.prog 29 #[.int .i64 t, .int .i64 k] w fun e w' => e = .returned (.agg (maybeF t k).arr) ∧ Below w.heap.size w w' := by
 generalize hbe : w.heap.size = b
 have HBE := hid hbe; clear hbe
 go_enter Tryd.func29, Tryd.ntmps29
 go_upto_region 1 with (refine wpList_alloc_obj rfl 52 rfl _ fZero ?_)
 go_simp
 have hbw : Below w.heap.size w (w.alloc (.cells fldZ.arr 52)) := (Below.refl _ _).alloc (Nat.le_refl _) _
 have hb0 := block_new w (.cells fldZ.arr 52)
 have hsz : (w.alloc (.cells fldZ.arr 52)).heap.size = w.heap.size + 1 := by simp
 rw [HBE.out] at hbw hb0 hsz ⊢
 have HBW := hid hbw; have HB0 := hid hb0; have HSZ := hid hsz
 clear hbw hb0 hsz
 generalize w.alloc (.cells fldZ.arr 52) = W at *
 have HB := HB0
 go_wp2_with (refine wpList_store_obj rfl 52 _ _ rfl b rfl (maybeF t k).arr rfl _ _ HB.out rfl fSize (farr_one _) ?_; intro w10 hb10 hc10 hs10; have HB10 := hid hb10; have HC10 := hid hc10; clear hb10 hc10 hs10)
 refine bodyPost_ret (results_cell_row rfl _ _ b _ _ _ _ rfl HB10.out Tryd.underlying52 rfl fSize) rfl ?_
 exact ⟨rfl, HBW.out.trans (HC10.out.below (fun k hk => by rw [List.mem_singleton.1 hk]; exact Nat.le_refl _) (by rw [HSZ.out]; omega))⟩
theorem rmany_any (t k : Int) (w : World) : Calls Tryd.prog 28 #[.int .i64 t, .int .i64 k] w fun e w' => e = .returned (.agg (manyF t k).arr) ∧ Below w.heap.size w w' := by
 generalize hbe : w.heap.size = b
 have HBE := hid hbe; clear hbe
 go_enter Tryd.func28, Tryd.ntmps28
 go_upto_region 1 with (refine wpList_alloc_obj rfl 52 rfl _ fZero ?_)
 go_simp
 have hbw : Below w.heap.size w (w.alloc (.cells fldZ.arr 52)) := (Below.refl _ _).alloc (Nat.le_refl _) _
 have hb0 := block_new w (.cells fldZ.arr 52)
 have hsz : (w.alloc (.cells fldZ.arr 52)).heap.size = w.heap.size + 1 := by simp
 rw [HBE.out] at hbw hb0 hsz ⊢
 have HBW := hid hbw; have HB0 := hid hb0; have HSZ := hid hsz
 clear hbw hb0 hsz
 generalize w.alloc (.cells fldZ.arr 52) = W at *
 have HB := HB0
 go_wp2_with (refine wpList_store_obj rfl 52 _ _ rfl b rfl (manyF t k).arr rfl _ _ HB.out rfl fSize (farr_one _) ?_; intro w10 hb10 hc10 hs10; have HB10 := hid hb10; have HC10 := hid hc10; clear hb10 hc10 hs10)
 refine bodyPost_ret (results_cell_row rfl _ _ b _ _ _ _ rfl HB10.out Tryd.underlying52 rfl fSize) rfl ?_
 exact ⟨rfl, HBW.out.trans (HC10.out.below (fun k hk => by rw [List.mem_singleton.1 hk]; exact Nat.le_refl _) (by rw [HSZ.out]; omega))⟩
theorem rnumber_any (s : Sl) (l : List ItV) (o : Int) (w : World) (hs : SlR w s 5 (itmCells l)) : Calls Tryd.prog 30 #[.slice s.a s.n s.c, .int .i64 o] w fun e w' => e = .returned (.int .i64 (numV (l.map ItV.it) o)) ∧ w = w' := by
 have hl := hs.klen
 have hsm := hs.sm
 by_cases hn : s.n = 0
 ·obtain rfl : l = [] := List.eq_nil_of_length_eq_zero (by omega)
  rw [hn]
  clear hn hl hs hsm
  go_enter Tryd.func30, Tryd.ntmps30
  go_wp2
  go_ret
  exact ⟨rfl, rfl⟩
 ·obtain ⟨b, off, v, ha, hv, -, -, h2, -, -⟩ := hs.kid (k := 0) (by omega)
  have hr : numV (l.map ItV.it) o = v.int := by
   cases l with
   | nil => simp at hl; omega
   | cons x t => simp at hv; subst hv; rw [List.map_cons, ItV.it_eq]; rfl
  rw [hr, ha]
  have hn' : ((s.n : Int) == 0) = false := by simp; omega
  rw [Nat.zero_mul, Nat.add_zero] at h2
  clear hr ha hv hl hs
  go_enter Tryd.func30, Tryd.ntmps30
  go_wp2_with fail
  go_ret
  exact ⟨rfl, rfl⟩
theorem told_any (is : Bool) (v : ItV) (w : World) : Calls Tryd.prog 42 #[.bool is, .agg v.arr] w fun e w' => e = .returned (.agg (if is then v else itZ).arr) ∧ Below w.heap.size w w' := by
 generalize hbe : w.heap.size = b
 have HBE := hid hbe; clear hbe
 go_enter Tryd.func42, Tryd.ntmps42
 go_upto_region 1 with (refine wpList_alloc_obj rfl 27 rfl _ iZero ?_)
 go_simp
 have B0 := hid (Bx2.start (T := 27) (T' := 27) (cs := v.arr) (zs := itZ.arr) (w := w) HBE.out)
 rw [HBE.out]
 generalize (w.alloc (.cells v.arr 27)).alloc (.cells itZ.arr 27) = W at *
 cases is with
 | true =>
  go_wp2_with (first | (refine wpList_load_row rfl 27 _ rfl b rfl _ _ _ _ B0.out.box Tryd.underlying27 rfl iSize ?_) | (refine wpList_store_obj rfl 27 _ _ rfl (b + 1) rfl _ rfl _ _ B0.out.res rfl iSize (arr_one _) ?_; intro w10 hb10 hc10 hs10; have HB10 := hid hb10; have HC10 := hid hc10; clear hb10 hc10 hs10))
  refine bodyPost_ret (results_cell_row rfl _ _ (b + 1) _ _ _ _ rfl HB10.out Tryd.underlying27 rfl iSize) rfl ?_
  exact ⟨rfl, B0.out.done HC10.out⟩
 | false =>
  go_wp2_with (first | (refine wpList_build_obj rfl 27 _ rfl itZ.arr (iBuild0 _) ?_) | (refine wpList_store_obj rfl 27 _ _ rfl (b + 1) rfl itZ.arr rfl _ _ B0.out.res rfl iSize (arr_one _) ?_; intro w10 hb10 hc10 hs10; have HB10 := hid hb10; have HC10 := hid hc10; clear hb10 hc10 hs10))
  refine bodyPost_ret (results_cell_row rfl _ _ (b + 1) _ _ _ _ rfl HB10.out Tryd.underlying27 rfl iSize) rfl ?_
  exact ⟨rfl, B0.out.done HC10.out⟩
end Go.Proofs.YtbnbofooofedkaaDoor
