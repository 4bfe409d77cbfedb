/- Fields, numbers (reqs, resps, locksmithref15). -/
import Derived.Test.YtfcobmncbnkppaaParse
namespace Go.Proofs.Ytfcobmncbnkppaa
open Go.RowKit
set_option linter.unusedVariables false
set_option linter.unusedSimpArgs false
set_option maxRecDepth 100000
set_option maxHeartbeats 1600000
theorem rneed_any (t k : Int) (w : World) : Calls Try.prog 37 #[.int .i64 t, .int .i64 k] w fun e w' => e = .returned (.agg (needF t k).arr) ∧ Below w.heap.size w w' := by
  generalize hbe : w.heap.size = b
  have HBE := hid hbe; clear hbe
  go_enter Try.func37, Try.ntmps37
  go_upto_region 1 with (refine wpList_alloc_obj rfl 67 rfl _ fZero ?_)
  go_simp
  have hbw : Below w.heap.size w (w.alloc (.cells fldZ.arr 67)) := (Below.refl _ _).alloc (Nat.le_refl _) _
  have hb0 := block_new w (.cells fldZ.arr 67)
  have hsz : (w.alloc (.cells fldZ.arr 67)).heap.size = w.heap.size + 1 := by simp
  rw [HBE.out] at hbw hb0 hsz ⊢
  have HBW := hid hbw; have HB0 := hid hb0; have HSZ := hid hsz
  clear hbw hb0 hsz
  generalize w.alloc (.cells fldZ.arr 67) = W at *
  have HB := HB0
  go_wp2_with (refine wpList_store_obj rfl 67 _ _ rfl b rfl (needF t k).arr rfl _ _ HB.out rfl fSize (farr_one _) ?_; intro w10 hb10 hc10 hs10; have HB10 := hid hb10; have HC10 := hid hc10; clear hb10 hc10 hs10)
  refine bodyPost_ret (results_cell_row rfl _ _ b _ _ _ _ rfl HB10.out Try.underlying67 rfl fSize) rfl ?_
  exact ⟨rfl, HBW.out.trans (HC10.out.below (fun k hk => by rw [List.mem_singleton.1 hk]; exact Nat.le_refl _) (by rw [HSZ.out]; omega))⟩
theorem rmaybe_any (t k : Int) (w : World) : Calls Try.prog 40 #[.int .i64 t, .int .i64 k] w fun e w' => e = .returned (.agg (maybeF t k).arr) ∧ Below w.heap.size w w' := by
  generalize hbe : w.heap.size = b
  have HBE := hid hbe; clear hbe
  go_enter Try.func40, Try.ntmps40
  go_upto_region 1 with (refine wpList_alloc_obj rfl 67 rfl _ fZero ?_)
  go_simp
  have hbw : Below w.heap.size w (w.alloc (.cells fldZ.arr 67)) := (Below.refl _ _).alloc (Nat.le_refl _) _
  have hb0 := block_new w (.cells fldZ.arr 67)
  have hsz : (w.alloc (.cells fldZ.arr 67)).heap.size = w.heap.size + 1 := by simp
  rw [HBE.out] at hbw hb0 hsz ⊢
  have HBW := hid hbw; have HB0 := hid hb0; have HSZ := hid hsz
  clear hbw hb0 hsz
  generalize w.alloc (.cells fldZ.arr 67) = W at *
  have HB := HB0
  go_wp2_with (refine wpList_store_obj rfl 67 _ _ rfl b rfl (maybeF t k).arr rfl _ _ HB.out rfl fSize (farr_one _) ?_; intro w10 hb10 hc10 hs10; have HB10 := hid hb10; have HC10 := hid hc10; clear hb10 hc10 hs10)
  refine bodyPost_ret (results_cell_row rfl _ _ b _ _ _ _ rfl HB10.out Try.underlying67 rfl fSize) rfl ?_
  exact ⟨rfl, HBW.out.trans (HC10.out.below (fun k hk => by rw [List.mem_singleton.1 hk]; exact Nat.le_refl _) (by rw [HSZ.out]; omega))⟩
theorem rmany_any (t k : Int) (w : World) : Calls Try.prog 38 #[.int .i64 t, .int .i64 k] w fun e w' => e = .returned (.agg (manyF t k).arr) ∧ Below w.heap.size w w' := by
  generalize hbe : w.heap.size = b
  have HBE := hid hbe; clear hbe
  go_enter Try.func38, Try.ntmps38
  go_upto_region 1 with (refine wpList_alloc_obj rfl 67 rfl _ fZero ?_)
  go_simp
  have hbw : Below w.heap.size w (w.alloc (.cells fldZ.arr 67)) := (Below.refl _ _).alloc (Nat.le_refl _) _
  have hb0 := block_new w (.cells fldZ.arr 67)
  have hsz : (w.alloc (.cells fldZ.arr 67)).heap.size = w.heap.size + 1 := by simp
  rw [HBE.out] at hbw hb0 hsz ⊢
  have HBW := hid hbw; have HB0 := hid hb0; have HSZ := hid hsz
  clear hbw hb0 hsz
  generalize w.alloc (.cells fldZ.arr 67) = W at *
  have HB := HB0
  go_wp2_with (refine wpList_store_obj rfl 67 _ _ rfl b rfl (manyF t k).arr rfl _ _ HB.out rfl fSize (farr_one _) ?_; intro w10 hb10 hc10 hs10; have HB10 := hid hb10; have HC10 := hid hc10; clear hb10 hc10 hs10)
  refine bodyPost_ret (results_cell_row rfl _ _ b _ _ _ _ rfl HB10.out Try.underlying67 rfl fSize) rfl ?_
  exact ⟨rfl, HBW.out.trans (HC10.out.below (fun k hk => by rw [List.mem_singleton.1 hk]; exact Nat.le_refl _) (by rw [HSZ.out]; omega))⟩
theorem rnumber_any (s : Sl) (l : List ItV) (o : Int) (w : World) (hs : SlR w s 5 (itmCells l)) : Calls Try.prog 41 #[.slice s.a s.n s.c, .int .i64 o] w fun e w' => e = .returned (.int .i64 (numV (l.map ItV.it) o)) ∧ w = w' := by
  have hl := hs.klen
  have hsm := hs.sm
  by_cases hn : s.n = 0
  · obtain rfl : l = [] := List.eq_nil_of_length_eq_zero (by omega)
    rw [hn]
    clear hn hl hs hsm
    go_enter Try.func41, Try.ntmps41
    go_wp2
    go_ret
    exact ⟨rfl, rfl⟩
  · obtain ⟨b, off, v, ha, hv, -, -, h2, -, -⟩ := hs.kid (k := 0) (by omega)
    have hr : numV (l.map ItV.it) o = v.int := by
      cases l with
      | nil => simp at hl; omega
      | cons x t => simp at hv; subst hv; rw [List.map_cons, ItV.it_eq]; rfl
    rw [hr, ha]
    have hn' : ((s.n : Int) == 0) = false := by simp; omega
    rw [Nat.zero_mul, Nat.add_zero] at h2
    clear hr ha hv hl hs
    go_enter Try.func41, Try.ntmps41
    go_wp2_with fail
    go_ret
    exact ⟨rfl, rfl⟩
theorem sneed_any (t k : Int) (w : World) : Calls Try.prog 33 #[.int .i64 t, .int .i64 k] w fun e w' => e = .returned (.agg (needF t k).arr) ∧ Below w.heap.size w w' := by
  generalize hbe : w.heap.size = b
  have HBE := hid hbe; clear hbe
  go_enter Try.func33, Try.ntmps33
  go_upto_region 1 with (refine wpList_alloc_obj rfl 67 rfl _ fZero ?_)
  go_simp
  have hbw : Below w.heap.size w (w.alloc (.cells fldZ.arr 67)) := (Below.refl _ _).alloc (Nat.le_refl _) _
  have hb0 := block_new w (.cells fldZ.arr 67)
  have hsz : (w.alloc (.cells fldZ.arr 67)).heap.size = w.heap.size + 1 := by simp
  rw [HBE.out] at hbw hb0 hsz ⊢
  have HBW := hid hbw; have HB0 := hid hb0; have HSZ := hid hsz
  clear hbw hb0 hsz
  generalize w.alloc (.cells fldZ.arr 67) = W at *
  have HB := HB0
  go_wp2_with (refine wpList_store_obj rfl 67 _ _ rfl b rfl (needF t k).arr rfl _ _ HB.out rfl fSize (farr_one _) ?_; intro w10 hb10 hc10 hs10; have HB10 := hid hb10; have HC10 := hid hc10; clear hb10 hc10 hs10)
  refine bodyPost_ret (results_cell_row rfl _ _ b _ _ _ _ rfl HB10.out Try.underlying67 rfl fSize) rfl ?_
  exact ⟨rfl, HBW.out.trans (HC10.out.below (fun k hk => by rw [List.mem_singleton.1 hk]; exact Nat.le_refl _) (by rw [HSZ.out]; omega))⟩
theorem smaybe_any (t k : Int) (w : World) : Calls Try.prog 46 #[.int .i64 t, .int .i64 k] w fun e w' => e = .returned (.agg (maybeF t k).arr) ∧ Below w.heap.size w w' := by
  generalize hbe : w.heap.size = b
  have HBE := hid hbe; clear hbe
  go_enter Try.func46, Try.ntmps46
  go_upto_region 1 with (refine wpList_alloc_obj rfl 67 rfl _ fZero ?_)
  go_simp
  have hbw : Below w.heap.size w (w.alloc (.cells fldZ.arr 67)) := (Below.refl _ _).alloc (Nat.le_refl _) _
  have hb0 := block_new w (.cells fldZ.arr 67)
  have hsz : (w.alloc (.cells fldZ.arr 67)).heap.size = w.heap.size + 1 := by simp
  rw [HBE.out] at hbw hb0 hsz ⊢
  have HBW := hid hbw; have HB0 := hid hb0; have HSZ := hid hsz
  clear hbw hb0 hsz
  generalize w.alloc (.cells fldZ.arr 67) = W at *
  have HB := HB0
  go_wp2_with (refine wpList_store_obj rfl 67 _ _ rfl b rfl (maybeF t k).arr rfl _ _ HB.out rfl fSize (farr_one _) ?_; intro w10 hb10 hc10 hs10; have HB10 := hid hb10; have HC10 := hid hc10; clear hb10 hc10 hs10)
  refine bodyPost_ret (results_cell_row rfl _ _ b _ _ _ _ rfl HB10.out Try.underlying67 rfl fSize) rfl ?_
  exact ⟨rfl, HBW.out.trans (HC10.out.below (fun k hk => by rw [List.mem_singleton.1 hk]; exact Nat.le_refl _) (by rw [HSZ.out]; omega))⟩
theorem stold_any (is : Bool) (v : ItV) (w : World) : Calls Try.prog 29 #[.bool is, .agg v.arr] w fun e w' => e = .returned (.agg (if is then v else itZ).arr) ∧ Below w.heap.size w w' := by
  generalize hbe : w.heap.size = b
  have HBE := hid hbe; clear hbe
  go_enter Try.func29, Try.ntmps29
  go_upto_region 1 with (refine wpList_alloc_obj rfl 27 rfl _ iZero ?_)
  go_simp
  have B0 := hid (Bx2.start (T := 27) (T' := 27) (cs := v.arr) (zs := itZ.arr) (w := w) HBE.out)
  rw [HBE.out]
  generalize (w.alloc (.cells v.arr 27)).alloc (.cells itZ.arr 27) = W at *
  cases is with
  | true =>
    go_wp2_with (first | (refine wpList_load_row rfl 27 _ rfl b rfl _ _ _ _ B0.out.box Try.underlying27 rfl iSize ?_) | (refine wpList_store_obj rfl 27 _ _ rfl (b + 1) rfl _ rfl _ _ B0.out.res rfl iSize (arr_one _) ?_; intro w10 hb10 hc10 hs10; have HB10 := hid hb10; have HC10 := hid hc10; clear hb10 hc10 hs10))
    refine bodyPost_ret (results_cell_row rfl _ _ (b + 1) _ _ _ _ rfl HB10.out Try.underlying27 rfl iSize) rfl ?_
    exact ⟨rfl, B0.out.done HC10.out⟩
  | false =>
    go_wp2_with (first | (refine wpList_build_obj rfl 27 _ rfl itZ.arr (iBuild0 _) ?_) | (refine wpList_store_obj rfl 27 _ _ rfl (b + 1) rfl itZ.arr rfl _ _ B0.out.res rfl iSize (arr_one _) ?_; intro w10 hb10 hc10 hs10; have HB10 := hid hb10; have HC10 := hid hc10; clear hb10 hc10 hs10))
    refine bodyPost_ret (results_cell_row rfl _ _ (b + 1) _ _ _ _ rfl HB10.out Try.underlying27 rfl iSize) rfl ?_
    exact ⟨rfl, B0.out.done HC10.out⟩
theorem snumber_any (s : Sl) (l : List ItV) (w : World) (hs : SlR w s 5 (itmCells l)) : Calls Try.prog 35 #[.slice s.a s.n s.c] w fun e w' => e = .returned (.int .i64 (numV (l.map ItV.it) 0)) ∧ w = w' := by
  have hl := hs.klen
  have hsm := hs.sm
  by_cases hn : s.n = 0
  · obtain rfl : l = [] := List.eq_nil_of_length_eq_zero (by omega)
    rw [hn]
    clear hn hl hs hsm
    go_enter Try.func35, Try.ntmps35
    go_wp2
    go_ret
    exact ⟨rfl, rfl⟩
  · obtain ⟨b, off, v, ha, hv, -, -, h2, -, -⟩ := hs.kid (k := 0) (by omega)
    have hr : numV (l.map ItV.it) 0 = v.int := by
      cases l with
      | nil => simp at hl; omega
      | cons x t => simp at hv; subst hv; rw [List.map_cons, ItV.it_eq]; rfl
    rw [hr, ha]
    have hn' : ((s.n : Int) == 0) = false := by simp; omega
    rw [Nat.zero_mul, Nat.add_zero] at h2
    clear hr ha hv hl hs
    go_enter Try.func35, Try.ntmps35
    go_wp2_with fail
    go_ret
    exact ⟨rfl, rfl⟩
end Go.Proofs.Ytfcobmncbnkppaa
