/- resps: Word, Of, Undo, Whole; the closures of Lay. -/
import Derived.Test.YtfcobmncbnkppaaRsp
import Derived.Test.YtfcobmncbnkppaaFlds
import Derived.Test.YtfcobmncbnkppaaReq
namespace Go.Proofs.Ytfcobmncbnkppaa
open Go.RowKit
set_option linter.unusedVariables false
set_option linter.unusedSimpArgs false
set_option maxRecDepth 100000
set_option maxHeartbeats 3200000
def wordL : List (Int × ByteArray) := [(0, ⟨#[70, 105, 110, 101]⟩), (1, ⟨#[78, 111, 116, 70, 111, 117, 110, 100]⟩), (2, ⟨#[84, 111, 111, 76, 97, 114, 103, 101]⟩), (4, ⟨#[73, 110, 118, 97, 108, 105, 100]⟩), (5, ⟨#[85, 110, 115, 117, 112, 112, 111, 114, 116, 101, 100]⟩), (6, ⟨#[77, 105, 115, 115, 105, 110, 103]⟩), (7, ⟨#[70, 105, 101, 108, 100]⟩), (8, ⟨#[70, 101, 97, 116, 117, 114, 101]⟩), (10, ⟨#[67, 114, 121, 112, 116, 111]⟩), (11, ⟨#[73, 108, 108, 101, 103, 97, 108]⟩), (12, ⟨#[68, 101, 110, 105, 101, 100]⟩), (13, ⟨#[65, 114, 99, 104, 105, 118, 101, 100]⟩), (14, ⟨#[73, 110, 100, 101, 120]⟩), (256, ⟨#[71, 101, 110, 101, 114, 97, 108]⟩)]
def wordS (r : Int) : ByteArray := match wordL.find? (fun x => x.1 == r) with
  | some x => x.2
  | none => ⟨#[]⟩
def rsZ : RsIV := {}
def rpZ : RsV := {}
theorem sSize : (Try.prog.info? 44).map (·.size) = some 13 := by kernel_rfl
theorem sZero : (Try.prog.info? 44).map (·.zero) = some (some (.agg rsZ.arr)) := by kernel_rfl
theorem sInfo : (Try.prog.info? 44).map (fun i => (i.zero, i.size, i.bytes)) = some (some (.agg rsZ.arr), 13, 152) := by kernel_rfl
theorem pSize : (Try.prog.info? 31).map (·.size) = some 2 := by kernel_rfl
theorem pZero : (Try.prog.info? 31).map (·.zero) = some (some (.agg rpZ.arr)) := by kernel_rfl
theorem sarr_one (v : RsIV) : v.arr.all (·.oneCell') = true := by simp [RsIV.arr, Value.oneCell']
theorem parr_one (v : RsV) : v.arr.all (·.oneCell') = true := by simp [RsV.arr, Value.oneCell']
theorem xr0 (v : RqIV) : v.arr[0]? = some (.int .i64 v.op) := rfl
theorem xr1 (v : RqIV) : v.arr[1]? = some (.bool v.has) := rfl
theorem xr2 (v : RqIV) : v.arr[2]? = some (.slice v.ids.a v.ids.n v.ids.c) := rfl
theorem rpay_range (x : RsIV) : ∀ (j : Nat) v, x.pay.arr.toList[j]? = some v → x.arr[7 + j]? = some v := by
  intro j v h
  match j with
  | 0 => exact h
  | 1 => exact h
  | 2 => exact h
  | 3 => exact h
  | 4 => exact h
  | j + 5 => simp [ItV.arr] at h
theorem rLay1_any (t n : Int) (w : World) : Calls Try.prog 24 #[.int .i64 t, .int .i64 n] w fun e w' => e = .returned (.agg (ItV.arr { tag := t, typ := 5, int := n })) ∧ Below w.heap.size w w' := by
  generalize hbe : w.heap.size = b
  have HBE := hid hbe; clear hbe
  go_enter Try.func24, Try.ntmps24
  go_upto_region 1 with (refine wpList_alloc_obj rfl 27 rfl _ iZero ?_)
  go_simp
  have hbw : Below w.heap.size w (w.alloc (.cells itZ.arr 27)) := (Below.refl _ _).alloc (Nat.le_refl _) _
  have hb0 := block_new w (.cells itZ.arr 27)
  have hsz : (w.alloc (.cells itZ.arr 27)).heap.size = w.heap.size + 1 := by simp
  rw [HBE.out] at hbw hb0 hsz ⊢
  have HBW := hid hbw; have HB0 := hid hb0; have HSZ := hid hsz
  clear hbw hb0 hsz
  generalize w.alloc (.cells itZ.arr 27) = W at *
  go_wp2_with fail
  refine (payNumber_any t 5 n _).mono ?_
  rintro e w2 ⟨rfl, hb2⟩
  have HB2 := hid ((hb2.block _ (block_lt HB0.out)).trans HB0.out)
  have HBW2 := hid (HBW.out.trans (hb2.mono (by rw [HSZ.out]; omega)))
  have HSZ2 : Hid (b ≤ w2.heap.size) := by have := hb2.size; show b ≤ _; rw [HSZ.out] at this; omega
  clear hb2 HB0 HBW
  go_wp2_with (refine wpList_store_obj rfl 27 _ _ rfl b rfl (ItV.arr { tag := t, typ := 5, int := n }) rfl _ _ HB2.out rfl iSize (arr_one _) ?_; intro w10 hb10 hc10 hs10; have HB10 := hid hb10; have HC10 := hid hc10; clear hb10 hc10 hs10)
  refine bodyPost_ret (results_cell_row rfl _ _ b _ _ _ _ rfl HB10.out Try.underlying27 rfl iSize) rfl ?_
  exact ⟨rfl, HBW2.out.trans (HC10.out.below (fun k hk => by rw [List.mem_singleton.1 hk]; exact Nat.le_refl _) HSZ2.out)⟩
theorem rLay2_any (t n : Int) (w : World) : Calls Try.prog 26 #[.int .i64 t, .int .i64 n] w fun e w' => e = .returned (.agg (ItV.arr { tag := t, typ := 2, int := n })) ∧ Below w.heap.size w w' := by
  generalize hbe : w.heap.size = b
  have HBE := hid hbe; clear hbe
  go_enter Try.func26, Try.ntmps26
  go_upto_region 1 with (refine wpList_alloc_obj rfl 27 rfl _ iZero ?_)
  go_simp
  have hbw : Below w.heap.size w (w.alloc (.cells itZ.arr 27)) := (Below.refl _ _).alloc (Nat.le_refl _) _
  have hb0 := block_new w (.cells itZ.arr 27)
  have hsz : (w.alloc (.cells itZ.arr 27)).heap.size = w.heap.size + 1 := by simp
  rw [HBE.out] at hbw hb0 hsz ⊢
  have HBW := hid hbw; have HB0 := hid hb0; have HSZ := hid hsz
  clear hbw hb0 hsz
  generalize w.alloc (.cells itZ.arr 27) = W at *
  go_wp2_with fail
  refine (payNumber_any t 2 n _).mono ?_
  rintro e w2 ⟨rfl, hb2⟩
  have HB2 := hid ((hb2.block _ (block_lt HB0.out)).trans HB0.out)
  have HBW2 := hid (HBW.out.trans (hb2.mono (by rw [HSZ.out]; omega)))
  have HSZ2 : Hid (b ≤ w2.heap.size) := by have := hb2.size; show b ≤ _; rw [HSZ.out] at this; omega
  clear hb2 HB0 HBW
  go_wp2_with (refine wpList_store_obj rfl 27 _ _ rfl b rfl (ItV.arr { tag := t, typ := 2, int := n }) rfl _ _ HB2.out rfl iSize (arr_one _) ?_; intro w10 hb10 hc10 hs10; have HB10 := hid hb10; have HC10 := hid hc10; clear hb10 hc10 hs10)
  refine bodyPost_ret (results_cell_row rfl _ _ b _ _ _ _ rfl HB10.out Try.underlying27 rfl iSize) rfl ?_
  exact ⟨rfl, HBW2.out.trans (HC10.out.below (fun k hk => by rw [List.mem_singleton.1 hk]; exact Nat.le_refl _) HSZ2.out)⟩
theorem word_any (r : Int) (w : World) : Calls Try.prog 17 #[.int .i64 r] w fun e w' => e = .returned (.string (wordS r)) ∧ w = w' := by
  by_cases h0 : r = 0
  · subst h0
    rw [show wordS 0 = ⟨#[70, 105, 110, 101]⟩ by kernel_rfl]
    go_enter Try.func17, Try.ntmps17
    go_wp2_with fail
    go_ret
    exact ⟨rfl, rfl⟩
  by_cases h1 : r = 1
  · subst h1
    rw [show wordS 1 = ⟨#[78, 111, 116, 70, 111, 117, 110, 100]⟩ by kernel_rfl]
    go_enter Try.func17, Try.ntmps17
    go_wp2_with fail
    go_ret
    exact ⟨rfl, rfl⟩
  by_cases h2 : r = 2
  · subst h2
    rw [show wordS 2 = ⟨#[84, 111, 111, 76, 97, 114, 103, 101]⟩ by kernel_rfl]
    go_enter Try.func17, Try.ntmps17
    go_wp2_with fail
    go_ret
    exact ⟨rfl, rfl⟩
  by_cases h4 : r = 4
  · subst h4
    rw [show wordS 4 = ⟨#[73, 110, 118, 97, 108, 105, 100]⟩ by kernel_rfl]
    go_enter Try.func17, Try.ntmps17
    go_wp2_with fail
    go_ret
    exact ⟨rfl, rfl⟩
  by_cases h5 : r = 5
  · subst h5
    rw [show wordS 5 = ⟨#[85, 110, 115, 117, 112, 112, 111, 114, 116, 101, 100]⟩ by kernel_rfl]
    go_enter Try.func17, Try.ntmps17
    go_wp2_with fail
    go_ret
    exact ⟨rfl, rfl⟩
  by_cases h6 : r = 6
  · subst h6
    rw [show wordS 6 = ⟨#[77, 105, 115, 115, 105, 110, 103]⟩ by kernel_rfl]
    go_enter Try.func17, Try.ntmps17
    go_wp2_with fail
    go_ret
    exact ⟨rfl, rfl⟩
  by_cases h7 : r = 7
  · subst h7
    rw [show wordS 7 = ⟨#[70, 105, 101, 108, 100]⟩ by kernel_rfl]
    go_enter Try.func17, Try.ntmps17
    go_wp2_with fail
    go_ret
    exact ⟨rfl, rfl⟩
  by_cases h8 : r = 8
  · subst h8
    rw [show wordS 8 = ⟨#[70, 101, 97, 116, 117, 114, 101]⟩ by kernel_rfl]
    go_enter Try.func17, Try.ntmps17
    go_wp2_with fail
    go_ret
    exact ⟨rfl, rfl⟩
  by_cases h10 : r = 10
  · subst h10
    rw [show wordS 10 = ⟨#[67, 114, 121, 112, 116, 111]⟩ by kernel_rfl]
    go_enter Try.func17, Try.ntmps17
    go_wp2_with fail
    go_ret
    exact ⟨rfl, rfl⟩
  by_cases h11 : r = 11
  · subst h11
    rw [show wordS 11 = ⟨#[73, 108, 108, 101, 103, 97, 108]⟩ by kernel_rfl]
    go_enter Try.func17, Try.ntmps17
    go_wp2_with fail
    go_ret
    exact ⟨rfl, rfl⟩
  by_cases h12 : r = 12
  · subst h12
    rw [show wordS 12 = ⟨#[68, 101, 110, 105, 101, 100]⟩ by kernel_rfl]
    go_enter Try.func17, Try.ntmps17
    go_wp2_with fail
    go_ret
    exact ⟨rfl, rfl⟩
  by_cases h13 : r = 13
  · subst h13
    rw [show wordS 13 = ⟨#[65, 114, 99, 104, 105, 118, 101, 100]⟩ by kernel_rfl]
    go_enter Try.func17, Try.ntmps17
    go_wp2_with fail
    go_ret
    exact ⟨rfl, rfl⟩
  by_cases h14 : r = 14
  · subst h14
    rw [show wordS 14 = ⟨#[73, 110, 100, 101, 120]⟩ by kernel_rfl]
    go_enter Try.func17, Try.ntmps17
    go_wp2_with fail
    go_ret
    exact ⟨rfl, rfl⟩
  by_cases h256 : r = 256
  · subst h256
    rw [show wordS 256 = ⟨#[71, 101, 110, 101, 114, 97, 108]⟩ by kernel_rfl]
    go_enter Try.func17, Try.ntmps17
    go_wp2_with fail
    go_ret
    exact ⟨rfl, rfl⟩
  have e0 : (r == 0) = false := by simpa using h0
  have e1 : (r == 1) = false := by simpa using h1
  have e2 : (r == 2) = false := by simpa using h2
  have e4 : (r == 4) = false := by simpa using h4
  have e5 : (r == 5) = false := by simpa using h5
  have e6 : (r == 6) = false := by simpa using h6
  have e7 : (r == 7) = false := by simpa using h7
  have e8 : (r == 8) = false := by simpa using h8
  have e10 : (r == 10) = false := by simpa using h10
  have e11 : (r == 11) = false := by simpa using h11
  have e12 : (r == 12) = false := by simpa using h12
  have e13 : (r == 13) = false := by simpa using h13
  have e14 : (r == 14) = false := by simpa using h14
  have e256 : (r == 256) = false := by simpa using h256
  have f0 : ((0 : Int) == r) = false := by simp; omega
  have f1 : ((1 : Int) == r) = false := by simp; omega
  have f2 : ((2 : Int) == r) = false := by simp; omega
  have f4 : ((4 : Int) == r) = false := by simp; omega
  have f5 : ((5 : Int) == r) = false := by simp; omega
  have f6 : ((6 : Int) == r) = false := by simp; omega
  have f7 : ((7 : Int) == r) = false := by simp; omega
  have f8 : ((8 : Int) == r) = false := by simp; omega
  have f10 : ((10 : Int) == r) = false := by simp; omega
  have f11 : ((11 : Int) == r) = false := by simp; omega
  have f12 : ((12 : Int) == r) = false := by simp; omega
  have f13 : ((13 : Int) == r) = false := by simp; omega
  have f14 : ((14 : Int) == r) = false := by simp; omega
  have f256 : ((256 : Int) == r) = false := by simp; omega
  rw [show wordS r = ⟨#[]⟩ by unfold wordS wordL; simp only [List.find?, f0, f1, f2, f4, f5, f6, f7, f8, f10, f11, f12, f13, f14, f256]]
  clear f0 f1 f2 f4 f5 f6 f7 f8 f10 f11 f12 f13 f14 f256 h0 h1 h2 h4 h5 h6 h7 h8 h10 h11 h12 h13 h14 h256
  go_enter Try.func17, Try.ntmps17
  go_wp2_with fail
  go_ret
  exact ⟨rfl, rfl⟩
end Go.Proofs.Ytfcobmncbnkppaa
