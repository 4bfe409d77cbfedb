/- TtlvEncodes' walk. -/
import Derived.Test.YtmpajhacigjloaaDoorTtlZ
import Derived.Test.YtmpajhacigjloaaDoorRefT6
namespace Go.Proofs.YtmpajhacigjloaaDoor
open Go.RowKit
set_option linter.unusedVariables false
set_option linter.unusedSimpArgs false
set_option maxRecDepth 1000000
set_option maxHeartbeats 3200000
def encL (i : Itm) : List UInt8 := if rightI i = true then i.enc else []
def encZ (i : Itm) : Int := if rightI i = true then 0 else 1
theorem ttlvEncodes_walk (aL : Option Addr) (nL cL : Nat) (l : List R6) (w : World) (hal : R6Args w aL nL l) (hT : UT w) :
    Calls Tryd.prog 9 #[.slice aL nL cL] w fun e w' => e = .returned (.bool true) ∧ Below w.heap.size w w' := by
  have HAL := hid hal; have HT := hid hT
  have HW0 := hid (tree6_wt l)
  clear hal hT
  go_enter Tryd.func9, Tryd.ntmps9
  go_wp2_with fail
  refine (tree_any aL nL cL l 30 0 w (by decide) HAL.out).mono ?_
  rintro e w2 ⟨hb, v, rfl, hvi, hvo, hvf⟩
  dsimp only
  have HB := hid hb; have HVO := hid hvo
  have HWT : Hid (v.it.wt ≤ 1000000) := by have h := HW0.out; rw [← hvi] at h; show _ ≤ _; omega
  clear hb hvo hvf hvi HAL HW0
  go_upto_region 2 with (first | (refine wpList_alloc_obj rfl 29 rfl _ iZero ?_) | (refine wpList_store_obj rfl 29 _ _ rfl w2.heap.size rfl _ rfl _ _ (block_new w2 _) rfl iSize (arr_one v) ?_; intro w3 hb5 hc5 hs5; have HK0 := hid hb5; have HC5 := hid hc5; clear hb5 hc5 hs5))
  have hbel : Below w2.heap.size w2 w3 := ((Below.refl _ w2).alloc (Nat.le_refl _) _).trans (HC5.out.below (fun k hk => by rw [List.mem_singleton.1 hk]; exact Nat.le_refl _) (by simp))
  have HB3 := hid (HB.out.trans (Below.mono hbel HB.out.size))
  have HO3 := hid (HVO.out.below hbel)
  clear hbel HC5 HB HVO
  generalize w2.heap.size = b1 at *
  go_simp
  go_wp2_with (refine wpList_load_row rfl 29 _ rfl b1 rfl _ _ _ _ HK0.out Tryd.underlying29 rfl iSize ?_)
  refine (Encode_any v _ HO3.out (HT.out.below HB3.out)).mono ?_
  intro e w4 h
  have he : ∃ a n c, e = .returned (.tuple #[.slice a n c, .int .i64 (encZ v.it)]) ∧ RdB w4 a n (encL v.it) := by
    unfold encZ encL
    rcases h.2 with ⟨h1, rfl⟩ | ⟨h1, a, n, c, rfl, hown⟩
    · rw [if_neg (by rw [h1]; decide), if_neg (by rw [h1]; decide)]; exact ⟨none, 0, 0, rfl, RdB.nil _ _⟩
    · rw [if_pos h1, if_pos h1]; exact ⟨a, n, c, rfl, RdB.of_own hown⟩
  obtain ⟨a, n, c, rfl, hr⟩ := he
  dsimp only
  have HB4 := hid (HB3.out.trans (Below.mono h.1 HB3.out.size))
  have HO4 := hid (HO3.out.below h.1)
  have HK4 := hid ((h.1.block _ (block_lt HK0.out)).trans HK0.out)
  have HR0 := hid hr
  clear h hr HB3 HO3 HK0
  go_wp2_with (refine wpList_load_row rfl 29 _ rfl b1 rfl _ _ _ _ HK4.out Tryd.underlying29 rfl iSize ?_)
  refine (rEncode_any v _ HO4.out HWT.out (HT.out.below HB4.out)).mono ?_
  intro e w5 h
  have he : ∃ a n c, e = .returned (.tuple #[.slice a n c, .int .i64 (encZ v.it)]) ∧ RdB w5 a n (encL v.it) := by
    unfold encZ encL
    rcases h.2 with ⟨h1, rfl⟩ | ⟨h1, a, n, c, rfl, hg⟩
    · rw [if_neg (by rw [h1]; decide), if_neg (by rw [h1]; decide)]; exact ⟨none, 0, 0, rfl, RdB.nil _ _⟩
    · rw [if_pos h1, if_pos h1]; exact ⟨a, n, c, rfl, hg.rd⟩
  obtain ⟨a', n', c', rfl, hr⟩ := he
  dsimp only
  have HBW := hid (HB4.out.trans (Below.mono h.1 HB4.out.size))
  have HO := hid (HO4.out.below h.1)
  have HK := hid ((h.1.block _ (block_lt HK4.out)).trans HK4.out)
  have HR1 := hid (HR0.out.below h.1); have HR2 := hid hr
  clear h hr HB4 HO4 HK4 HR0
  obtain ⟨RI, hRI⟩ : ∃ RI, rightI v.it = RI := ⟨_, rfl⟩
  obtain ⟨SZ, hSZ⟩ : ∃ SZ : Int, ((sizeF 100 v.it : Nat) : Int) = SZ := ⟨_, rfl⟩
  have HRI := hid hRI; have HZ := hid hSZ
  clear hRI hSZ
  generalize encL v.it = L at *
  generalize encZ v.it = z at *
  go_upto_region 4 with (fail)
  refine wp_region_each 28 [.eq (.bool true), .eq (.bool true), .eq (.agg v.arr), .eq (.bool RI), .eq (.agg v.arr), .eq (.bool RI), .eq (.bool true), .eq (.bool true), .eq (.bool true), .eq (.agg v.arr), .eq (.int .i64 SZ), .eq (.agg v.arr), .eq (.int .i64 SZ), .eq (.bool true), .eq (.bool true), .eq (.bool true), .eq (.slice a n c), .eq (.string ⟨L.toArray⟩), .eq (.slice a' n' c'), .eq (.string ⟨L.toArray⟩), .eq (.bool true), .eq (.bool true), .eq (.bool true), .eq (.int .i64 z), .eq (.int .i64 z), .eq (.bool true), .eq (.bool true), .eq (.bool true)] (by kernel_rfl) (by kernel_rfl) (by kernel_rfl) (by kernel_rfl) ?_ ?_
  · all_goals
      refine each_5 ?_ ?_ ?_ ?_ ?_ (each_5 ?_ ?_ ?_ ?_ ?_ (each_5 ?_ ?_ ?_ ?_ ?_ (each_5 ?_ ?_ ?_ ?_ ?_ (each_5 ?_ ?_ ?_ ?_ ?_ (each_c ?_ (each_c ?_ (each_c ?_ (each_n))))))))
      · intro w1 hg Ar seen
        refine does_plain rfl fun K Q' hK => ?_
        go_simp
        refine (known6_any _ (HT.out.below (HBW.out.trans (Below.mono hg HBW.out.size)))).mono ?_
        rintro e u ⟨rfl, hb⟩
        exact hK _ _ hb rfl
      · intro w1 hg Ar seen
        have e0 := seen.de 0 20
        refine does_plain rfl fun K Q' hK => ?_
        go_simp; exact hK _ _ (Grow.refl _) rfl
      · intro w1 hg Ar seen
        have e1 := seen.de 1 21
        have s3 := seen.sl 3 (.pointer (some ⟨b1, 0, none⟩))
        refine does_on rfl (by kernel_rfl) e1 fun K Q' hK => ?_
        clear e1
        refine wp_load_row 29 _ rfl b1 (by simp [Act.eval, s3]) _ _ _ _ ((hg.block _ (block_lt HK.out)).trans HK.out) Tryd.underlying29 rfl iSize ?_
        exact hK _ _ (Grow.refl _) rfl
      · intro w1 hg Ar seen
        have e2 := seen.de 2 22
        have e1 := seen.de 1 21
        refine does_on rfl (by kernel_rfl) e1 fun K Q' hK => ?_
        clear e1
        go_simp
        refine (Right_any v _ (HO.out.below hg) (HT.out.below (HBW.out.trans (Below.mono hg HBW.out.size)))).mono ?_
        rintro e u ⟨rfl, hb⟩
        exact hK _ _ hb (congrArg Value.bool HRI.out)
      · intro w1 hg Ar seen
        have e1 := seen.de 1 21
        have s3 := seen.sl 3 (.pointer (some ⟨b1, 0, none⟩))
        refine does_on rfl (by kernel_rfl) e1 fun K Q' hK => ?_
        clear e1
        refine wp_load_row 29 _ rfl b1 (by simp [Act.eval, s3]) _ _ _ _ ((hg.block _ (block_lt HK.out)).trans HK.out) Tryd.underlying29 rfl iSize ?_
        exact hK _ _ (Grow.refl _) rfl
      · intro w1 hg Ar seen
        have e4 := seen.de 4 24
        have e1 := seen.de 1 21
        refine does_on rfl (by kernel_rfl) e1 fun K Q' hK => ?_
        clear e1
        go_simp
        refine (rRight_any v _ (HO.out.below hg) HWT.out (HT.out.below (HBW.out.trans (Below.mono hg HBW.out.size)))).mono ?_
        rintro e u ⟨rfl, hb⟩
        exact hK _ _ hb (congrArg Value.bool HRI.out)
      · intro w1 hg Ar seen
        have e3 := seen.de 3 23
        have e5 := seen.de 5 25
        have e1 := seen.de 1 21
        refine does_on rfl (by kernel_rfl) e1 fun K Q' hK => ?_
        clear e1
        go_simp; exact hK _ _ (Grow.refl _) rfl
      · intro w1 hg Ar seen
        have e1 := seen.de 1 21
        have e6 := seen.de 6 26
        refine does_plain rfl fun K Q' hK => ?_
        go_simp; exact hK _ _ (Grow.refl _) rfl
      · intro w1 hg Ar seen
        have e7 := seen.de 7 27
        refine does_plain rfl fun K Q' hK => ?_
        go_simp; exact hK _ _ (Grow.refl _) rfl
      · intro w1 hg Ar seen
        have e8 := seen.de 8 28
        have s3 := seen.sl 3 (.pointer (some ⟨b1, 0, none⟩))
        refine does_on rfl (by kernel_rfl) e8 fun K Q' hK => ?_
        clear e8
        refine wp_load_row 29 _ rfl b1 (by simp [Act.eval, s3]) _ _ _ _ ((hg.block _ (block_lt HK.out)).trans HK.out) Tryd.underlying29 rfl iSize ?_
        exact hK _ _ (Grow.refl _) rfl
      · intro w1 hg Ar seen
        have e9 := seen.de 9 29
        have e8 := seen.de 8 28
        refine does_on rfl (by kernel_rfl) e8 fun K Q' hK => ?_
        clear e8
        go_simp
        refine (Size_any v _ (HO.out.below hg)).mono ?_
        rintro e u ⟨rfl, hb⟩
        exact hK _ _ hb (congrArg (Value.int .i64) HZ.out)
      · intro w1 hg Ar seen
        have e8 := seen.de 8 28
        have s3 := seen.sl 3 (.pointer (some ⟨b1, 0, none⟩))
        refine does_on rfl (by kernel_rfl) e8 fun K Q' hK => ?_
        clear e8
        refine wp_load_row 29 _ rfl b1 (by simp [Act.eval, s3]) _ _ _ _ ((hg.block _ (block_lt HK.out)).trans HK.out) Tryd.underlying29 rfl iSize ?_
        exact hK _ _ (Grow.refl _) rfl
      · intro w1 hg Ar seen
        have e11 := seen.de 11 31
        have e8 := seen.de 8 28
        refine does_on rfl (by kernel_rfl) e8 fun K Q' hK => ?_
        clear e8
        go_simp
        refine (rSize_any v _ (HO.out.below hg) HWT.out).mono ?_
        rintro e u ⟨rfl, hb⟩
        exact hK _ _ hb (congrArg (Value.int .i64) HZ.out)
      · intro w1 hg Ar seen
        have e10 := seen.de 10 30
        have e12 := seen.de 12 32
        have e8 := seen.de 8 28
        refine does_on rfl (by kernel_rfl) e8 fun K Q' hK => ?_
        clear e8
        go_simp; exact hK _ _ (Grow.refl _) rfl
      · intro w1 hg Ar seen
        have e8 := seen.de 8 28
        have e13 := seen.de 13 33
        refine does_plain rfl fun K Q' hK => ?_
        go_simp; exact hK _ _ (Grow.refl _) rfl
      · intro w1 hg Ar seen
        have e14 := seen.de 14 34
        refine does_plain rfl fun K Q' hK => ?_
        go_simp; exact hK _ _ (Grow.refl _) rfl
      · intro w1 hg Ar seen
        have e15 := seen.de 15 35
        have s4 := seen.sl 4 (.slice a n c)
        refine does_on rfl (by kernel_rfl) e15 fun K Q' hK => ?_
        clear e15
        go_simp; exact hK _ _ (Grow.refl _) rfl
      · intro w1 hg Ar seen
        have e16 := seen.de 16 36
        have e15 := seen.de 15 35
        refine does_on rfl (by kernel_rfl) e15 fun K Q' hK => ?_
        clear e15
        have rc := run_bytes_str (P := Tryd.prog) (HR1.out.below hg) c 23 9 5 Tryd.underlying23 Tryd.underlying5 Tryd.underlying9
        go_simp; exact hK _ _ (Grow.refl _) rfl
      · intro w1 hg Ar seen
        have e15 := seen.de 15 35
        have s6 := seen.sl 6 (.slice a' n' c')
        refine does_on rfl (by kernel_rfl) e15 fun K Q' hK => ?_
        clear e15
        go_simp; exact hK _ _ (Grow.refl _) rfl
      · intro w1 hg Ar seen
        have e18 := seen.de 18 38
        have e15 := seen.de 15 35
        refine does_on rfl (by kernel_rfl) e15 fun K Q' hK => ?_
        clear e15
        have rc := run_bytes_str (P := Tryd.prog) (HR2.out.below hg) c' 23 9 5 Tryd.underlying23 Tryd.underlying5 Tryd.underlying9
        go_simp; exact hK _ _ (Grow.refl _) rfl
      · intro w1 hg Ar seen
        have e17 := seen.de 17 37
        have e19 := seen.de 19 39
        have e15 := seen.de 15 35
        refine does_on rfl (by kernel_rfl) e15 fun K Q' hK => ?_
        clear e15
        go_simp; exact hK _ _ (Grow.refl _) rfl
      · intro w1 hg Ar seen
        have e15 := seen.de 15 35
        have e20 := seen.de 20 40
        refine does_plain rfl fun K Q' hK => ?_
        go_simp; exact hK _ _ (Grow.refl _) rfl
      · intro w1 hg Ar seen
        have e21 := seen.de 21 41
        refine does_plain rfl fun K Q' hK => ?_
        go_simp; exact hK _ _ (Grow.refl _) rfl
      · intro w1 hg Ar seen
        have e22 := seen.de 22 42
        have s5 := seen.sl 5 (.int .i64 z)
        refine does_on rfl (by kernel_rfl) e22 fun K Q' hK => ?_
        clear e22
        go_simp; exact hK _ _ (Grow.refl _) rfl
      · intro w1 hg Ar seen
        have e22 := seen.de 22 42
        have s7 := seen.sl 7 (.int .i64 z)
        refine does_on rfl (by kernel_rfl) e22 fun K Q' hK => ?_
        clear e22
        go_simp; exact hK _ _ (Grow.refl _) rfl
      · intro w1 hg Ar seen
        have e23 := seen.de 23 43
        have e24 := seen.de 24 44
        have e22 := seen.de 22 42
        refine does_on rfl (by kernel_rfl) e22 fun K Q' hK => ?_
        clear e22
        go_simp; exact hK _ _ (Grow.refl _) rfl
      · intro w1 hg Ar seen
        have e22 := seen.de 22 42
        have e25 := seen.de 25 45
        refine does_plain rfl fun K Q' hK => ?_
        go_simp; exact hK _ _ (Grow.refl _) rfl
      · intro w1 hg Ar seen
        have e26 := seen.de 26 46
        refine does_plain rfl fun K Q' hK => ?_
        go_simp; exact hK _ _ (Grow.refl _) rfl
  intro w1 hg
  refine upon_w' (js := [0, 1, 2, 3, 4, 5, 6, 7, 8, 9, 10, 11, 12, 13, 14, 15, 16, 17, 18, 19, 20, 21, 22, 23, 24, 25, 26, 27]) (by rfl) ?_
  refine upon_e (some 20) (upon_e (some 21) (upon_e (some 22) (upon_e (some 23) (upon_e (some 24) (upon_e (some 25) (upon_e (some 26) (upon_e (some 27) (upon_e (some 28) (upon_e (some 29) (upon_e (some 30) (upon_e (some 31) (upon_e (some 32) (upon_e (some 33) (upon_e (some 34) (upon_e (some 35) (upon_e (some 36) (upon_e (some 37) (upon_e (some 38) (upon_e (some 39) (upon_e (some 40) (upon_e (some 41) (upon_e (some 42) (upon_e (some 43) (upon_e (some 44) (upon_e (some 45) (upon_e (some 46) (upon_e (some 2) (upon_n ?_))))))))))))))))))))))))))))
  go_simp
  have HG := hid hg
  clear hg
  go_simp
  go_wp2_with fail
  go_ret
  exact ⟨rfl, HBW.out.trans (Below.mono HG.out HBW.out.size)⟩
end Go.Proofs.YtmpajhacigjloaaDoor
