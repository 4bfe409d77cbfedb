/- TtlvCuts' walk. -/
import Derived.Test.YtmpajhacigjloaaDoorTtlM
import Derived.Test.YtmpajhacigjloaaDoorTtlS
namespace Go.Proofs.YtmpajhacigjloaaDoor
open Go.RowKit
set_option linter.unusedVariables false
set_option linter.unusedSimpArgs false
set_option maxRecDepth 1000000
set_option maxHeartbeats 3200000
theorem ttlvCuts_walk (aL : Option Addr) (nL cL : Nat) (l : List R6) (za : Int) (mo : UInt8) (w : World) (hal : R6Args w aL nL l) (hT : UT w) :
    Calls Tryd.prog 3 #[.slice aL nL cL, .int .i64 za, .int .u8 mo.toNat] w fun e w' => e = .returned (.bool true) ∧ Below w.heap.size w w' := by
  have HAL := hid hal; have HT := hid hT
  have HFIT := hid (tree6_fit l hal.nb 30 0)
  clear hal hT
  go_enter Tryd.func3, Tryd.ntmps3
  go_wp2_with fail
  refine (tree_any aL nL cL l 30 0 w (by decide) HAL.out).mono ?_
  rintro e w2 ⟨hb, v, rfl, hvi, hvo, hvf⟩
  dsimp only
  have HB := hid hb
  obtain ⟨I, hI⟩ : ∃ I, I = tree6 30 l 0 := ⟨_, rfl⟩
  rw [← hI] at hvi HFIT
  have HVO := hid hvo
  clear hb hvo hvf hI
  go_wp2_with fail
  refine (Encode_any v _ HVO.out (HT.out.below HB.out)).mono ?_
  rintro e w3 ⟨hb3, h⟩
  rw [hvi] at h
  have HB3 := hid (HB.out.trans (Below.mono hb3 HB.out.size))
  clear hb3 hvi HB HVO
  rcases h with ⟨hr, rfl⟩ | ⟨hr, a, n, c, rfl, hown⟩
  · dsimp only
    clear hr
    go_wp2_with fail
    refine (known6_any _ (HT.out.below HB3.out)).mono ?_
    rintro e w4 ⟨rfl, hb4⟩
    dsimp only
    have HB4 := hid (HB3.out.trans (Below.mono hb4 HB3.out.size))
    clear hb4 HB3
    go_wp2_with fail
    refine (known6_any _ (HT.out.below HB4.out)).mono ?_
    rintro e w5 ⟨rfl, hb5⟩
    dsimp only
    have HB5 := hid (HB4.out.trans (Below.mono hb5 HB4.out.size))
    clear hb5 HB4
    go_wp2_with fail
    go_ret
    exact ⟨rfl, HB5.out⟩
  · dsimp only
    have HR := hid hr
    have HN : Hid (n = I.enc.length ∧ n ≤ 8192) := by
      have h1 := hown.1
      have h2 := right_size hr
      simp only [List.length_map, Nat.mul_one] at h1
      exact ⟨h1.symm, by omega⟩
    have HG := hid (GB.of_own hown (by have := HN.out.2; omega))
    have hn8 : ¬ (n : Int) < 8 := by have := HN.out.1; have := enc_len8 I; omega
    clear hr hown
    go_wp2_with fail
    refine (known6_any _ (HT.out.below HB3.out)).mono ?_
    rintro e w4 ⟨rfl, hb4⟩
    dsimp only
    have HB4 := hid (HB3.out.trans (Below.mono hb4 HB3.out.size))
    have HG4 := hid (HG.out.below hb4)
    clear hb4 HB3 HG
    go_wp2_with fail
    refine (pick_any za (n : Int) _ (by omega) (by have := HN.out.2; omega)).mono ?_
    rintro e wz ⟨rfl, rfl⟩
    dsimp only
    obtain ⟨k, hk⟩ := Int.eq_ofNat_of_zero_le (pick_lo za (n : Int) (by omega))
    have hk2 := pick_hi za (n : Int) (by omega)
    rw [hk] at hk2 ⊢
    have HK : Hid (k < n) := by show k < n; omega
    clear hk hk2
    have hsl : ∀ w, (Instr.slice 23 (.slice a n c) none (some (.int .i64 (k : Int))) none).run Tryd.prog w = .ok (.slice a k c) w := fun w => run_slice_front (P := Tryd.prog) 23 5 1 Tryd.underlying23 (fun w => by kernel_rfl) a n c k (by have := HG4.out.nc; have := HK.out; omega) w
    go_wp2_with fail
    clear hsl
    refine (Decode_any a k c (I.enc.take k) _ (HG4.out.take (Nat.le_of_lt HK.out)) (HT.out.below HB4.out)).mono ?_
    rintro e w5 ⟨hb5, v5, rfl, _, _, _⟩
    dsimp only
    have hne := decP_cut HR.out HFIT.out (k := k) (by have h1 := HN.out.1; have h2 := HK.out; omega)
    generalize (decP (I.enc.take k)).2 = z5 at *
    have hz5 : (z5 != 0) = true := by simpa using hne
    have HB5 := hid (HB4.out.trans (Below.mono hb5 HB4.out.size))
    have HG5 := hid (HG4.out.below hb5)
    clear hb5 HB4 HG4 hne
    go_upto_region 5 with (first | (refine wpList_alloc_obj rfl 29 rfl _ iZero ?_) | (refine wpList_store_obj rfl 29 _ _ rfl w5.heap.size rfl _ rfl _ _ (block_new w5 _) rfl iSize (arr_one v5) ?_; intro w6 hb5 hc5 hs5; have KB := hid hb5; have HC5 := hid hc5; clear hb5 hc5 hs5))
    have hbel : Below w5.heap.size w5 w6 := ((Below.refl _ w5).alloc (Nat.le_refl _) _).trans (HC5.out.below (fun k hk => by rw [List.mem_singleton.1 hk]; exact Nat.le_refl _) (by simp))
    have HB6 := hid (HB5.out.trans (Below.mono hbel HB5.out.size))
    have HG6 := hid (HG5.out.below hbel)
    clear hbel HC5 HB5 HG5 KB
    go_wp2_with fail
    refine (few_all a n c I.enc _ HG6.out.rd HG6.out.nc HG6.out.le HG6.out.no).mono ?_
    rintro e w7 ⟨a7, c7, rfl, hown, hb7⟩
    dsimp only
    have HO := hid hown
    have HS7 := hid hb7.size
    have HB7 := hid (HB6.out.trans (Below.mono hb7 HB6.out.size))
    have HS6 := hid HB6.out.size
    clear hown hb7 HB6 HG6
    obtain ⟨i, hi, hz0, hz1, hz2⟩ := info_parts infoB
    go_wp2_with (first | (at_builtin; go_must (refine wpList_append_bytes rfl _ _ 23 rfl w6.heap.size 5 i _ Tryd.underlying23 hi hz0 hz1 hz2 rfl _ n I.enc rfl (((Chg.refl [] _).alloc _).owns HO.out (fun k _ hm => by cases hm)) _ 1 1 [mo] rfl (RdB.new _ [mo] _ _ _ rfl 1 rfl _ rfl) (fun h => by cases h) (by have := HN.out.2; omega) (by simp; have := HS7.out; omega) ?_); intro a8 c8 w8 hown hgw; have HO8 := hid hown; have HG8 := hid hgw; clear hown hgw) | (refine wpList_buildSlice rfl 23 5 1 _ rfl #[.int .u8 mo.toNat] i _ Tryd.underlying23 hi hz0 (by rw [hz1]; decide) (by rw [hz1]; decide) (by rw [hz1]; kernel_rfl) ?_))
    have HB8 : Hid (Below w.heap.size w w8) := by
      refine Below.grown (HB7.out.trans (Below.mono ((Below.refl _ w7).alloc (Nat.le_refl _) _) HB7.out.size)) HG8.out ?_ (fun q hq => by have h2 := (HO.out.lt q hq).1; have h3 := HS6.out; omega)
      have h1 := HB7.out.size
      simp
      omega
    clear HG8 HB7 HO HS7
    refine (Decode_any a8 (n + 1) c8 (I.enc ++ [mo]) _ (GB.of_own HO8.out (by have := HN.out.2; omega)) (HT.out.below HB8.out)).mono ?_
    rintro e w9 ⟨hb9, v9, rfl, _, _, _⟩
    dsimp only
    have hne := decP_more HR.out HFIT.out [mo] (by simp)
    generalize (decP (I.enc ++ [mo])).2 = z9 at *
    have hz9 : (z9 != 0) = true := by simpa using hne
    have HB9 := hid (HB8.out.trans (Below.mono hb9 HB8.out.size))
    clear hb9 HB8 hne HO8
    go_upto_region 6 with (first | (refine wpList_alloc_obj rfl 29 rfl _ iZero ?_) | (refine wpList_store_obj rfl 29 _ _ rfl w9.heap.size rfl _ rfl _ _ (block_new w9 _) rfl iSize (arr_one v9) ?_; intro w10 hb5 hc5 hs5; have KB := hid hb5; have HC5 := hid hc5; clear hb5 hc5 hs5))
    have hbel : Below w9.heap.size w9 w10 := ((Below.refl _ w9).alloc (Nat.le_refl _) _).trans (HC5.out.below (fun k hk => by rw [List.mem_singleton.1 hk]; exact Nat.le_refl _) (by simp))
    have HB10 := hid (HB9.out.trans (Below.mono hbel HB9.out.size))
    clear hbel HC5 HB9 KB
    go_wp2_with fail
    go_ret
    exact ⟨rfl, HB10.out⟩
end Go.Proofs.YtmpajhacigjloaaDoor
