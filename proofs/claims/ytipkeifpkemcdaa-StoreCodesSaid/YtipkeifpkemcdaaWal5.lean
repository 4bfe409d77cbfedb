/- wal.Open on a fresh disk. -/
import Derived.Test.YtipkeifpkemcdaaWal4
namespace Go.Proofs.Ytipkeifpkemcdaa
open Go.RowKit
set_option linter.unusedVariables false
set_option linter.unusedSimpArgs false
set_option maxRecDepth 100000
set_option maxHeartbeats 1600000
theorem new_read (n k : Nat) (hk : k < n) : (DSt.new n).read k = (zeros, 0) := by
  unfold DSt.read DSt.new
  simp [lastOf, hk]
theorem open0_any (n p : Nat) (F : List Nat) (w : World) (h : Dk w p (DSt.new n) F) (h8 : 8 ≤ n) :
    Calls Try.prog 51 #[.pointer (some ⟨p, 0, none⟩)] w fun e w' => ∃ pl, e = .returned (.tuple #[.pointer (some ⟨pl, 0, none⟩), .slice none 0 0, .int .i64 0]) ∧ w'.heap[pl]? = some (.cells (logArr p 0 0 0 (-1) false) 118 (0, 0)) ∧ Dk w' p (DSt.new n) F ∧ Below w.heap.size w w' ∧ w.heap.size ≤ pl := by
  have H := hid h; clear h
  go_enter Try.func51, Try.ntmps51
  go_wp2_with fail
  refine (down_any p (DSt.new n) F _ H.out).mono ?_
  rintro e w1 ⟨rfl, rfl⟩
  have hd : (DSt.new n).down = false := rfl
  rw [hd]
  clear hd
  go_wp2_with fail
  have hB : Hid (Below w.heap.size w (w.alloc (.cells (logArr p 0 0 0 (-1) false) 118))) := (Below.refl _ _).alloc (Nat.le_refl _) _
  have hL : Hid ((w.alloc (.cells (logArr p 0 0 0 (-1) false) 118)).heap[w.heap.size]? = some (.cells (logArr p 0 0 0 (-1) false) 118 (0, 0))) := block_new _ _
  go_loopw [20] (fun y wr => ∃ k : Nat, k ≤ 2 ∧ y = .int .i64 k ∧ wr.heap[w.heap.size]? = some (.cells (logArr p 0 0 0 (-1) false) 118 (0, 0)) ∧ Below w.heap.size w wr) (fun y _ => 2 - (intOf y).toNat)
  case atStart => exact ⟨0, Nat.zero_le _, rfl, hL.out, hB.out⟩
  case round =>
    clear hB hL
    obtain ⟨k, hk, rfl, hl, hb⟩ := hrel
    have HL := hid hl; have HB := hid hb
    clear hl hb
    by_cases hlt : k < 2
    · go_wp2_with fail
      refine (read0_any p k (DSt.new n) F _ (H.out.below HB.out) (by simp [DSt.new]; omega) (new_read n k (by omega))).mono ?_
      rintro e w2 ⟨rfl, hb2⟩
      have HL2 := hid ((hb2.block _ (block_lt HL.out)).trans HL.out)
      have HB2 := hid (HB.out.trans (hb2.mono HB.out.size))
      clear hb2 HL HB
      go_upto_region 10 with (first | (refine wpList_alloc_obj rfl 116 rfl _ hZero ?_) | (refine wpList_store_obj rfl 116 _ _ rfl w2.heap.size rfl _ rfl _ _ (block_new w2 _) rfl hSize (headArr_one 0 0 0) ?_; intro w3 hb3 hc3 hs3; have HB3 := hid hb3; have HC3 := hid hc3; clear hb3 hc3 hs3))
      have B23 : Hid (Below w2.heap.size w2 w3) := ((Below.refl _ w2).alloc (Nat.le_refl _) _).trans (HC3.out.below (fun k hk => by rw [List.mem_singleton.1 hk]; exact Nat.le_refl _) (by simp))
      have HL3 := hid ((B23.out.block _ (block_lt HL2.out)).trans HL2.out)
      have HB33 := hid (HB2.out.trans (B23.out.mono HB2.out.size))
      clear HC3 HB3 HL2 HB2 B23
      refine wp_region_each 18 [.eq (.bool false), .eq (.bool false), .eq undef, .eq undef, .eq undef, .eq undef, .eq undef, .eq undef, .eq undef, .eq undef, .eq undef, .eq undef, .eq undef, .eq undef, .eq undef, .eq undef, .eq undef, .eq (.bool false)] (by kernel_rfl) (by kernel_rfl) (by kernel_rfl) (by kernel_rfl) ?_ ?_
      · as_aux_lemma =>
          refine each_5 ?_ ?_ ?_ ?_ ?_ (each_5 ?_ ?_ ?_ ?_ ?_ (each_5 ?_ ?_ ?_ ?_ ?_ (each_c ?_ (each_c ?_ (each_c ?_ (each_n))))))
          · intro w1 hg Ar seen
            have s8 := seen.sl 8 (.bool false)
            refine does_plain rfl fun K Q' hK => ?_
            go_simp; exact hK _ _ (Grow.refl _) rfl
          · intro w1 hg Ar seen
            have e0 := seen.de 0 29
            refine does_plain rfl fun K Q' hK => ?_
            go_simp; exact hK _ _ (Grow.refl _) rfl
          · intro w1 hg Ar seen
            have e1 := seen.de 1 30
            exact does_off rfl (by kernel_rfl) e1 ne_ft (Grow.refl _) rfl
          · intro w1 hg Ar seen
            have e1 := seen.de 1 30
            exact does_off rfl (by kernel_rfl) e1 ne_ft (Grow.refl _) rfl
          · intro w1 hg Ar seen
            have e1 := seen.de 1 30
            exact does_off rfl (by kernel_rfl) e1 ne_ft (Grow.refl _) rfl
          · intro w1 hg Ar seen
            have e1 := seen.de 1 30
            exact does_off rfl (by kernel_rfl) e1 ne_ft (Grow.refl _) rfl
          · intro w1 hg Ar seen
            have e1 := seen.de 1 30
            exact does_off rfl (by kernel_rfl) e1 ne_ft (Grow.refl _) rfl
          · intro w1 hg Ar seen
            have e1 := seen.de 1 30
            exact does_off rfl (by kernel_rfl) e1 ne_ft (Grow.refl _) rfl
          · intro w1 hg Ar seen
            have e7 := seen.de 7 36
            exact does_off rfl (by kernel_rfl) e7 (ne_un _) (Grow.refl _) rfl
          · intro w1 hg Ar seen
            have e7 := seen.de 7 36
            exact does_off rfl (by kernel_rfl) e7 (ne_un _) (Grow.refl _) rfl
          · intro w1 hg Ar seen
            have e7 := seen.de 7 36
            exact does_off rfl (by kernel_rfl) e7 (ne_un _) (Grow.refl _) rfl
          · intro w1 hg Ar seen
            have e7 := seen.de 7 36
            exact does_off rfl (by kernel_rfl) e7 (ne_un _) (Grow.refl _) rfl
          · intro w1 hg Ar seen
            have e7 := seen.de 7 36
            exact does_off rfl (by kernel_rfl) e7 (ne_un _) (Grow.refl _) rfl
          · intro w1 hg Ar seen
            have e7 := seen.de 7 36
            exact does_off rfl (by kernel_rfl) e7 (ne_un _) (Grow.refl _) rfl
          · intro w1 hg Ar seen
            have e7 := seen.de 7 36
            exact does_off rfl (by kernel_rfl) e7 (ne_un _) (Grow.refl _) rfl
          · intro w1 hg Ar seen
            have e7 := seen.de 7 36
            exact does_off rfl (by kernel_rfl) e7 (ne_un _) (Grow.refl _) rfl
          · intro w1 hg Ar seen
            have e1 := seen.de 1 30
            exact does_off rfl (by kernel_rfl) e1 ne_ft (Grow.refl _) rfl
          · intro w1 hg Ar seen
            have e1 := seen.de 1 30
            have e16 := seen.de 16 45
            refine does_plain rfl fun K Q' hK => ?_
            go_simp; exact hK _ _ (Grow.refl _) rfl
      intro w1 hg
      refine upon_w' (js := [0, 1, 2, 3, 4, 5, 6, 7, 8, 9, 10, 11, 12, 13, 14, 15, 16, 17]) (by rfl) ?_
      refine upon_e (some 29) (upon_e (some 30) (upon_e (some 31) (upon_e (some 32) (upon_e (some 33) (upon_e (some 34) (upon_e (some 35) (upon_e (some 36) (upon_e (some 37) (upon_e (some 38) (upon_e (some 39) (upon_e (some 40) (upon_e (some 41) (upon_e (some 42) (upon_e (some 43) (upon_e (some 44) (upon_e (some 45) (upon_e (some 46) (upon_n ?_))))))))))))))))))
      go_simp
      have HL4 := hid ((hg.block _ (block_lt HL3.out)).trans HL3.out)
      have HB4 := hid (HB33.out.trans (hg.mono HB33.out.size))
      clear hg HL3 HB33
      go_wp2_with fail
      go_roundw
      case rel =>
        first
          | exact ⟨k + 1, by omega, by go_num, HL4.out, HB4.out⟩
          | ((repeat apply Exists.intro); exact ⟨⟨k + 1, by omega, by go_num, HL4.out, HB4.out⟩, rfl⟩)
      case measure => simp [intOf]; omega
    · obtain rfl : k = 2 := by omega
      go_wp2_with fail
      refine (units0_any w.heap.size p 0 0 (-1) false 118 _ HL.out).mono ?_
      rintro e w2 ⟨rfl, rfl⟩
      go_wp2_with fail
      refine bodyPost_ret (results_tmp3 rfl _ _ _) rfl ?_
      exact ⟨w.heap.size, rfl, HL.out, H.out.below HB.out, HB.out, Nat.le_refl _⟩
end Go.Proofs.Ytipkeifpkemcdaa
