/- wal.Open on a fresh disk. -/
import Derived.Test.YtfabfemccnkboaaWal4
namespace Go.Proofs.Ytfabfemccnkboaa
open Go.RowKit
set_option linter.unusedVariables false
set_option linter.unusedSimpArgs false
set_option maxRecDepth 100000
set_option maxHeartbeats 1600000
theorem new_read (n k : Nat) (hk : k < n) : (DSt.new n).read k = (zeros, 0) := by
  unfold DSt.read DSt.new
  simp [lastOf, hk]
theorem open0_any (n p : Nat) (F : List Nat) (w : World) (h : Dk w p (DSt.new n) F) (h8 : 8 ≤ n) :
    Calls Try.prog 14 #[.pointer (some ⟨p, 0, none⟩)] w fun e w' => ∃ pl, e = .returned (.tuple #[.pointer (some ⟨pl, 0, none⟩), .slice none 0 0, .int .i64 0]) ∧ w'.heap[pl]? = some (.cells (logArr p 0 0 0 (-1) false) 65 (0, 0)) ∧ Dk w' p (DSt.new n) F ∧ Below w.heap.size w w' ∧ w.heap.size ≤ pl := by
  have H := hid h; clear h
  go_enter Try.func14, Try.ntmps14
  go_wp2_with fail
  refine (down_any p (DSt.new n) F _ H.out).mono ?_
  rintro e w1 ⟨rfl, rfl⟩
  have hd : (DSt.new n).down = false := rfl
  rw [hd]
  clear hd
  go_wp2_with fail
  have hB : Hid (Below w.heap.size w (w.alloc (.cells (logArr p 0 0 0 (-1) false) 65))) := (Below.refl _ _).alloc (Nat.le_refl _) _
  have hL : Hid ((w.alloc (.cells (logArr p 0 0 0 (-1) false) 65)).heap[w.heap.size]? = some (.cells (logArr p 0 0 0 (-1) false) 65 (0, 0))) := block_new _ _
  go_loopw [20] (fun y wr => ∃ k : Nat, k ≤ 2 ∧ y = .int .i64 k ∧ wr.heap[w.heap.size]? = some (.cells (logArr p 0 0 0 (-1) false) 65 (0, 0)) ∧ Below w.heap.size w wr) (fun y _ => 2 - (intOf y).toNat)
  case atStart => exact ⟨0, Nat.zero_le _, rfl, hL.out, hB.out⟩
  case round =>
    clear hB hL
    obtain ⟨k, hk, rfl, hl, hb⟩ := hrel
    have HL := hid hl; have HB := hid hb
    clear hl hb
    by_cases hlt : k < 2
    · go_wp2_with fail
      refine (read0_any p k (DSt.new n) F _ (H.out.below HB.out) (by simp [DSt.new]; omega) (new_read n k (by omega))).mono ?_
      rintro e w2 ⟨rfl, hb2⟩
      have HL2 := hid ((hb2.block _ (block_lt HL.out)).trans HL.out)
      have HB2 := hid (HB.out.trans (hb2.mono HB.out.size))
      clear hb2 HL HB
      go_upto_region 10 with (first | (refine wpList_alloc_obj rfl 41 rfl _ hZero ?_) | (refine wpList_store_obj rfl 41 _ _ rfl w2.heap.size rfl _ rfl _ _ (block_new w2 _) rfl hSize (headArr_one 0 0 0) ?_; intro w3 hb3 hc3 hs3; have HB3 := hid hb3; have HC3 := hid hc3; clear hb3 hc3 hs3))
      have B23 : Hid (Below w2.heap.size w2 w3) := ((Below.refl _ w2).alloc (Nat.le_refl _) _).trans (HC3.out.below (fun k hk => by rw [List.mem_singleton.1 hk]; exact Nat.le_refl _) (by simp))
      have HL3 := hid ((B23.out.block _ (block_lt HL2.out)).trans HL2.out)
      have HB33 := hid (HB2.out.trans (B23.out.mono HB2.out.size))
      clear HC3 HB3 HL2 HB2 B23
      refine wp_region_each 18 [.eq (.bool false), .eq (.bool false), .eq undef, .eq undef, .eq undef, .eq undef, .eq undef, .eq undef, .eq undef, .eq undef, .eq undef, .eq undef, .eq undef, .eq undef, .eq undef, .eq undef, .eq undef, .eq (.bool false)] (by kernel_rfl) (by kernel_rfl) (by kernel_rfl) (by kernel_rfl) ?_ ?_
      · as_aux_lemma =>
          refine each_c (o' := _) ?_ (each_c (o' := _) ?_ (each_c (o' := _) ?_ (each_c (o' := _) ?_ (each_c (o' := _) ?_ (each_c (o' := _) ?_ (each_c (o' := _) ?_ (each_c (o' := _) ?_ (each_c (o' := _) ?_ (each_c (o' := _) ?_ (each_c (o' := _) ?_ (each_c (o' := _) ?_ (each_c (o' := _) ?_ (each_c (o' := _) ?_ (each_c (o' := _) ?_ (each_c (o' := _) ?_ (each_c (o' := _) ?_ (each_c (o' := _) ?_ (each_n))))))))))))))))))
          -- 0: move t8
          · intro w1 hg Ar seen
            have s8 := seen.slot 8 (v := .bool false) (by kernel_rfl) rfl
            refine does_plain rfl fun K Q' hK => ?_
            go_simp; exact hK _ _ (Grow.refl _) rfl
          -- 1: move t29
          · intro w1 hg Ar seen
            obtain ⟨v0, e0, h0⟩ := seen.dep 0 (d := 29) (by kernel_rfl) (by kernel_rfl) rfl
            rcases h0 with rfl
            refine does_plain rfl fun K Q' hK => ?_
            go_simp; exact hK _ _ (Grow.refl _) rfl
          -- 2: move t5
          · intro w1 hg Ar seen
            obtain ⟨v1, e1, h1⟩ := seen.dep 1 (d := 30) (by kernel_rfl) (by kernel_rfl) rfl
            rcases h1 with rfl
            exact does_off rfl (by kernel_rfl) e1 ne_ft (Grow.refl _) rfl
          -- 3: nilCheck t31
          · intro w1 hg Ar seen
            obtain ⟨v1, e1, h1⟩ := seen.dep 1 (d := 30) (by kernel_rfl) (by kernel_rfl) rfl
            rcases h1 with rfl
            exact does_off rfl (by kernel_rfl) e1 ne_ft (Grow.refl _) rfl
          -- 4: fieldAddr 65 t32 2
          · intro w1 hg Ar seen
            obtain ⟨v1, e1, h1⟩ := seen.dep 1 (d := 30) (by kernel_rfl) (by kernel_rfl) rfl
            rcases h1 with rfl
            exact does_off rfl (by kernel_rfl) e1 ne_ft (Grow.refl _) rfl
          -- 5: load 3 t33
          · intro w1 hg Ar seen
            obtain ⟨v1, e1, h1⟩ := seen.dep 1 (d := 30) (by kernel_rfl) (by kernel_rfl) rfl
            rcases h1 with rfl
            exact does_off rfl (by kernel_rfl) e1 ne_ft (Grow.refl _) rfl
          -- 6: binOp BinOp.lss 3 t34 0:i64 3
          · intro w1 hg Ar seen
            obtain ⟨v1, e1, h1⟩ := seen.dep 1 (d := 30) (by kernel_rfl) (by kernel_rfl) rfl
            rcases h1 with rfl
            exact does_off rfl (by kernel_rfl) e1 ne_ft (Grow.refl _) rfl
          -- 7: move t35
          · intro w1 hg Ar seen
            obtain ⟨v1, e1, h1⟩ := seen.dep 1 (d := 30) (by kernel_rfl) (by kernel_rfl) rfl
            rcases h1 with rfl
            exact does_off rfl (by kernel_rfl) e1 ne_ft (Grow.refl _) rfl
          -- 8: fieldAddr 41 t7 0
          · intro w1 hg Ar seen
            obtain ⟨v7, e7, h7⟩ := seen.dep 7 (d := 36) (by kernel_rfl) (by kernel_rfl) rfl
            rcases h7 with rfl
            exact does_off rfl (by kernel_rfl) e7 (ne_un _) (Grow.refl _) rfl
          -- 9: load 39 t37
          · intro w1 hg Ar seen
            obtain ⟨v7, e7, h7⟩ := seen.dep 7 (d := 36) (by kernel_rfl) (by kernel_rfl) rfl
            rcases h7 with rfl
            exact does_off rfl (by kernel_rfl) e7 (ne_un _) (Grow.refl _) rfl
          -- 10: move t5
          · intro w1 hg Ar seen
            obtain ⟨v7, e7, h7⟩ := seen.dep 7 (d := 36) (by kernel_rfl) (by kernel_rfl) rfl
            rcases h7 with rfl
            exact does_off rfl (by kernel_rfl) e7 (ne_un _) (Grow.refl _) rfl
          -- 11: nilCheck t39
          · intro w1 hg Ar seen
            obtain ⟨v7, e7, h7⟩ := seen.dep 7 (d := 36) (by kernel_rfl) (by kernel_rfl) rfl
            rcases h7 with rfl
            exact does_off rfl (by kernel_rfl) e7 (ne_un _) (Grow.refl _) rfl
          -- 12: fieldAddr 65 t40 1
          · intro w1 hg Ar seen
            obtain ⟨v7, e7, h7⟩ := seen.dep 7 (d := 36) (by kernel_rfl) (by kernel_rfl) rfl
            rcases h7 with rfl
            exact does_off rfl (by kernel_rfl) e7 (ne_un _) (Grow.refl _) rfl
          -- 13: fieldAddr 41 t41 0
          · intro w1 hg Ar seen
            obtain ⟨v7, e7, h7⟩ := seen.dep 7 (d := 36) (by kernel_rfl) (by kernel_rfl) rfl
            rcases h7 with rfl
            exact does_off rfl (by kernel_rfl) e7 (ne_un _) (Grow.refl _) rfl
          -- 14: load 39 t42
          · intro w1 hg Ar seen
            obtain ⟨v7, e7, h7⟩ := seen.dep 7 (d := 36) (by kernel_rfl) (by kernel_rfl) rfl
            rcases h7 with rfl
            exact does_off rfl (by kernel_rfl) e7 (ne_un _) (Grow.refl _) rfl
          -- 15: binOp BinOp.gtr 39 t38 t43 39
          · intro w1 hg Ar seen
            obtain ⟨v7, e7, h7⟩ := seen.dep 7 (d := 36) (by kernel_rfl) (by kernel_rfl) rfl
            rcases h7 with rfl
            exact does_off rfl (by kernel_rfl) e7 (ne_un _) (Grow.refl _) rfl
          -- 16: pick t36 true t44
          · intro w1 hg Ar seen
            obtain ⟨v1, e1, h1⟩ := seen.dep 1 (d := 30) (by kernel_rfl) (by kernel_rfl) rfl
            rcases h1 with rfl
            exact does_off rfl (by kernel_rfl) e1 ne_ft (Grow.refl _) rfl
          -- 17: pick t30 t45 false
          · intro w1 hg Ar seen
            obtain ⟨v1, e1, h1⟩ := seen.dep 1 (d := 30) (by kernel_rfl) (by kernel_rfl) rfl
            rcases h1 with rfl
            obtain ⟨v16, e16, h16⟩ := seen.dep 16 (d := 45) (by kernel_rfl) (by kernel_rfl) rfl
            rcases h16 with rfl
            refine does_plain rfl fun K Q' hK => ?_
            go_simp; exact hK _ _ (Grow.refl _) rfl
      intro w1 hg
      refine upon_w' (js := [0, 1, 2, 3, 4, 5, 6, 7, 8, 9, 10, 11, 12, 13, 14, 15, 16, 17]) (by rfl) ?_
      refine upon_c (x := some 29) (by kernel_rfl) rfl fun v0 h0 => ?_
      rcases h0 with rfl
      refine upon_c (x := some 30) (by kernel_rfl) rfl fun v1 h1 => ?_
      rcases h1 with rfl
      refine upon_c (x := some 31) (by kernel_rfl) rfl fun v2 h2 => ?_
      rcases h2 with rfl
      refine upon_c (x := some 32) (by kernel_rfl) rfl fun v3 h3 => ?_
      rcases h3 with rfl
      refine upon_c (x := some 33) (by kernel_rfl) rfl fun v4 h4 => ?_
      rcases h4 with rfl
      refine upon_c (x := some 34) (by kernel_rfl) rfl fun v5 h5 => ?_
      rcases h5 with rfl
      refine upon_c (x := some 35) (by kernel_rfl) rfl fun v6 h6 => ?_
      rcases h6 with rfl
      refine upon_c (x := some 36) (by kernel_rfl) rfl fun v7 h7 => ?_
      rcases h7 with rfl
      refine upon_c (x := some 37) (by kernel_rfl) rfl fun v8 h8 => ?_
      rcases h8 with rfl
      refine upon_c (x := some 38) (by kernel_rfl) rfl fun v9 h9 => ?_
      rcases h9 with rfl
      refine upon_c (x := some 39) (by kernel_rfl) rfl fun v10 h10 => ?_
      rcases h10 with rfl
      refine upon_c (x := some 40) (by kernel_rfl) rfl fun v11 h11 => ?_
      rcases h11 with rfl
      refine upon_c (x := some 41) (by kernel_rfl) rfl fun v12 h12 => ?_
      rcases h12 with rfl
      refine upon_c (x := some 42) (by kernel_rfl) rfl fun v13 h13 => ?_
      rcases h13 with rfl
      refine upon_c (x := some 43) (by kernel_rfl) rfl fun v14 h14 => ?_
      rcases h14 with rfl
      refine upon_c (x := some 44) (by kernel_rfl) rfl fun v15 h15 => ?_
      rcases h15 with rfl
      refine upon_c (x := some 45) (by kernel_rfl) rfl fun v16 h16 => ?_
      rcases h16 with rfl
      refine upon_c (x := some 46) (by kernel_rfl) rfl fun v17 h17 => ?_
      rcases h17 with rfl
      refine upon_n ?_
      go_simp
      have HL4 := hid ((hg.block _ (block_lt HL3.out)).trans HL3.out)
      have HB4 := hid (HB33.out.trans (hg.mono HB33.out.size))
      clear hg HL3 HB33
      go_wp2_with fail
      go_roundw
      case rel =>
        first
          | exact ⟨k + 1, by omega, by go_num, HL4.out, HB4.out⟩
          | ((repeat apply Exists.intro); exact ⟨⟨k + 1, by omega, by go_num, HL4.out, HB4.out⟩, rfl⟩)
      case measure => simp [intOf]; omega
    · obtain rfl : k = 2 := by omega
      go_wp2_with fail
      refine (units0_any w.heap.size p 0 0 (-1) false 65 _ HL.out).mono ?_
      rintro e w2 ⟨rfl, rfl⟩
      go_wp2_with fail
      refine bodyPost_ret (results_tmp3 rfl _ _ _) rfl ?_
      exact ⟨w.heap.size, rfl, HL.out, H.out.below HB.out, HB.out, Nat.le_refl _⟩
end Go.Proofs.Ytfabfemccnkboaa
