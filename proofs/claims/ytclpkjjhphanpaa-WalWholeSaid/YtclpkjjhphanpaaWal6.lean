/- law4: known. -/
import Derived.Test.YtclpkjjhphanpaaWal5
namespace Go.Proofs.Ytclpkjjhphanpaa
open Go.RowKit
set_option linter.unusedVariables false
set_option linter.unusedSimpArgs false
set_option maxRecDepth 100000
set_option maxHeartbeats 1600000
theorem known4_any (w : World) : Calls Try.prog 8 #[] w fun e w' => e = .returned (.bool true) ∧ Below w.heap.size w w' := by
  obtain ⟨i, hi, hz0, hz1, hz2⟩ := info_parts dInfoB
  obtain ⟨C56, hmk56⟩ : ∃ C, ∀ w : World, (Instr.makeSlice 32 (.int .i64 56) (.int .i64 56)).run Try.prog w = .ok (.slice (some ⟨w.heap.size, 0, none⟩) 56 56) (w.alloc (.cells C 5)) :=
    ⟨_, fun w => run_make (P := Try.prog) w 32 5 i (.int .u8 0) Try.underlying32 hi hz0 .i64 .i64 56 56 (by omega) (by omega) (by rw [hz2]; omega) (by omega)⟩
  obtain ⟨C57, hmk57⟩ : ∃ C, ∀ w : World, (Instr.makeSlice 32 (.int .i64 57) (.int .i64 57)).run Try.prog w = .ok (.slice (some ⟨w.heap.size, 0, none⟩) 57 57) (w.alloc (.cells C 5)) :=
    ⟨_, fun w => run_make (P := Try.prog) w 32 5 i (.int .u8 0) Try.underlying32 hi hz0 .i64 .i64 57 57 (by omega) (by omega) (by rw [hz2]; omega) (by omega)⟩
  generalize hbe : w.heap.size = b
  have HBE := hid hbe; clear hbe
  go_enter Try.func8, Try.ntmps8
  go_wp2_with fail
  refine (new_any 8 _ (by decide) (by decide)).mono ?_
  rintro e w1 ⟨F, rfl, hd1, hb1, hF1⟩
  rw [HBE.out] at hd1 hb1 hF1 ⊢
  have HD1 := hid hd1; have HB1 := hid hb1
  clear hd1 hb1 hF1
  go_wp2_with fail
  refine (open0_any 8 b F _ HD1.out (by decide)).mono ?_
  rintro e w2 ⟨pl, rfl, hl2, hd2, hb2, hp2⟩
  have hbw : b ≤ w1.heap.size := by rw [← HBE.out]; exact (show Below w.heap.size w w1 by rw [HBE.out]; exact HB1.out).size
  have HL2 := hid hl2; have HD2 := hid hd2; have HB2 := hid (HB1.out.trans (hb2.mono hbw))
  have HBW := hid (Nat.le_trans hbw hb2.size)
  clear hl2 hd2 hb2 hbw HB1 HD1
  go_wp2_with fail
  refine (logHalf_any pl b 0 0 0 (-1) false 53 (DSt.new 8) F _ HL2.out HD2.out (by decide) (by decide)).mono ?_
  rintro e w3 ⟨rfl, rfl⟩
  go_wp2_with fail
  refine (logRoom_any pl b 0 0 (-1) 0 false 53 (DSt.new 8) F _ HL2.out HD2.out (by decide) (by decide) (by decide)).mono ?_
  rintro e w4 ⟨rfl, hb4⟩
  have HB4 := hid (HB2.out.trans (hb4.mono HBW.out)); have HBW4 := hid (Nat.le_trans HBW.out hb4.size)
  clear hb4 HB2 HL2 HD2 HBW
  go_wp2_with fail
  refine (size_any _ 56 _ _ (by decide)).mono ?_
  rintro e w5 ⟨rfl, rfl⟩
  go_wp2_with fail
  refine (size_any _ 57 _ _ (by decide)).mono ?_
  rintro e w6 ⟨rfl, rfl⟩
  go_wp2_with fail
  go_ret
  exact ⟨rfl, (HB4.out.alloc HBW4.out _).alloc (by simp; have := HBW4.out; omega) _⟩
end Go.Proofs.Ytclpkjjhphanpaa
