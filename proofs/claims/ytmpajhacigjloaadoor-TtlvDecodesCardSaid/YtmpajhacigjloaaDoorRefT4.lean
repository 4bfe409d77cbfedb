/- The reference's Right. -/
import Derived.Test.YtmpajhacigjloaaDoorRefT3
namespace Go.Proofs.YtmpajhacigjloaaDoor
open Go.RowKit
set_option linter.unusedVariables false
set_option linter.unusedSimpArgs false
set_option maxRecDepth 100000
set_option maxHeartbeats 3200000
theorem rRight_any (v : ItV) (w : World) (hv : v.ok w) (hw : v.it.wt ≤ 1000000) (hT : UT w) : Calls Tryd.prog 23 #[.agg v.arr] w fun e w' => e = .returned (.bool (rightI v.it)) ∧ Below w.heap.size w w' := by
  have HW := hid hw; have HT := hid hT
  clear hw hT
  obtain ⟨b, hbe⟩ : ∃ b, b = w.heap.size := ⟨_, rfl⟩
  have S := hid (Bx.start hv)
  rw [← hbe] at S
  have HBE := hid hbe
  go_enter Tryd.func23, Tryd.ntmps23
  go_upto_region 1 with (fail)
  rw [← hbe]
  clear hbe hv
  generalize w.alloc (.cells v.arr 29) = W at *
  have HBW : Hid (Below w.heap.size w W) := by have h := S.out.bel; rwa [HBE.out] at h
  go_wp2_with (refine wpList_load_row rfl 29 _ rfl b rfl _ _ _ _ S.out.box Tryd.underlying29 rfl iSize ?_)
  refine (rright_any 12 v _ 1 (by decide) (by decide) S.out.ok (HT.out.below HBW.out)).mono ?_
  rintro e w6 ⟨rfl, hb6⟩
  dsimp only
  have S6 := hid (S.out.below hb6)
  clear S hb6
  have S := S6
  have HRE := hid (rightI_rR v.it)
  generalize (rR 12 v.it).1 = q at *
  cases hr : (rR 12 v.it).2 with
  | false =>
    have HF : Hid (rightI v.it = false) := by show _ = _; rw [HRE.out, hr]; rfl
    clear hr
    go_wp2_with fail
    go_ret
    exact ⟨by rw [HF.out]; rfl, by rw [← HBE.out]; exact S.out.bel⟩
  | true =>
    have HF : Hid (rightI v.it = decide (sizeF 100 v.it ≤ 8192)) := by show _ = _; rw [HRE.out, hr]; rfl
    clear hr
    go_wp2_with (refine load_onI 29 _ rfl (by kernel_rfl) b rfl _ _ _ _ S.out.box Tryd.underlying29 rfl iSize ?_)
    refine (rSize_any v _ S.out.ok HW.out).mono ?_
    rintro e w7 ⟨rfl, hb7⟩
    dsimp only
    have S7 := hid (S.out.below hb7)
    clear S hb7 S6
    have S := S7
    generalize sizeF 100 v.it = z at *
    by_cases hz : z ≤ 8192
    · have hzz : (z : Int) ≤ 8192 := by omega
      rw [decide_eq_true hz] at HF
      clear hz
      go_wp2_with fail
      go_ret
      exact ⟨by rw [HF.out]; rfl, by rw [← HBE.out]; exact S.out.bel⟩
    · have hzz : ¬ (z : Int) ≤ 8192 := by omega
      rw [decide_eq_false hz] at HF
      clear hz
      go_wp2_with fail
      go_ret
      exact ⟨by rw [HF.out]; rfl, by rw [← HBE.out]; exact S.out.bel⟩
end Go.Proofs.YtmpajhacigjloaaDoor
