/- The reference's Encode. -/
import Derived.Test.YtmpajhacigjloaaDoorRefT5
import Derived.Test.YtmpajhacigjloaaDoorTtlS
namespace Go.Proofs.YtmpajhacigjloaaDoor
open Go.RowKit
set_option linter.unusedVariables false
set_option linter.unusedSimpArgs false
set_option maxRecDepth 100000
set_option maxHeartbeats 3200000
/-- What the reference's Encode answers. -/
def REncRes (i : Itm) (w : World) (e : Ending) (w' : World) : Prop :=
  Below w.heap.size w w' ∧ ((rightI i = false ∧ e = .returned (.tuple #[.slice none 0 0, .int .i64 1])) ∨ (rightI i = true ∧ ∃ a n c, e = .returned (.tuple #[.slice a n c, .int .i64 0]) ∧ GB w' a n c i.enc))
theorem rEncode_any (v : ItV) (w : World) (hv : v.ok w) (hw : v.it.wt ≤ 1000000) (hT : UT w) : Calls Tryd.prog 22 #[.agg v.arr] w (REncRes v.it w) := by
  have HW := hid hw; have HT := hid hT
  clear hw hT
  obtain ⟨b, hbe⟩ : ∃ b, b = w.heap.size := ⟨_, rfl⟩
  have S := hid (Bx.start hv)
  rw [← hbe] at S
  have HBE := hid hbe
  go_enter Tryd.func22, Tryd.ntmps22
  go_upto_region 1 with (fail)
  rw [← hbe]
  clear hbe hv
  generalize w.alloc (.cells v.arr 29) = W at *
  have HBW : Hid (Below w.heap.size w W) := by have h := S.out.bel; rwa [HBE.out] at h
  go_wp2_with (refine wpList_load_row rfl 29 _ rfl b rfl _ _ _ _ S.out.box Tryd.underlying29 rfl iSize ?_)
  refine (rRight_any v _ S.out.ok HW.out (HT.out.below HBW.out)).mono ?_
  rintro e w6 ⟨rfl, hb6⟩
  dsimp only
  have S6 := hid (S.out.below hb6)
  clear S hb6
  have S := S6
  clear S6
  cases hr : rightI v.it with
  | false =>
    have HR := hid hr
    clear hr
    go_wp2_with fail
    go_ret2
    exact ⟨by rw [← HBE.out]; exact S.out.bel, .inl ⟨HR.out, rfl⟩⟩
  | true =>
    have HR := hid hr
    have HSZ := hid (right_size hr)
    clear hr
    have hb1 : Below w6.heap.size w6 (w6.alloc (.cells #[.slice none 0 0] 70)) := (Below.refl _ _).alloc (Nat.le_refl _) _
    have HWR : Hid (Wr 70 (w6.alloc (.cells #[.slice none 0 0] 70)) w6.heap.size [] [w6.heap.size]) := ⟨none, 0, 0, rfl, block_new _ _, World.ownsRow_nil _ _ _ _, fun g hg => (by cases hg), rfl⟩
    have S6 := hid (S.out.below hb1)
    have HFP := hid (show ∀ k ∈ v.foot, k ∉ [w6.heap.size] from fun k hk hm => by have h1 := S.out.ok.lt k hk; have h2 := List.mem_singleton.1 hm; omega)
    have HBP := hid (show b < w6.heap.size from block_lt S.out.box)
    clear hb1 S
    have S := S6
    clear S6
    go_upto_region 4 with (fail)
    go_simp
    generalize w6.heap.size = p at *
    generalize w6.alloc (.cells #[.slice none 0 0] 70) = w7 at *
    go_wp2_with (refine wpList_load_row rfl 29 _ rfl b rfl _ _ _ _ S.out.box Tryd.underlying29 rfl iSize ?_)
    refine (rlay_any v _ p [] [p] S.out.ok HWR.out HFP.out rfl (by have h1 := HSZ.out; simp; omega) HW.out).mono ?_
    intro e w8 hres
    obtain ⟨F2, rfl, hw2, hc2, hf2⟩ := hres
    dsimp only
    rw [List.nil_append] at hw2
    obtain ⟨a, m, c, hm, h1, h2, h3, hF⟩ := hw2
    have hc0 := cell_of_block (j := 0) h1 rfl
    have HG := hid (GB.of_own h2 (by have h4 := HSZ.out; omega))
    have HB8 := hid (S.out.bel.trans (hc2.below (fun k hk => by have h4 := HBP.out; have h5 := List.mem_singleton.1 hk; omega) (Nat.le_of_lt (block_lt S.out.box))))
    clear hm h1 h2 h3 hF hc2 hf2
    go_wp2_with fail
    go_ret2
    exact ⟨by rw [← HBE.out]; exact HB8.out, .inr ⟨HR.out, a, m, c, rfl, HG.out⟩⟩
end Go.Proofs.YtmpajhacigjloaaDoor
