/- locksmithhand.Item. -/
import Derived.Test.YtbnbofooofedkaaDoorHItem
namespace Go.Proofs.YtbnbofooofedkaaDoor
open Go.RowKit
set_option linter.unusedVariables false
set_option linter.unusedSimpArgs false
set_option maxRecDepth 100000
set_option maxHeartbeats 1600000
theorem handItem_any (l : List RawD) (a : Option Addr) (n c : Nat) (w : World) (hal : ArgSl 4 RawR w (.slice a n c) l) :
  Calls Tryd.prog 6 #[.slice a n c] w fun e w' => ∃ v : ItV, e = .returned (.agg v.arr) ∧ nz v.it = true ∧ v.ok w' ∧ (∀ j ∈ v.foot, w.heap.size ≤ j) ∧ Below w.heap.size w w' ∧ v.ks.n ≤ 8 := by
 have hbw : Below w.heap.size w (w.alloc (.cells itZ.arr 27)) := (Below.refl _ _).alloc (Nat.le_refl _) _
 have HAL := hid (raws_below hal hbw)
 have HBW := hid hbw
 have HB0 := hid (block_new w (.cells itZ.arr 27))
 have HSZ : Hid ((w.alloc (.cells itZ.arr 27)).heap.size = w.heap.size + 1) := by show _ = _; simp
 clear hal hbw
 generalize hbe : w.heap.size = b
 have HBE := hid hbe; clear hbe
 go_enter Tryd.func6, Tryd.ntmps6
 go_upto_region 1 with (refine wpList_alloc_obj rfl 27 rfl _ iZero ?_)
 go_simp
 rw [HBE.out] at HBW HB0 HSZ ⊢
 generalize w.alloc (.cells itZ.arr 27) = W at *
 go_wp2_with fail
 refine (hItem_any l a n c 8 0 rfl _ HAL.out).mono ?_
 rintro e w2 ⟨v, rfl, hvn, hvo, hvf, hb2, _, hv8⟩
 have HV8 := hid hv8; clear hv8
 have HB2 := hid ((hb2.block _ (block_lt HB0.out)).trans HB0.out)
 have HBW2 := hid (HBW.out.trans (hb2.mono (by rw [HSZ.out]; omega)))
 have HVN := hid hvn; have HVO := hid hvo
 have HVF : Hid (∀ j ∈ v.foot, b + 1 ≤ j) := fun j hj => by have := hvf j hj; rw [HSZ.out] at this; exact this
 have HS2 : Hid (b ≤ w2.heap.size) := by have := hb2.size; rw [HSZ.out] at this; show b ≤ _; omega
 clear hvn hvo hvf hb2
 go_wp2_with (refine wpList_store_obj rfl 27 _ _ rfl b rfl v.arr rfl _ _ HB2.out rfl iSize (arr_one _) ?_; intro w10 hb10 hc10 hs10; have HB10 := hid hb10; have HC10 := hid hc10; clear hb10 hc10 hs10)
 refine bodyPost_ret (results_cell_row rfl _ _ b _ _ _ _ rfl HB10.out Tryd.underlying27 rfl iSize) rfl ?_
 exact ⟨v, rfl, HVN.out, ItV.ok.keep HC10.out HVO.out (fun j hj hm => by have := HVF.out j hj; have := List.mem_singleton.1 hm; omega), fun j hj => by have := HVF.out j hj; omega, HBW2.out.trans (HC10.out.below (fun k hk => by rw [List.mem_singleton.1 hk]; exact Nat.le_refl _) HS2.out), HV8.out⟩
end Go.Proofs.YtbnbofooofedkaaDoor
