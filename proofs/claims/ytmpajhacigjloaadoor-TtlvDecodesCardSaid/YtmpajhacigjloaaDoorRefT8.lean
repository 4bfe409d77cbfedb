/- The reference's Decode. -/
import Derived.Test.YtmpajhacigjloaaDoorRefT7
namespace Go.Proofs.YtmpajhacigjloaaDoor
open Go.RowKit
set_option linter.unusedVariables false
set_option linter.unusedSimpArgs false
set_option maxRecDepth 100000
set_option maxHeartbeats 3200000
theorem rDecode_any (a : Option Addr) (n c : Nat) (l : List UInt8) (w : World) (hg : GB w a n c l) (hT : UT w) : Calls Tryd.prog 25 #[.slice a n c] w (DecRes (decP l) w) := by
  have hb0 : Below w.heap.size w (w.alloc (.cells itZ.arr 29)) := (Below.refl _ _).alloc (Nat.le_refl _) _
  have HRS := hid (block_new w (.cells itZ.arr 29))
  have HB := hid hb0
  have HG := hid (hg.below hb0)
  have HT := hid (hT.below hb0)
  have HL := hid hg.rd.len
  clear hb0 hg hT
  obtain ⟨b, hbe⟩ : ∃ b, b = w.heap.size := ⟨_, rfl⟩
  have HBE := hid hbe
  go_enter Tryd.func25, Tryd.ntmps25
  go_upto_region 1 with (refine wpList_alloc_obj rfl 29 rfl _ iZero ?_)
  go_simp
  rw [← hbe] at HRS ⊢
  clear hbe
  generalize w.alloc (.cells itZ.arr 29) = W at *
  by_cases h8 : 8192 < n
  · have h8z : (8192 : Int) < (n : Int) := by omega
    have HD : Hid (decP l = (itZ.it, 6)) := by have := HL.out; show _ = _; unfold decP; rw [if_pos (by omega)]
    clear h8
    go_wp2_with (first | (refine wpList_build_obj rfl 29 _ rfl #[] rfl _ (iBuild0 _) ?_) | (refine wpList_store_obj rfl 29 _ _ rfl b rfl itZ.arr rfl _ _ HRS.out rfl iSize (arr_one itZ) ?_; intro w10 hb10 hc10 hs10; have HB10 := hid hb10; have HC10 := hid hc10; clear hb10 hc10 hs10))
    refine bodyPost_ret (results_cell_tmp rfl _ _ b _ _ _ _ rfl HB10.out Tryd.underlying29 rfl iSize _ rfl) rfl ?_
    unfold DecRes
    rw [HD.out]
    refine ⟨HB.out.trans (HC10.out.below (fun k hk => by rw [List.mem_singleton.1 hk]; have := HBE.out; omega) HB.out.size), itZ, rfl, rfl, ItV.ok_iff.2 ⟨SlC.nil _, SlR.nil _ _, fun x hx => by cases hx⟩, fun k hk => by simp [ItV.foot, itZ, Sl.blk, footAll] at hk⟩
  · have h8z : ¬ (8192 : Int) < (n : Int) := by omega
    have hb1 : Below W.heap.size W (W.alloc (.cells #[.int .i64 0] 77)) := (Below.refl _ _).alloc (Nat.le_refl _) _
    have HCN := hid (block_new W (.cells #[.int .i64 0] 77))
    have HRS1 := hid ((hb1.block _ (block_lt HRS.out)).trans HRS.out)
    have HB1 := hid (HB.out.trans (Below.mono hb1 HB.out.size))
    have HG1 := hid (HG.out.below hb1)
    have HT1 := hid (HT.out.below hb1)
    have HLT := hid HG.out.lt
    have HBP := hid (block_lt HRS.out)
    have HP1 := hid HB.out.size
    have HD0 : Hid (decP l = match decF 12 l 0 with | .err e => (itZ.it, e) | .ok i r _ => if r = [] then (i, 0) else (itZ.it, 5)) := by have := HL.out; show _ = _; exact if_neg (by omega)
    clear hb1 HRS HB HG HT h8
    go_upto_region 4 with (fail)
    obtain ⟨p, hp⟩ : ∃ p, p = W.heap.size := ⟨_, rfl⟩
    rw [← hp] at HCN HBP HP1 HLT ⊢
    clear hp
    generalize W.alloc (.cells #[.int .i64 0] 77) = W1 at *
    go_wp2_with fail
    refine (rone_any 12 1 rfl (by decide) a n c l 0 p _ HG1.out (fun q off sp e hm => by have := HLT.out q off sp e; have := List.mem_singleton.1 hm; omega) HCN.out (by decide) HT1.out).mono ?_
    intro e w2 hres
    unfold OneRes at hres
    obtain ⟨hch, hres⟩ := hres
    have HRS2 := hid ((hch.block b (block_lt HRS1.out) (fun hm => by have := List.mem_singleton.1 hm; have := HBP.out; omega)).trans HRS1.out)
    have HB2 := hid (HB1.out.trans (hch.below (fun k hk => by rw [List.mem_singleton.1 hk]; exact HP1.out) HB1.out.size))
    have HS2 := hid (Nat.le_trans HB1.out.size hch.size)
    clear hch HRS1 HB1
    cases hd : decF 12 l 0 with
    | err z =>
      rw [hd] at hres HD0
      dsimp only at HD0
      obtain ⟨rfl, hz⟩ := hres
      dsimp only
      have hzz : (z != 0) = true := by simpa using hz
      have hze : (z == 0) = false := by simpa using hz
      clear hd hz
      go_upto_region 5 with (first | (refine wpList_alloc_obj rfl 29 rfl _ iZero ?_) | (refine wpList_store_obj rfl 29 _ _ rfl w2.heap.size rfl itZ.arr rfl _ _ (block_new w2 _) rfl iSize (arr_one itZ) ?_; intro w5 hb5 hc5 hs5; have KB := hid hb5; have HC5 := hid hc5; clear hb5 hc5 hs5))
      have hbel : Below w2.heap.size w2 w5 := ((Below.refl _ w2).alloc (Nat.le_refl _) _).trans (HC5.out.below (fun k hk => by rw [List.mem_singleton.1 hk]; exact Nat.le_refl _) (by simp))
      have HRS3 := hid ((hbel.block _ (block_lt HRS2.out)).trans HRS2.out)
      have HB3 := hid (HB2.out.trans (Below.mono hbel HB2.out.size))
      clear hbel HC5 HRS2 HB2
      go_wp2_with (first | (refine wpList_build_obj rfl 29 _ rfl #[] rfl _ (iBuild0 _) ?_) | (refine wpList_store_obj rfl 29 _ _ rfl b rfl itZ.arr rfl _ _ HRS3.out rfl iSize (arr_one itZ) ?_; intro w10 hb10 hc10 hs10; have HB10 := hid hb10; have HC10 := hid hc10; clear hb10 hc10 hs10))
      refine bodyPost_ret (results_cell_tmp rfl _ _ b _ _ _ _ rfl HB10.out Tryd.underlying29 rfl iSize _ rfl) rfl ?_
      unfold DecRes
      rw [HD0.out]
      refine ⟨HB3.out.trans (HC10.out.below (fun k hk => by rw [List.mem_singleton.1 hk]; have := HBE.out; omega) HB3.out.size), itZ, rfl, rfl, ItV.ok_iff.2 ⟨SlC.nil _, SlR.nil _ _, fun x hx => by cases hx⟩, fun k hk => by simp [ItV.foot, itZ, Sl.blk, footAll] at hk⟩
    | ok i r cc =>
      rw [hd] at hres HD0
      dsimp only at HD0
      obtain ⟨v, m, rfl, rfl, hm8, hml, hvi, hvo, hvf, hcn⟩ := hres
      dsimp only
      have HVI := hid hvi
      have HVF := hid (fun k hk => by have h1 := hvf k hk; have h2 := HBP.out; have h3 := block_lt HCN.out; exact (show b < k by omega))
      have HVO := hid hvo
      clear hd hvi hvo hvf hcn
      go_upto_region 5 with (first | (refine wpList_alloc_obj rfl 29 rfl _ iZero ?_) | (refine wpList_store_obj rfl 29 _ _ rfl w2.heap.size rfl v.arr rfl _ _ (block_new w2 _) rfl iSize (arr_one v) ?_; intro w5 hb5 hc5 hs5; have KB := hid hb5; have HC5 := hid hc5; clear hb5 hc5 hs5))
      have hbel : Below w2.heap.size w2 w5 := ((Below.refl _ w2).alloc (Nat.le_refl _) _).trans (HC5.out.below (fun k hk => by rw [List.mem_singleton.1 hk]; exact Nat.le_refl _) (by simp))
      have HRS3 := hid ((hbel.block _ (block_lt HRS2.out)).trans HRS2.out)
      have HB3 := hid (HB2.out.trans (Below.mono hbel HB2.out.size))
      have HVO3 := hid (HVO.out.below hbel)
      clear hbel HC5 HRS2 HB2 HVO
      generalize w2.heap.size = kb at *
      by_cases hmn : m = n
      · have hr : l.drop m = [] := List.drop_eq_nil_of_le (by have := HL.out; omega)
        rw [if_pos hr] at HD0
        subst hmn
        clear hr
        go_wp2_with (first | (refine wpList_load_row rfl 29 _ rfl kb rfl _ _ _ _ KB.out Tryd.underlying29 rfl iSize ?_) | (refine wpList_store_obj rfl 29 _ _ rfl b rfl v.arr rfl _ _ HRS3.out rfl iSize (arr_one v) ?_; intro w10 hb10 hc10 hs10; have HB10 := hid hb10; have HC10 := hid hc10; clear hb10 hc10 hs10))
        refine bodyPost_ret (results_cell_tmp rfl _ _ b _ _ _ _ rfl HB10.out Tryd.underlying29 rfl iSize _ rfl) rfl ?_
        unfold DecRes
        rw [HD0.out]
        refine ⟨HB3.out.trans (HC10.out.below (fun k hk => by rw [List.mem_singleton.1 hk]; have := HBE.out; omega) HB3.out.size), v, rfl, HVI.out, ItV.ok.keep HC10.out HVO3.out (fun k hk hm => by have := HVF.out k hk; have := List.mem_singleton.1 hm; omega), fun k hk => by have := HVF.out k hk; have := HBE.out; omega⟩
      · have hr : l.drop m ≠ [] := fun h => by
          have h1 := congrArg List.length h
          have h2 := HL.out
          simp only [List.length_drop, List.length_nil] at h1
          omega
        rw [if_neg hr] at HD0
        have hn2 : (m : Int) < (n : Int) := by have := HL.out; omega
        clear hr hmn
        go_wp2_with (first | (refine wpList_build_obj rfl 29 _ rfl #[] rfl _ (iBuild0 _) ?_) | (refine wpList_store_obj rfl 29 _ _ rfl b rfl itZ.arr rfl _ _ HRS3.out rfl iSize (arr_one itZ) ?_; intro w10 hb10 hc10 hs10; have HB10 := hid hb10; have HC10 := hid hc10; clear hb10 hc10 hs10))
        refine bodyPost_ret (results_cell_tmp rfl _ _ b _ _ _ _ rfl HB10.out Tryd.underlying29 rfl iSize _ rfl) rfl ?_
        unfold DecRes
        rw [HD0.out]
        refine ⟨HB3.out.trans (HC10.out.below (fun k hk => by rw [List.mem_singleton.1 hk]; have := HBE.out; omega) HB3.out.size), itZ, rfl, rfl, ItV.ok_iff.2 ⟨SlC.nil _, SlR.nil _ _, fun x hx => by cases hx⟩, fun k hk => by simp [ItV.foot, itZ, Sl.blk, footAll] at hk⟩
end Go.Proofs.YtmpajhacigjloaaDoor
