/- TtlvBack's walk. -/
import Derived.Test.YtmpajhacigjloaaDoorTtlM
import Derived.Test.YtmpajhacigjloaaDoorTtlS
namespace Go.Proofs.YtmpajhacigjloaaDoor
open Go.RowKit
set_option linter.unusedVariables false
set_option linter.unusedSimpArgs false
set_option maxRecDepth 1000000
set_option maxHeartbeats 3200000
/-- No bytes at all: what holds of a slice without bytes, wherever it points. -/
theorem ritem0_any (p : Nat) (a : Option Addr) (c cnt : Nat) (w : World) : Calls Tryd.prog 29 #[.pointer (some ⟨p, 0, none⟩), .slice a 0 c, .int .i64 1] w fun e w' => e = .returned (.tuple #[.agg itZ.arr, .slice none 0 0, .int .i64 7]) ∧ Below w.heap.size w w' := by
  have HRS := hid (block_new w (.cells itZ.arr 29))
  have HB := hid (show Below w.heap.size w (w.alloc (.cells itZ.arr 29)) from (Below.refl _ _).alloc (Nat.le_refl _) _)
  obtain ⟨b, hbe⟩ : ∃ b, b = w.heap.size := ⟨_, rfl⟩
  have HBE := hid hbe
  go_enter Tryd.func29, Tryd.ntmps29
  go_upto_region 1 with (refine wpList_alloc_obj rfl 29 rfl _ iZero ?_)
  go_simp
  rw [← hbe] at HRS ⊢
  clear hbe
  generalize w.alloc (.cells itZ.arr 29) = W at *
  go_wp2_with (first | (refine wpList_build_obj rfl 29 _ rfl #[] rfl _ (iBuild0 _) ?_) | (refine wpList_store_obj rfl 29 _ _ rfl b rfl itZ.arr rfl _ _ HRS.out rfl iSize (arr_one itZ) ?_; intro w10 hb10 hc10 hs10; have HB10 := hid hb10; have HC10 := hid hc10; clear hb10 hc10 hs10))
  refine bodyPost_ret (results_cell_tmp2 rfl _ _ b _ _ _ _ rfl HB10.out Tryd.underlying29 rfl iSize _ _ rfl rfl) rfl ?_
  exact ⟨rfl, HB.out.trans (HC10.out.below (fun k hk => by rw [List.mem_singleton.1 hk]; have := HBE.out; omega) HB.out.size)⟩
theorem Decode0_any (a : Option Addr) (c : Nat) (w : World) : Calls Tryd.prog 14 #[.slice a 0 c] w (DecRes (itZ.it, 7) w) := by
  have HRS := hid (block_new w (.cells itZ.arr 29))
  have HB := hid (show Below w.heap.size w (w.alloc (.cells itZ.arr 29)) from (Below.refl _ _).alloc (Nat.le_refl _) _)
  obtain ⟨b, hbe⟩ : ∃ b, b = w.heap.size := ⟨_, rfl⟩
  have HBE := hid hbe
  go_enter Tryd.func14, Tryd.ntmps14
  go_upto_region 1 with (refine wpList_alloc_obj rfl 29 rfl _ iZero ?_)
  go_simp
  rw [← hbe] at HRS ⊢
  clear hbe
  generalize w.alloc (.cells itZ.arr 29) = W at *
  have hb1 : Below W.heap.size W (W.alloc (.cells #[.int .i64 0] 59)) := (Below.refl _ _).alloc (Nat.le_refl _) _
  have HRS1 := hid ((hb1.block _ (block_lt HRS.out)).trans HRS.out)
  have HB1 := hid (HB.out.trans (Below.mono hb1 HB.out.size))
  clear hb1 HRS HB
  go_upto_region 4 with (fail)
  generalize W.heap.size = p at *
  generalize W.alloc (.cells #[.int .i64 0] 59) = W1 at *
  go_wp2_with fail
  refine (ritem0_any p a c 0 W1).mono ?_
  rintro e w2 ⟨rfl, hb2⟩
  dsimp only
  have HRS2 := hid ((hb2.block _ (block_lt HRS1.out)).trans HRS1.out)
  have HB2 := hid (HB1.out.trans (Below.mono hb2 HB1.out.size))
  clear hb2 HRS1 HB1
  go_upto_region 5 with (first | (refine wpList_alloc_obj rfl 29 rfl _ iZero ?_) | (refine wpList_store_obj rfl 29 _ _ rfl w2.heap.size rfl _ rfl _ _ (block_new w2 _) rfl iSize (arr_one itZ) ?_; intro w5 hb5 hc5 hs5; have KB := hid hb5; have HC5 := hid hc5; clear hb5 hc5 hs5))
  have hbel : Below w2.heap.size w2 w5 := ((Below.refl _ w2).alloc (Nat.le_refl _) _).trans (HC5.out.below (fun k hk => by rw [List.mem_singleton.1 hk]; exact Nat.le_refl _) (by simp))
  have HRS3 := hid ((hbel.block _ (block_lt HRS2.out)).trans HRS2.out)
  have HB3 := hid (HB2.out.trans (Below.mono hbel HB2.out.size))
  clear hbel HC5 HRS2 HB2
  go_wp2_with (first | (refine wpList_build_obj rfl 29 _ rfl #[] rfl _ (iBuild0 _) ?_) | (refine wpList_store_obj rfl 29 _ _ rfl b rfl itZ.arr rfl _ _ HRS3.out rfl iSize (arr_one itZ) ?_; intro w10 hb10 hc10 hs10; have HB10 := hid hb10; have HC10 := hid hc10; clear hb10 hc10 hs10))
  refine bodyPost_ret (results_cell_tmp rfl _ _ b _ _ _ _ rfl HB10.out Tryd.underlying29 rfl iSize _ rfl) rfl ?_
  exact ⟨HB3.out.trans (HC10.out.below (fun k hk => by rw [List.mem_singleton.1 hk]; have := HBE.out; omega) HB3.out.size), itZ, rfl, rfl, ItV.ok_iff.2 ⟨SlC.nil _, SlR.nil _ _, fun x hx => by cases hx⟩, fun k hk => by simp [ItV.foot, itZ, Sl.blk, footAll] at hk⟩
theorem lt_of_cell {w : World} {b o : Nat} {v : Value} (h : w.cell? ⟨b, o, none⟩ = some v) : b < w.heap.size := by
  rcases Nat.lt_or_ge b w.heap.size with h' | h'
  · exact h'
  · have h0 : w.heap[b]? = none := Array.getElem?_eq_none h'
    simp [World.cell?, h0] at h
/-- Bytes that came in are decoded. -/
theorem DecodeArg_any (a : Option Addr) (n c : Nat) (l : List UInt8) (w : World) (hr : RdB w a n l) (hno : a = none → c = 0) (hnc : n ≤ c) (hn : n ≤ 140737488355328) (hT : UT w) : Calls Tryd.prog 14 #[.slice a n c] w (DecRes (decP l) w) := by
  by_cases h0 : n = 0
  · subst h0
    have hl : l = [] := hr.empty
    subst hl
    have h : decP [] = (itZ.it, 7) := rfl
    rw [h]
    exact Decode0_any a c w
  · refine Decode_any a n c l w ⟨hr, hno, hnc, fun q off sp e => ?_, hn⟩ hT
    obtain ⟨b, o, ha, hc⟩ := hr.cell 0 (by omega)
    rw [ha] at e
    cases e
    have h1 := hc 0 (by omega)
    exact lt_of_cell h1
theorem ttlvBack_walk (aL : Option Addr) (nL cL : Nat) (l : List R6) (aR : Option Addr) (nR cR : Nat) (lr : List UInt8) (w : World) (hal : R6Args w aL nL l) (hr : RdB w aR nR lr) (hno : aR = none → cR = 0) (hnc : nR ≤ cR) (hn : nR ≤ 140737488355328) (hT : UT w) :
    Calls Tryd.prog 7 #[.slice aL nL cL, .slice aR nR cR] w fun e w' => e = .returned (.bool true) ∧ Below w.heap.size w w' := by
  have HAL := hid hal; have HT := hid hT; have HRD := hid hr; have HNO := hid hno; have HNC := hid hnc; have HNN := hid hn
  have HFIT := hid (tree6_fit l hal.nb 30 0)
  clear hal hT hr hno hnc hn
  go_enter Tryd.func7, Tryd.ntmps7
  go_wp2_with fail
  refine (tree_any aL nL cL l 30 0 w (by decide) HAL.out).mono ?_
  rintro e w2 ⟨hb, v, rfl, hvi, hvo, hvf⟩
  dsimp only
  have HB := hid hb
  obtain ⟨I, hI⟩ : ∃ I, I = tree6 30 l 0 := ⟨_, rfl⟩
  rw [← hI] at hvi HFIT
  have HVO := hid hvo; have HVI := hid hvi
  clear hb hvo hvf hI hvi HAL
  go_upto_region 2 with (first | (refine wpList_alloc_obj rfl 29 rfl _ iZero ?_) | (refine wpList_store_obj rfl 29 _ _ rfl w2.heap.size rfl _ rfl _ _ (block_new w2 _) rfl iSize (arr_one v) ?_; intro w3 hb5 hc5 hs5; have HK := hid hb5; have HC5 := hid hc5; clear hb5 hc5 hs5))
  have hbel : Below w2.heap.size w2 w3 := ((Below.refl _ w2).alloc (Nat.le_refl _) _).trans (HC5.out.below (fun k hk => by rw [List.mem_singleton.1 hk]; exact Nat.le_refl _) (by simp))
  have HB3 := hid (HB.out.trans (Below.mono hbel HB.out.size))
  have HO3 := hid (HVO.out.below hbel)
  clear hbel HC5 HB HVO
  generalize w2.heap.size = b1 at *
  go_wp2_with (refine wpList_load_row rfl 29 _ rfl b1 rfl _ _ _ _ HK.out Tryd.underlying29 rfl iSize ?_)
  refine (Encode_any v _ HO3.out (HT.out.below HB3.out)).mono ?_
  rintro e w4 ⟨hb4, h⟩
  rw [HVI.out] at h
  have HB4 := hid (HB3.out.trans (Below.mono hb4 HB3.out.size))
  have HO4 := hid (HO3.out.below hb4)
  have HK4 := hid ((hb4.block _ (block_lt HK.out)).trans HK.out)
  clear hb4 HB3 HO3 HK
  have HE : Hid (∃ (a : Option Addr) (n c : Nat) (z : Int), e = .returned (.tuple #[.slice a n c, .int .i64 z]) ∧ (z ≠ 0 ∨ (z = 0 ∧ rightI I = true ∧ GB w4 a n c I.enc ∧ n = I.enc.length ∧ n ≤ 8192))) := by
    rcases h with ⟨hr, rfl⟩ | ⟨hr, a, n, c, rfl, hown⟩
    · exact ⟨none, 0, 0, 1, rfl, .inl (by decide)⟩
    · have h1 := hown.1
      have h2 := right_size hr
      simp only [List.length_map, Nat.mul_one] at h1
      exact ⟨a, n, c, 0, rfl, .inr ⟨rfl, hr, GB.of_own hown (by omega), h1.symm, by omega⟩⟩
  clear h
  obtain ⟨a, n, c, z, rfl, hz⟩ := HE.out
  dsimp only
  have HZ := hid hz
  clear hz HE
  go_upto_if 22 with (fail)
  go_cut [22] (fun _ wc => Below w.heap.size w wc)
  case first =>
    rcases HZ.out with hz | ⟨rfl, hr, hg, hn, hn8⟩
    · have hzz : (z == 0) = false := beq_eq_false_iff_ne.2 hz
      go_wp2_with fail
      go_meet
      exact HB4.out
    · have HR := hid hr; have HG := hid hg; have HN := hid (And.intro hn hn8)
      clear hr hg hn hn8 HZ
      go_wp2_with fail
      refine (Decode_any a n c I.enc _ HG.out (HT.out.below HB4.out)).mono ?_
      rintro e w5 ⟨hb5, v5, rfl, hv5, ho5, _⟩
      rw [decP_enc HR.out HFIT.out] at hv5 ⊢
      dsimp only at hv5 ⊢
      have HB5 := hid (HB4.out.trans (Below.mono hb5 HB4.out.size))
      have HV5 := hid hv5; have HP5 := hid ho5
      have HO5 := hid (HO4.out.below hb5)
      have HK5 := hid ((hb5.block _ (block_lt HK4.out)).trans HK4.out)
      clear hb5 hv5 ho5 HB4 HO4 HK4 HG
      go_upto_region 5 with (first | (refine wpList_alloc_obj rfl 29 rfl _ iZero ?_) | (refine wpList_store_obj rfl 29 _ _ rfl w5.heap.size rfl _ rfl _ _ (block_new w5 _) rfl iSize (arr_one v5) ?_; intro w6 hb5 hc5 hs5; have HL := hid hb5; have HC5 := hid hc5; clear hb5 hc5 hs5))
      have hbel : Below w5.heap.size w5 w6 := ((Below.refl _ w5).alloc (Nat.le_refl _) _).trans (HC5.out.below (fun k hk => by rw [List.mem_singleton.1 hk]; exact Nat.le_refl _) (by simp))
      have HB6 := hid (HB5.out.trans (Below.mono hbel HB5.out.size))
      have HO6 := hid (HO5.out.below hbel); have HP6 := hid (HP5.out.below hbel)
      have HK6 := hid ((hbel.block _ (block_lt HK5.out)).trans HK5.out)
      clear hbel HC5 HB5 HO5 HP5 HK5
      generalize w5.heap.size = b2 at *
      go_wp2_with (first | (refine load_onI 29 _ rfl (by kernel_rfl) b1 rfl _ _ _ _ HK6.out Tryd.underlying29 rfl iSize ?_) | (refine load_onI 29 _ rfl (by kernel_rfl) b2 rfl _ _ _ _ HL.out Tryd.underlying29 rfl iSize ?_))
      refine (same_any v v5 _ HO6.out HP6.out).mono ?_
      rintro e w7 ⟨rfl, hb7⟩
      dsimp only
      rw [sameI_yes (show v.it = v5.it by rw [HVI.out, HV5.out])]
      have HB7 := hid (HB6.out.trans (Below.mono hb7 HB6.out.size))
      have HO7 := hid (HO6.out.below hb7)
      have HK7 := hid ((hb7.block _ (block_lt HK6.out)).trans HK6.out)
      clear hb7 HB6 HO6 HP6 HK6 HL
      go_wp2_with (refine load_onI 29 _ rfl (by kernel_rfl) b1 rfl _ _ _ _ HK7.out Tryd.underlying29 rfl iSize ?_)
      refine (Size_any v _ HO7.out).mono ?_
      rintro e w8 ⟨rfl, hb8⟩
      dsimp only
      have hsz : ((sizeF 100 v.it : Nat) : Int) = (n : Int) := by rw [HVI.out]; have h1 := right_size HR.out; have h2 := HN.out.1; omega
      rw [hsz]
      have hmod : (n : Int).tmod 8 = 0 := by
        have h1 := enc_mod I
        have h2 := HN.out.1
        rw [Int.tmod_eq_emod_of_nonneg (by omega)]
        omega
      have hw0 : IntKind.i64.wrap ((n : Int).tmod 8) = 0 := by rw [hmod]; rfl
      have HB8 := hid (HB7.out.trans (Below.mono hb8 HB7.out.size))
      have HO8 := hid (HO7.out.below hb8)
      have HK8 := hid ((hb8.block _ (block_lt HK7.out)).trans HK7.out)
      clear hb8 HB7 HO7 HK7 hsz
      go_wp2_with (refine load_onI 29 _ rfl (by kernel_rfl) b1 rfl _ _ _ _ HK8.out Tryd.underlying29 rfl iSize ?_)
      refine (Right_any v _ HO8.out (HT.out.below HB8.out)).mono ?_
      rintro e w9 ⟨rfl, hb9⟩
      dsimp only
      rw [show rightI v.it = true by rw [HVI.out]; exact HR.out]
      have HB9 := hid (HB8.out.trans (Below.mono hb9 HB8.out.size))
      clear hb9 HB8 HO8 HK8 hmod hw0
      go_wp2_with fail
      go_meet
      exact HB9.out
  case rest =>
    have HB5 := hid hcut
    clear hcut HB4 HO4 HK4 HZ HVI HFIT
    go_wp2_with fail
    refine (DecodeArg_any aR nR cR lr _ (HRD.out.below HB5.out) HNO.out HNC.out HNN.out (HT.out.below HB5.out)).mono ?_
    rintro e w5 ⟨hb5, v5, rfl, hv5, ho5, _⟩
    dsimp only
    have HB6 := hid (HB5.out.trans (Below.mono hb5 HB5.out.size))
    have HV5 := hid hv5; have HP5 := hid ho5
    clear hb5 hv5 ho5 HB5
    go_upto_region 8 with (first | (refine wpList_alloc_obj rfl 29 rfl _ iZero ?_) | (refine wpList_store_obj rfl 29 _ _ rfl w5.heap.size rfl _ rfl _ _ (block_new w5 _) rfl iSize (arr_one v5) ?_; intro w6 hb5 hc5 hs5; have HL := hid hb5; have HC5 := hid hc5; clear hb5 hc5 hs5))
    have hbel : Below w5.heap.size w5 w6 := ((Below.refl _ w5).alloc (Nat.le_refl _) _).trans (HC5.out.below (fun k hk => by rw [List.mem_singleton.1 hk]; exact Nat.le_refl _) (by simp))
    have HB7 := hid (HB6.out.trans (Below.mono hbel HB6.out.size))
    have HP6 := hid (HP5.out.below hbel)
    clear hbel HC5 HB6 HP5
    generalize w5.heap.size = b2 at *
    go_wp2_with fail
    refine (known6_any _ (HT.out.below HB7.out)).mono ?_
    rintro e w7 ⟨rfl, hb7⟩
    dsimp only
    have HB8 := hid (HB7.out.trans (Below.mono hb7 HB7.out.size))
    have HP7 := hid (HP6.out.below hb7)
    have HL7 := hid ((hb7.block _ (block_lt HL.out)).trans HL.out)
    clear hb7 HB7 HP6 HL
    by_cases hz : (decP lr).2 = 0
    · have HD := hid (decP_fit (l := lr) (i := (decP lr).1) (Prod.ext rfl hz))
      rw [hz]
      clear hz
      go_wp2_with (refine wpList_load_row rfl 29 _ rfl b2 rfl _ _ _ _ HL7.out Tryd.underlying29 rfl iSize ?_)
      refine (Encode_any v5 _ HP7.out (HT.out.below HB8.out)).mono ?_
      rintro e w9 ⟨hb9, h⟩
      rw [HV5.out] at h
      rcases h with ⟨h1, _⟩ | ⟨_, a9, n9, c9, rfl, hown⟩
      · exact absurd (HD.out.2.1.symm.trans h1) (by decide)
      dsimp only
      rw [← HD.out.1] at hown
      have HB9 := hid (HB8.out.trans (Below.mono hb9 HB8.out.size))
      have HP9 := hid (HP7.out.below hb9)
      have HL9 := hid ((hb9.block _ (block_lt HL7.out)).trans HL7.out)
      have HW9 := hid (RdB.of_own hown)
      clear hb9 hown HB8 HP7 HL7
      go_wp2_with (refine load_onI 29 _ rfl (by kernel_rfl) b2 rfl _ _ _ _ HL9.out Tryd.underlying29 rfl iSize ?_)
      refine (Right_any v5 _ HP9.out (HT.out.below HB9.out)).mono ?_
      rintro e w10 ⟨rfl, hb10⟩
      dsimp only
      rw [show rightI v5.it = true by rw [HV5.out]; exact HD.out.2.1]
      have HB10 := hid (HB9.out.trans (Below.mono hb10 HB9.out.size))
      have ra := run_bytes_str (P := Tryd.prog) (HW9.out.below hb10) c9 23 9 5 Tryd.underlying23 Tryd.underlying5 Tryd.underlying9
      have rc := run_bytes_str (P := Tryd.prog) (HRD.out.below HB10.out) cR 23 9 5 Tryd.underlying23 Tryd.underlying5 Tryd.underlying9
      clear hb10 HB9 HP9 HL9 HW9
      go_wp2_with fail
      go_ret
      exact ⟨rfl, HB10.out⟩
    · generalize (decP lr).2 = z2 at *
      have hzz : (z2 != 0) = true := by simpa using hz
      clear hz
      go_wp2_with fail
      refine (known6_any _ (HT.out.below HB8.out)).mono ?_
      rintro e w9 ⟨rfl, hb9⟩
      dsimp only
      have HB9 := hid (HB8.out.trans (Below.mono hb9 HB8.out.size))
      clear hb9 HB8
      go_wp2_with fail
      go_ret
      exact ⟨rfl, HB9.out⟩
end Go.Proofs.YtmpajhacigjloaaDoor
