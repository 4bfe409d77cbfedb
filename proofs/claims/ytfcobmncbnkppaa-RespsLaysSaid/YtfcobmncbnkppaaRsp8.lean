/- law17: known. -/
import Derived.Test.YtfcobmncbnkppaaRsp7
namespace Go.Proofs.Ytfcobmncbnkppaa
open Go.RowKit
set_option linter.unusedVariables false
set_option linter.unusedSimpArgs false
set_option maxRecDepth 100000
set_option maxHeartbeats 3200000
theorem whole_read : readRs (layRs (wholeP 7 4)) = .ok (wholeP 7 4) := by kernel_rfl
theorem whole_kids : (layRs (wholeP 7 4)).kids.length = 2 := by kernel_rfl
theorem word4_size : (wordS 4).size = 7 := by kernel_rfl
theorem word4_is : wordS 4 = ⟨#[73, 110, 118, 97, 108, 105, 100]⟩ := by kernel_rfl
theorem word1_is : wordS 1 = ⟨#[78, 111, 116, 70, 111, 117, 110, 100]⟩ := by kernel_rfl
theorem whole_item {q : RsV} (h : q.rq = wholeP 7 4) {x : RsIV} (hx : x ∈ q.items) : x.status = 1 ∧ x.reason = 4 ∧ x.msg = wordS 4 := by
  have h1 := congrArg Rs.items h
  simp only [RsV.rq, wholeP] at h1
  have h2 : x.rq ∈ q.items.map RsIV.rq := List.mem_map.2 ⟨x, hx, rfl⟩
  rw [h1] at h2
  have h3 := List.mem_singleton.1 h2
  exact ⟨congrArg RsI.status h3, congrArg RsI.reason h3, congrArg RsI.msg h3⟩
theorem known17_any (w : World) : Calls Try.prog 13 #[] w fun e w' => e = .returned (.bool true) ∧ Below w.heap.size w w' := by
  go_enter Try.func13, Try.ntmps13
  go_wp2_with fail
  refine (Whole_any 7 4 _).mono ?_
  rintro e w1 ⟨q0, rfl, hq0, hqo0, hn0, hb1⟩
  have HSO := hid hqo0; have HQ0 := hid hq0; have HN0 := hid hn0
  have B := hid hb1
  clear hqo0 hq0 hn0 hb1
  go_wp2_with fail
  refine (rLay_any q0 _ HSO.out (fun x hx => by rw [(whole_item HQ0.out hx).2.2, word4_size]; decide) (by rw [HN0.out]; decide)).mono ?_
  rintro e w2 ⟨v, rfl, hi, ho, -, hb⟩
  rw [HQ0.out] at hi
  have HI := hid hi; have HO := hid ho
  have B2 := hid (grow_on B.out hb)
  clear hi ho hb B HSO HQ0 HN0
  go_upto_region 2 with (first | (refine wpList_alloc_obj rfl 27 rfl _ iZero ?_) | (refine wpList_store_obj rfl 27 _ _ rfl w2.heap.size rfl v.arr rfl _ _ (block_new w2 _) rfl iSize (arr_one v) ?_; intro w3 hb3 hc3 hs3; have HB3 := hid hb3; have HC3 := hid hc3; clear hb3 hc3 hs3))
  have hbel : Below w2.heap.size w2 w3 := ((Below.refl _ w2).alloc (Nat.le_refl _) _).trans (HC3.out.below (fun k hk => by rw [List.mem_singleton.1 hk]; exact Nat.le_refl _) (by simp))
  have HO3 := hid (HO.out.below hbel); have B3 := hid (grow_on B2.out hbel)
  obtain ⟨p, hp⟩ : ∃ p, p = w2.heap.size := ⟨_, rfl⟩
  have HPW : Hid (w.heap.size ≤ p) := by show _ ≤ p; rw [hp]; exact B2.out.size
  rw [← hp] at HB3 ⊢
  clear hbel HO B2 HC3 hp
  go_wp2_with (refine wpList_load_row rfl 27 _ rfl p rfl _ _ _ _ HB3.out Try.underlying27 rfl iSize ?_)
  refine (rread_any v _ HO3.out (by rw [HI.out, whole_kids]; decide)).mono ?_
  intro e w4 hres
  rw [HI.out, whole_read] at hres
  obtain ⟨q, rfl, hq, hqo, hb⟩ := hres
  have B4 := hid (grow_on B3.out hb)
  have HQ := hid hq; have HQO := hid hqo
  clear hq hqo hb HB3 HO3 B3
  go_upto_region 3 with (first | (refine wpList_alloc_obj rfl 31 rfl _ pZero ?_) | (refine wpList_store_obj rfl 31 _ _ rfl w4.heap.size rfl q.arr rfl _ _ (block_new w4 _) rfl pSize (parr_one q) ?_; intro w5 hb5 hc5 hs5; have HB5 := hid hb5; have HC5 := hid hc5; clear hb5 hc5 hs5))
  have hbel : Below w4.heap.size w4 w5 := ((Below.refl _ w4).alloc (Nat.le_refl _) _).trans (HC5.out.below (fun k hk => by rw [List.mem_singleton.1 hk]; exact Nat.le_refl _) (by simp))
  have B5 := hid (grow_on B4.out hbel)
  have HQO5 := hid (HQO.out.below hbel)
  clear hbel B4 HQO HC5
  generalize w4.heap.size = p2 at *
  have hqn : q.its.n = 1 := by
    have h1 := congrArg (fun q : Rs => q.items.length) HQ.out
    have h2 := HQO5.out.its.rslen
    simp only [RsV.rq, List.length_map] at h1
    rw [← h2, h1]; rfl
  obtain ⟨bx, ox, x, hax, hx, hrow⟩ := HQO5.out.its.rsrow (k := 0) (by omega)
  obtain ⟨hst, hre, hms⟩ := whole_item HQ.out (List.mem_of_getElem? hx)
  have d0 := cell_of_block (j := 0) HB5.out (rv0 q)
  rw [show q.time = 7 from congrArg Rs.time HQ.out] at d0
  have d1 := cell_of_block (j := 1) HB5.out (rv1 q)
  rw [hax, hqn] at d1
  have e4 := range_cell hrow 4 (v := .int .i64 x.status) rfl
  have e5 := range_cell hrow 5 (v := .int .i64 x.reason) rfl
  have e6 := range_cell hrow 6 (v := .string x.msg) rfl
  rw [hst, Nat.zero_mul, Nat.add_zero] at e4
  rw [hre, Nat.zero_mul, Nat.add_zero] at e5
  rw [hms, word4_is, Nat.zero_mul, Nat.add_zero] at e6
  clear hqn hax hx hrow hst hre hms HQ HQO5 HB5
  go_wp2_with fail
  refine (word_any 1 _).mono ?_
  rintro e w6 ⟨rfl, rfl⟩
  rw [word1_is]
  go_wp2_with fail
  go_ret
  exact ⟨rfl, B5.out⟩
end Go.Proofs.Ytfcobmncbnkppaa
