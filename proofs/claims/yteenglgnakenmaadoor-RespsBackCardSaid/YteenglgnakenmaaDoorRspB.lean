/- Several texts in one. -/
import Derived.Test.YteenglgnakenmaaDoorRsp7
namespace Go.Proofs.YteenglgnakenmaaDoor
open Go.RowKit
set_option linter.unusedVariables false
set_option linter.unusedSimpArgs false
set_option maxRecDepth 100000
set_option maxHeartbeats 3200000
theorem whole_read : readRs (layRs (wholeP 7 4)) = .ok (wholeP 7 4) := by kernel_rfl
theorem whole_kids : (layRs (wholeP 7 4)).kids.length = 2 := by kernel_rfl
theorem word4_size : (wordS 4).size = 7 := by kernel_rfl
theorem word4_is : wordS 4 = ⟨#[73, 110, 118, 97, 108, 105, 100]⟩ := by kernel_rfl
theorem word1_is : wordS 1 = ⟨#[78, 111, 116, 70, 111, 117, 110, 100]⟩ := by kernel_rfl
theorem whole_item {q : RsV} (h : q.rq = wholeP 7 4) {x : RsIV} (hx : x ∈ q.items) : x.status = 1 ∧ x.reason = 4 ∧ x.msg = wordS 4 := by
  have h1 := congrArg Rs.items h
  simp only [RsV.rq, wholeP] at h1
  have h2 : x.rq ∈ q.items.map RsIV.rq := List.mem_map.2 ⟨x, hx, rfl⟩
  rw [h1] at h2
  have h3 := List.mem_singleton.1 h2
  exact ⟨congrArg RsI.status h3, congrArg RsI.reason h3, congrArg RsI.msg h3⟩
theorem known17_any (w : World) : Calls Tryd.prog 9 #[] w fun e w' => e = .returned (.bool true) ∧ Below w.heap.size w w' := by
  go_enter Tryd.func9, Tryd.ntmps9
  go_wp2_with fail
  refine (Whole_any 7 4 _).mono ?_
  rintro e w1 ⟨q0, rfl, hq0, hqo0, hn0, hb1⟩
  have HSO := hid hqo0; have HQ0 := hid hq0; have HN0 := hid hn0
  have B := hid hb1
  clear hqo0 hq0 hn0 hb1
  go_wp2_with fail
  refine (rLay_any q0 _ HSO.out (fun x hx => by rw [(whole_item HQ0.out hx).2.2, word4_size]; decide) (by rw [HN0.out]; decide)).mono ?_
  rintro e w2 ⟨v, rfl, hi, ho, -, hb⟩
  rw [HQ0.out] at hi
  have HI := hid hi; have HO := hid ho
  have B2 := hid (grow_on B.out hb)
  clear hi ho hb B HSO HQ0 HN0
  go_upto_region 2 with (first | (refine wpList_alloc_obj rfl 30 rfl _ iZero ?_) | (refine wpList_store_obj rfl 30 _ _ rfl w2.heap.size rfl v.arr rfl _ _ (block_new w2 _) rfl iSize (arr_one v) ?_; intro w3 hb3 hc3 hs3; have HB3 := hid hb3; have HC3 := hid hc3; clear hb3 hc3 hs3))
  have hbel : Below w2.heap.size w2 w3 := ((Below.refl _ w2).alloc (Nat.le_refl _) _).trans (HC3.out.below (fun k hk => by rw [List.mem_singleton.1 hk]; exact Nat.le_refl _) (by simp))
  have HO3 := hid (HO.out.below hbel); have B3 := hid (grow_on B2.out hbel)
  obtain ⟨p, hp⟩ : ∃ p, p = w2.heap.size := ⟨_, rfl⟩
  have HPW : Hid (w.heap.size ≤ p) := by show _ ≤ p; rw [hp]; exact B2.out.size
  rw [← hp] at HB3 ⊢
  clear hbel HO B2 HC3 hp
  go_wp2_with (refine wpList_load_row rfl 30 _ rfl p rfl _ _ _ _ HB3.out Tryd.underlying30 rfl iSize ?_)
  refine (rread_any v _ HO3.out (by rw [HI.out, whole_kids]; decide)).mono ?_
  intro e w4 hres
  rw [HI.out, whole_read] at hres
  obtain ⟨q, rfl, hq, hqo, hb⟩ := hres
  have B4 := hid (grow_on B3.out hb)
  have HQ := hid hq; have HQO := hid hqo
  clear hq hqo hb HB3 HO3 B3
  go_upto_region 3 with (first | (refine wpList_alloc_obj rfl 25 rfl _ pZero ?_) | (refine wpList_store_obj rfl 25 _ _ rfl w4.heap.size rfl q.arr rfl _ _ (block_new w4 _) rfl pSize (parr_one q) ?_; intro w5 hb5 hc5 hs5; have HB5 := hid hb5; have HC5 := hid hc5; clear hb5 hc5 hs5))
  have hbel : Below w4.heap.size w4 w5 := ((Below.refl _ w4).alloc (Nat.le_refl _) _).trans (HC5.out.below (fun k hk => by rw [List.mem_singleton.1 hk]; exact Nat.le_refl _) (by simp))
  have B5 := hid (grow_on B4.out hbel)
  have HQO5 := hid (HQO.out.below hbel)
  clear hbel B4 HQO HC5
  generalize w4.heap.size = p2 at *
  have hqn : q.its.n = 1 := by
    have h1 := congrArg (fun q : Rs => q.items.length) HQ.out
    have h2 := HQO5.out.its.rslen
    simp only [RsV.rq, List.length_map] at h1
    rw [← h2, h1]; rfl
  obtain ⟨bx, ox, x, hax, hx, hrow⟩ := HQO5.out.its.rsrow (k := 0) (by omega)
  obtain ⟨hst, hre, hms⟩ := whole_item HQ.out (List.mem_of_getElem? hx)
  have d0 := cell_of_block (j := 0) HB5.out (rv0 q)
  rw [show q.time = 7 from congrArg Rs.time HQ.out] at d0
  have d1 := cell_of_block (j := 1) HB5.out (rv1 q)
  rw [hax, hqn] at d1
  have e4 := range_cell hrow 4 (v := .int .i64 x.status) rfl
  have e5 := range_cell hrow 5 (v := .int .i64 x.reason) rfl
  have e6 := range_cell hrow 6 (v := .string x.msg) rfl
  rw [hst, Nat.zero_mul, Nat.add_zero] at e4
  rw [hre, Nat.zero_mul, Nat.add_zero] at e5
  rw [hms, word4_is, Nat.zero_mul, Nat.add_zero] at e6
  clear hqn hax hx hrow hst hre hms HQ HQO5 HB5
  go_wp2_with fail
  refine (word_any 1 _).mono ?_
  rintro e w6 ⟨rfl, rfl⟩
  rw [word1_is]
  go_wp2_with fail
  go_ret
  exact ⟨rfl, B5.out⟩
end Go.Proofs.YteenglgnakenmaaDoor
namespace Go.Proofs.YteenglgnakenmaaDoor
open Go.RowKit
set_option linter.unusedVariables false
set_option linter.unusedSimpArgs false
set_option maxRecDepth 100000
set_option maxHeartbeats 3200000
end Go.Proofs.YteenglgnakenmaaDoor
namespace Go.Proofs.YteenglgnakenmaaDoor
open Go.RowKit
set_option linter.unusedVariables false
set_option linter.unusedSimpArgs false
set_option maxRecDepth 100000
set_option maxHeartbeats 3200000
theorem rsameItem_any (x y : RsIV) (w : World) (hx : x.ok w) (hy : y.ok w) (he : x.rq = y.rq) : Calls Tryd.prog 33 #[.agg x.arr, .agg y.arr] w fun e w' => e = .returned (.bool true) ∧ Below w.heap.size w w' := by
  have e0 : y.op = x.op := (congrArg RsI.op he).symm
  have e1 : y.hasOp = x.hasOp := (congrArg RsI.hasOp he).symm
  have e2 : y.hasId = x.hasId := (congrArg RsI.hasId he).symm
  have e3 : y.id = x.id := (congrArg RsI.id he).symm
  have e4 : y.status = x.status := (congrArg RsI.status he).symm
  have e5 : y.reason = x.reason := (congrArg RsI.reason he).symm
  have e6 : y.msg = x.msg := (congrArg RsI.msg he).symm
  have e7 : y.pay.it = x.pay.it := (congrArg RsI.pay he).symm
  have e8 : y.hasPay = x.hasPay := (congrArg RsI.hasPay he).symm
  have HX := hid hx; have HY := hid hy; have E7 := hid e7
  clear hx hy he e7
  generalize hbe : w.heap.size = b
  have HBE := hid hbe; clear hbe
  go_enter Tryd.func33, Tryd.ntmps33
  go_upto_region 1 with (fail)
  go_simp
  have B0 := hid (Bx2.start (T := 51) (T' := 51) (cs := x.arr) (zs := y.arr) (w := w) HBE.out)
  rw [HBE.out]
  have hbw := ((Below.refl _ w).alloc (Nat.le_refl _) (.cells x.arr 51)).alloc (by simp) (.cells y.arr 51)
  have HX0 := hid (HX.out.below hbw); have HY0 := hid (HY.out.below hbw)
  clear HX HY hbw
  generalize (w.alloc (.cells x.arr 51)).alloc (.cells y.arr 51) = W at *
  have d0 := cell_of_block (j := 0) B0.out.box (rx0 x); have d1 := cell_of_block (j := 1) B0.out.box (rx1 x); have d2 := cell_of_block (j := 2) B0.out.box (rx2 x)
  have d3 := cell_of_block (j := 3) B0.out.box (rx3 x); have d4 := cell_of_block (j := 4) B0.out.box (rx4 x); have d5 := cell_of_block (j := 5) B0.out.box (rx5 x)
  have d6 := cell_of_block (j := 6) B0.out.box (rx6 x); have d12 := cell_of_block (j := 12) B0.out.box (rx12 x)
  have f0 := cell_of_block (j := 0) B0.out.res (rx0 y); have f1 := cell_of_block (j := 1) B0.out.res (rx1 y); have f2 := cell_of_block (j := 2) B0.out.res (rx2 y)
  have f3 := cell_of_block (j := 3) B0.out.res (rx3 y); have f4 := cell_of_block (j := 4) B0.out.res (rx4 y); have f5 := cell_of_block (j := 5) B0.out.res (rx5 y)
  have f6 := cell_of_block (j := 6) B0.out.res (rx6 y); have f12 := cell_of_block (j := 12) B0.out.res (rx12 y)
  rw [e0] at f0; rw [e1] at f1; rw [e2] at f2; rw [e4] at f4; rw [e5] at f5; rw [e6] at f6; rw [e8] at f12
  have hxs := HX0.out.ids.rdB; have hys := HY0.out.ids.rdB
  rw [e3] at hys
  have hc1 := run_bytes_str (P := Tryd.prog) hxs x.ids.c 27 9 5 Tryd.underlying27 Tryd.underlying5 Tryd.underlying9
  have hc2 := run_bytes_str (P := Tryd.prog) hys y.ids.c 27 9 5 Tryd.underlying27 Tryd.underlying5 Tryd.underlying9
  have HR1 := hid (range_of_block B0.out.box 7 _ (rpay_range x)); have HR2 := hid (range_of_block B0.out.res 7 _ (rpay_range y))
  clear hxs hys e0 e1 e2 e3 e4 e5 e6 e8
  go_wp2_with (first | (refine wpList_load_mid_on (by rfl) 30 _ rfl b 7 rfl x.pay.arr.toList _ HR1.out Tryd.underlying30 rfl iSize ?_; simp only [Array.toArray_toList]) | (refine wpList_load_mid_on (by rfl) 30 _ rfl (b + 1) 7 rfl y.pay.arr.toList _ HR2.out Tryd.underlying30 rfl iSize ?_; simp only [Array.toArray_toList]))
  clear d0 d1 d2 d3 d4 d5 d6 d12 f0 f1 f2 f3 f4 f5 f6 f12 hc1 hc2
  refine (same6_any x.pay y.pay _ HX0.out.pay HY0.out.pay).mono ?_
  rintro e w2 ⟨rfl, hb⟩
  rw [show sameI x.pay.it y.pay.it = true by rw [E7.out]; exact sameI_yes rfl]
  have HB2 := hid (B0.out.bel.trans (hb.mono (by have := B0.out.size; omega)))
  clear hb
  go_wp2_with fail
  go_ret
  exact ⟨rfl, HB2.out⟩
theorem rsame_any (q r : RsV) (w : World) (hq : q.ok w) (hr : r.ok w) (he : q.rq = r.rq) : Calls Tryd.prog 10 #[.agg q.arr, .agg r.arr] w fun e w' => e = .returned (.bool true) ∧ Below w.heap.size w w' := by
  have e0 : r.time = q.time := (congrArg Rs.time he).symm
  have ei : r.items.map RsIV.rq = q.items.map RsIV.rq := (congrArg Rs.items he).symm
  have en : r.its.n = q.its.n := by rw [← hr.its.rslen, ← hq.its.rslen, ← List.length_map (f := RsIV.rq), ei, List.length_map]
  have HQ := hid hq; have HR := hid hr; have EI := hid ei; have EN := hid en
  clear hq hr he ei
  generalize hbe : w.heap.size = b
  have HBE := hid hbe; clear hbe
  go_enter Tryd.func10, Tryd.ntmps10
  go_upto_region 1 with (fail)
  go_simp
  have B0 := hid (Bx2.start (T := 25) (T' := 25) (cs := q.arr) (zs := r.arr) (w := w) HBE.out)
  rw [HBE.out]
  have hbw := ((Below.refl _ w).alloc (Nat.le_refl _) (.cells q.arr 25)).alloc (by simp) (.cells r.arr 25)
  have HQ0 := hid (HQ.out.below hbw); have HR0 := hid (HR.out.below hbw)
  clear HQ HR hbw
  generalize (w.alloc (.cells q.arr 25)).alloc (.cells r.arr 25) = W at *
  obtain ⟨kn, hkn⟩ : ∃ kn, q.its.n = kn := ⟨_, rfl⟩
  obtain ⟨ka, hka⟩ : ∃ ka, q.its.a = ka := ⟨_, rfl⟩
  obtain ⟨ra, hra⟩ : ∃ ra, r.its.a = ra := ⟨_, rfl⟩
  have HN := hid hkn; have HKA := hid hka; have HRA := hid hra
  have d0 := cell_of_block (j := 0) B0.out.box (rv0 q); have d1 := cell_of_block (j := 1) B0.out.box (rv1 q)
  have f0 := cell_of_block (j := 0) B0.out.res (rv0 r); have f1 := cell_of_block (j := 1) B0.out.res (rv1 r)
  rw [e0] at f0; rw [hra, en, hkn] at f1; rw [hka, hkn] at d1
  have hkb : kn ≤ 1099511627776 := by rw [← hkn]; exact HQ0.out.its.sm
  clear hkn hka hra e0 en
  go_wp2_with fail
  clear d0 d1 f0 f1
  go_loopw [5] (fun y wr => ∃ k : Nat, k ≤ kn ∧ y = .int .i64 k ∧ Below W.heap.size W wr) (fun y _ => kn - (intOf y).toNat)
  case atStart => exact ⟨0, Nat.zero_le _, rfl, Below.refl _ _⟩
  case round =>
    obtain ⟨k, hk, rfl, hbw⟩ := hrel
    have HBR := hid hbw
    have HBX := hid (B0.out.below hbw)
    have d1 := cell_of_block (j := 1) HBX.out.box (rv1 q)
    rw [HKA.out, HN.out] at d1
    clear hbw
    by_cases hlt : k < kn
    · obtain ⟨bx, ox, x, hax, hx, hrx⟩ := (HQ0.out.below HBR.out).its.rsrow (k := k) (by rw [HN.out]; exact hlt)
      obtain ⟨by', oy, y, hay, hy, hry⟩ := (HR0.out.below HBR.out).its.rsrow (k := k) (by rw [EN.out, HN.out]; exact hlt)
      rw [HKA.out] at hax
      rw [HRA.out] at hay
      subst hax; subst hay
      have HX := hid ((HQ0.out.below HBR.out).each x (List.mem_of_getElem? hx))
      have HY := hid ((HR0.out.below HBR.out).each y (List.mem_of_getElem? hy))
      have HXY : Hid (x.rq = y.rq) := by
        have h1 := congrArg (fun l : List RsI => l[k]?) EI.out
        simp only [List.getElem?_map, hx, hy, Option.map_some] at h1
        exact (Option.some.inj h1).symm
      have HRX := hid hrx; have HRY := hid hry
      clear hx hy hrx hry
      go_upto_region 6 with (fail)
      clear d1
      refine wp_region_each 12 [.eq (.pointer (some ⟨b, 1, none⟩)), .eq (.slice (some ⟨bx, ox, none⟩) kn q.its.c), .eq (.int .i64 (k : Int)), .eq (.pointer (some ⟨bx, ox + k * 13, none⟩)), .eq (.agg x.arr), .eq (.pointer (some ⟨b + 1, 1, none⟩)), .eq (.slice (some ⟨by', oy, none⟩) kn r.its.c), .eq (.int .i64 (k : Int)), .eq (.pointer (some ⟨by', oy + k * 13, none⟩)), .eq (.agg y.arr), .eq (.bool true), .eq (.bool false)] (by kernel_rfl) (by kernel_rfl) (by kernel_rfl) (by kernel_rfl) ?_ ?_
      · as_aux_lemma =>
          refine each_5 ?_ ?_ ?_ ?_ ?_ (each_5 ?_ ?_ ?_ ?_ ?_ (each_c ?_ (each_c ?_ (each_n))))
          · intro w1 hg Ar seen
            have s2 := seen.sl 2 (.pointer (some ⟨b, 0, none⟩))
            refine does_plain rfl fun K Q' hK => ?_
            go_simp; exact hK _ _ (Grow.refl _) rfl
          · intro w1 hg Ar seen
            have e0 := seen.de 0 27
            refine does_plain rfl fun K Q' hK => ?_
            have hc := cell_of_block (j := 1) ((hg.block _ (block_lt HBX.out.box)).trans HBX.out.box) (rv1 q); rw [HKA.out, HN.out] at hc
            go_simp; exact hK _ _ (Grow.refl _) rfl
          · intro w1 hg Ar seen
            have s5 := seen.sl 5 (.int .i64 (k : Int))
            refine does_plain rfl fun K Q' hK => ?_
            go_simp; exact hK _ _ (Grow.refl _) rfl
          · intro w1 hg Ar seen
            have e1 := seen.de 1 28
            have e2 := seen.de 2 29
            refine does_plain rfl fun K Q' hK => ?_
            go_simp; exact hK _ _ (Grow.refl _) rfl
          · intro w1 hg Ar seen
            have e3 := seen.de 3 30
            refine does_plain rfl fun K Q' hK => ?_
            refine wp_load_mid 51 _ rfl bx (ox + k * 13) (by simp [Act.eval, e3]) x.arr.toList _ (range_later hg HRX.out) Tryd.underlying51 rfl sSize ?_
            exact hK _ _ (Grow.refl _) rfl
          · intro w1 hg Ar seen
            have s3 := seen.sl 3 (.pointer (some ⟨b + 1, 0, none⟩))
            refine does_plain rfl fun K Q' hK => ?_
            go_simp; exact hK _ _ (Grow.refl _) rfl
          · intro w1 hg Ar seen
            have e5 := seen.de 5 32
            refine does_plain rfl fun K Q' hK => ?_
            have hc := cell_of_block (j := 1) ((hg.block _ (block_lt HBX.out.res)).trans HBX.out.res) (rv1 r); rw [HRA.out, EN.out, HN.out] at hc
            go_simp; exact hK _ _ (Grow.refl _) rfl
          · intro w1 hg Ar seen
            have s5 := seen.sl 5 (.int .i64 (k : Int))
            refine does_plain rfl fun K Q' hK => ?_
            go_simp; exact hK _ _ (Grow.refl _) rfl
          · intro w1 hg Ar seen
            have e6 := seen.de 6 33
            have e7 := seen.de 7 34
            refine does_plain rfl fun K Q' hK => ?_
            go_simp; exact hK _ _ (Grow.refl _) rfl
          · intro w1 hg Ar seen
            have e8 := seen.de 8 35
            refine does_plain rfl fun K Q' hK => ?_
            refine wp_load_mid 51 _ rfl by' (oy + k * 13) (by simp [Act.eval, e8]) y.arr.toList _ (range_later hg HRY.out) Tryd.underlying51 rfl sSize ?_
            exact hK _ _ (Grow.refl _) rfl
          · intro w1 hg Ar seen
            have e4 := seen.de 4 31
            have e9 := seen.de 9 36
            refine does_plain rfl fun K Q' hK => ?_
            go_simp
            refine (rsameItem_any x y _ (HX.out.below hg) (HY.out.below hg) HXY.out).mono ?_
            rintro e u ⟨rfl, hb⟩
            exact hK _ _ hb rfl
          · intro w1 hg Ar seen
            have e10 := seen.de 10 37
            refine does_plain rfl fun K Q' hK => ?_
            go_simp; exact hK _ _ (Grow.refl _) rfl
      intro w1 hg
      refine upon_w' (js := [0, 1, 2, 3, 4, 5, 6, 7, 8, 9, 10, 11]) (by rfl) ?_
      refine upon_e (some 27) (upon_e (some 28) (upon_e (some 29) (upon_e (some 30) (upon_e (some 31) (upon_e (some 32) (upon_e (some 33) (upon_e (some 34) (upon_e (some 35) (upon_e (some 36) (upon_e (some 37) (upon_e (some 38) (upon_n ?_))))))))))))
      go_simp
      have HG := hid (HBR.out.trans (hg.mono HBR.out.size))
      clear hg HX HY HXY HRX HRY HBX HBR
      go_simp
      go_wp2_with fail
      go_roundw
      case rel =>
        first
          | exact ⟨k + 1, by omega, by go_num, HG.out⟩
          | ((repeat apply Exists.intro); exact ⟨⟨k + 1, by omega, by go_num, HG.out⟩, rfl⟩)
      case measure => simp [intOf]; omega
    · obtain rfl : k = kn := by omega
      go_wp2_with fail
      go_ret
      exact ⟨rfl, by first | exact (B0.out.below HBR.out).bel | (rw [HBE.out]; exact (B0.out.below HBR.out).bel)⟩
end Go.Proofs.YteenglgnakenmaaDoor
