/- The reference's SameItem and SameResponse, of answers that are the same. -/
import Derived.Test.YtfcobmncbnkppaaRsp9
namespace Go.Proofs.Ytfcobmncbnkppaa
open Go.RowKit
set_option linter.unusedVariables false
set_option linter.unusedSimpArgs false
set_option maxRecDepth 100000
set_option maxHeartbeats 3200000
theorem rsameItem_any (x y : RsIV) (w : World) (hx : x.ok w) (hy : y.ok w) (he : x.rq = y.rq) : Calls Try.prog 43 #[.agg x.arr, .agg y.arr] w fun e w' => e = .returned (.bool true) ∧ Below w.heap.size w w' := by
  have e0 : y.op = x.op := (congrArg RsI.op he).symm
  have e1 : y.hasOp = x.hasOp := (congrArg RsI.hasOp he).symm
  have e2 : y.hasId = x.hasId := (congrArg RsI.hasId he).symm
  have e3 : y.id = x.id := (congrArg RsI.id he).symm
  have e4 : y.status = x.status := (congrArg RsI.status he).symm
  have e5 : y.reason = x.reason := (congrArg RsI.reason he).symm
  have e6 : y.msg = x.msg := (congrArg RsI.msg he).symm
  have e7 : y.pay.it = x.pay.it := (congrArg RsI.pay he).symm
  have e8 : y.hasPay = x.hasPay := (congrArg RsI.hasPay he).symm
  have HX := hid hx; have HY := hid hy; have E7 := hid e7
  clear hx hy he e7
  generalize hbe : w.heap.size = b
  have HBE := hid hbe; clear hbe
  go_enter Try.func43, Try.ntmps43
  go_upto_region 1 with (fail)
  go_simp
  have B0 := hid (Bx2.start (T := 44) (T' := 44) (cs := x.arr) (zs := y.arr) (w := w) HBE.out)
  rw [HBE.out]
  have hbw := ((Below.refl _ w).alloc (Nat.le_refl _) (.cells x.arr 44)).alloc (by simp) (.cells y.arr 44)
  have HX0 := hid (HX.out.below hbw); have HY0 := hid (HY.out.below hbw)
  clear HX HY hbw
  generalize (w.alloc (.cells x.arr 44)).alloc (.cells y.arr 44) = W at *
  have d0 := cell_of_block (j := 0) B0.out.box (rx0 x); have d1 := cell_of_block (j := 1) B0.out.box (rx1 x); have d2 := cell_of_block (j := 2) B0.out.box (rx2 x)
  have d3 := cell_of_block (j := 3) B0.out.box (rx3 x); have d4 := cell_of_block (j := 4) B0.out.box (rx4 x); have d5 := cell_of_block (j := 5) B0.out.box (rx5 x)
  have d6 := cell_of_block (j := 6) B0.out.box (rx6 x); have d12 := cell_of_block (j := 12) B0.out.box (rx12 x)
  have f0 := cell_of_block (j := 0) B0.out.res (rx0 y); have f1 := cell_of_block (j := 1) B0.out.res (rx1 y); have f2 := cell_of_block (j := 2) B0.out.res (rx2 y)
  have f3 := cell_of_block (j := 3) B0.out.res (rx3 y); have f4 := cell_of_block (j := 4) B0.out.res (rx4 y); have f5 := cell_of_block (j := 5) B0.out.res (rx5 y)
  have f6 := cell_of_block (j := 6) B0.out.res (rx6 y); have f12 := cell_of_block (j := 12) B0.out.res (rx12 y)
  rw [e0] at f0; rw [e1] at f1; rw [e2] at f2; rw [e4] at f4; rw [e5] at f5; rw [e6] at f6; rw [e8] at f12
  have hxs := HX0.out.ids.rdB; have hys := HY0.out.ids.rdB
  rw [e3] at hys
  have hc1 := run_bytes_str (P := Try.prog) hxs x.ids.c 24 9 5 Try.underlying24 Try.underlying5 Try.underlying9
  have hc2 := run_bytes_str (P := Try.prog) hys y.ids.c 24 9 5 Try.underlying24 Try.underlying5 Try.underlying9
  have HR1 := hid (range_of_block B0.out.box 7 _ (rpay_range x)); have HR2 := hid (range_of_block B0.out.res 7 _ (rpay_range y))
  clear hxs hys e0 e1 e2 e3 e4 e5 e6 e8
  go_wp2_with (first | (refine wpList_load_mid_on (by rfl) 27 _ rfl b 7 rfl x.pay.arr.toList _ HR1.out Try.underlying27 rfl iSize ?_; simp only [Array.toArray_toList]) | (refine wpList_load_mid_on (by rfl) 27 _ rfl (b + 1) 7 rfl y.pay.arr.toList _ HR2.out Try.underlying27 rfl iSize ?_; simp only [Array.toArray_toList]))
  clear d0 d1 d2 d3 d4 d5 d6 d12 f0 f1 f2 f3 f4 f5 f6 f12 hc1 hc2
  refine (same6_any x.pay y.pay _ HX0.out.pay HY0.out.pay).mono ?_
  rintro e w2 ⟨rfl, hb⟩
  rw [show sameI x.pay.it y.pay.it = true by rw [E7.out]; exact sameI_yes rfl]
  have HB2 := hid (B0.out.bel.trans (hb.mono (by have := B0.out.size; omega)))
  clear hb
  go_wp2_with fail
  go_ret
  exact ⟨rfl, HB2.out⟩
theorem rsame_any (q r : RsV) (w : World) (hq : q.ok w) (hr : r.ok w) (he : q.rq = r.rq) : Calls Try.prog 14 #[.agg q.arr, .agg r.arr] w fun e w' => e = .returned (.bool true) ∧ Below w.heap.size w w' := by
  have e0 : r.time = q.time := (congrArg Rs.time he).symm
  have ei : r.items.map RsIV.rq = q.items.map RsIV.rq := (congrArg Rs.items he).symm
  have en : r.its.n = q.its.n := by rw [← hr.its.rslen, ← hq.its.rslen, ← List.length_map (f := RsIV.rq), ei, List.length_map]
  have HQ := hid hq; have HR := hid hr; have EI := hid ei; have EN := hid en
  clear hq hr he ei
  generalize hbe : w.heap.size = b
  have HBE := hid hbe; clear hbe
  go_enter Try.func14, Try.ntmps14
  go_upto_region 1 with (fail)
  go_simp
  have B0 := hid (Bx2.start (T := 31) (T' := 31) (cs := q.arr) (zs := r.arr) (w := w) HBE.out)
  rw [HBE.out]
  have hbw := ((Below.refl _ w).alloc (Nat.le_refl _) (.cells q.arr 31)).alloc (by simp) (.cells r.arr 31)
  have HQ0 := hid (HQ.out.below hbw); have HR0 := hid (HR.out.below hbw)
  clear HQ HR hbw
  generalize (w.alloc (.cells q.arr 31)).alloc (.cells r.arr 31) = W at *
  obtain ⟨kn, hkn⟩ : ∃ kn, q.its.n = kn := ⟨_, rfl⟩
  obtain ⟨ka, hka⟩ : ∃ ka, q.its.a = ka := ⟨_, rfl⟩
  obtain ⟨ra, hra⟩ : ∃ ra, r.its.a = ra := ⟨_, rfl⟩
  have HN := hid hkn; have HKA := hid hka; have HRA := hid hra
  have d0 := cell_of_block (j := 0) B0.out.box (rv0 q); have d1 := cell_of_block (j := 1) B0.out.box (rv1 q)
  have f0 := cell_of_block (j := 0) B0.out.res (rv0 r); have f1 := cell_of_block (j := 1) B0.out.res (rv1 r)
  rw [e0] at f0; rw [hra, en, hkn] at f1; rw [hka, hkn] at d1
  have hkb : kn ≤ 1099511627776 := by rw [← hkn]; exact HQ0.out.its.sm
  clear hkn hka hra e0 en
  go_wp2_with fail
  clear d0 d1 f0 f1
  go_loopw [5] (fun y wr => ∃ k : Nat, k ≤ kn ∧ y = .int .i64 k ∧ Below W.heap.size W wr) (fun y _ => kn - (intOf y).toNat)
  case atStart => exact ⟨0, Nat.zero_le _, rfl, Below.refl _ _⟩
  case round =>
    obtain ⟨k, hk, rfl, hbw⟩ := hrel
    have HBR := hid hbw
    have HBX := hid (B0.out.below hbw)
    have d1 := cell_of_block (j := 1) HBX.out.box (rv1 q)
    rw [HKA.out, HN.out] at d1
    clear hbw
    by_cases hlt : k < kn
    · obtain ⟨bx, ox, x, hax, hx, hrx⟩ := (HQ0.out.below HBR.out).its.rsrow (k := k) (by rw [HN.out]; exact hlt)
      obtain ⟨by', oy, y, hay, hy, hry⟩ := (HR0.out.below HBR.out).its.rsrow (k := k) (by rw [EN.out, HN.out]; exact hlt)
      rw [HKA.out] at hax
      rw [HRA.out] at hay
      subst hax; subst hay
      have HX := hid ((HQ0.out.below HBR.out).each x (List.mem_of_getElem? hx))
      have HY := hid ((HR0.out.below HBR.out).each y (List.mem_of_getElem? hy))
      have HXY : Hid (x.rq = y.rq) := by
        have h1 := congrArg (fun l : List RsI => l[k]?) EI.out
        simp only [List.getElem?_map, hx, hy, Option.map_some] at h1
        exact (Option.some.inj h1).symm
      have HRX := hid hrx; have HRY := hid hry
      clear hx hy hrx hry
      go_upto_region 6 with (fail)
      clear d1
      refine wp_region_each 12 [.eq (.pointer (some ⟨b, 1, none⟩)), .eq (.slice (some ⟨bx, ox, none⟩) kn q.its.c), .eq (.int .i64 (k : Int)), .eq (.pointer (some ⟨bx, ox + k * 13, none⟩)), .eq (.agg x.arr), .eq (.pointer (some ⟨b + 1, 1, none⟩)), .eq (.slice (some ⟨by', oy, none⟩) kn r.its.c), .eq (.int .i64 (k : Int)), .eq (.pointer (some ⟨by', oy + k * 13, none⟩)), .eq (.agg y.arr), .eq (.bool true), .eq (.bool false)] (by kernel_rfl) (by kernel_rfl) (by kernel_rfl) (by kernel_rfl) ?_ ?_
      · as_aux_lemma =>
          refine each_c (o' := _) ?_ (each_c (o' := _) ?_ (each_c (o' := _) ?_ (each_c (o' := _) ?_ (each_c (o' := _) ?_ (each_c (o' := _) ?_ (each_c (o' := _) ?_ (each_c (o' := _) ?_ (each_c (o' := _) ?_ (each_c (o' := _) ?_ (each_c (o' := _) ?_ (each_c (o' := _) ?_ (each_n))))))))))))
          -- 0: fieldAddr 31 t2 1
          · intro w1 hg Ar seen
            have s2 := seen.slot 2 (v := .pointer (some ⟨b, 0, none⟩)) (by kernel_rfl) rfl
            refine does_plain rfl fun K Q' hK => ?_
            go_simp; exact hK _ _ (Grow.refl _) rfl
          -- 1: load 29 t27
          · intro w1 hg Ar seen
            obtain ⟨v0, e0, h0⟩ := seen.dep 0 (d := 27) (by kernel_rfl) (by kernel_rfl) rfl
            rcases h0 with rfl
            refine does_plain rfl fun K Q' hK => ?_
            have hc := cell_of_block (j := 1) ((hg.block _ (block_lt HBX.out.box)).trans HBX.out.box) (rv1 q); rw [HKA.out, HN.out] at hc
            go_simp; exact hK _ _ (Grow.refl _) rfl
          -- 2: move t5
          · intro w1 hg Ar seen
            have s5 := seen.slot 5 (v := .int .i64 (k : Int)) (by kernel_rfl) rfl
            refine does_plain rfl fun K Q' hK => ?_
            go_simp; exact hK _ _ (Grow.refl _) rfl
          -- 3: indexAddr 29 t28 t29
          · intro w1 hg Ar seen
            obtain ⟨v1, e1, h1⟩ := seen.dep 1 (d := 28) (by kernel_rfl) (by kernel_rfl) rfl
            rcases h1 with rfl
            obtain ⟨v2, e2, h2⟩ := seen.dep 2 (d := 29) (by kernel_rfl) (by kernel_rfl) rfl
            rcases h2 with rfl
            refine does_plain rfl fun K Q' hK => ?_
            go_simp; exact hK _ _ (Grow.refl _) rfl
          -- 4: load 44 t30
          · intro w1 hg Ar seen
            obtain ⟨v3, e3, h3⟩ := seen.dep 3 (d := 30) (by kernel_rfl) (by kernel_rfl) rfl
            rcases h3 with rfl
            refine does_plain rfl fun K Q' hK => ?_
            refine wp_load_mid 44 _ rfl bx (ox + k * 13) (by simp [Act.eval, e3]) x.arr.toList _ (range_later hg HRX.out) Try.underlying44 rfl sSize ?_
            exact hK _ _ (Grow.refl _) rfl
          -- 5: fieldAddr 31 t3 1
          · intro w1 hg Ar seen
            have s3 := seen.slot 3 (v := .pointer (some ⟨b + 1, 0, none⟩)) (by kernel_rfl) rfl
            refine does_plain rfl fun K Q' hK => ?_
            go_simp; exact hK _ _ (Grow.refl _) rfl
          -- 6: load 29 t32
          · intro w1 hg Ar seen
            obtain ⟨v5, e5, h5⟩ := seen.dep 5 (d := 32) (by kernel_rfl) (by kernel_rfl) rfl
            rcases h5 with rfl
            refine does_plain rfl fun K Q' hK => ?_
            have hc := cell_of_block (j := 1) ((hg.block _ (block_lt HBX.out.res)).trans HBX.out.res) (rv1 r); rw [HRA.out, EN.out, HN.out] at hc
            go_simp; exact hK _ _ (Grow.refl _) rfl
          -- 7: move t5
          · intro w1 hg Ar seen
            have s5 := seen.slot 5 (v := .int .i64 (k : Int)) (by kernel_rfl) rfl
            refine does_plain rfl fun K Q' hK => ?_
            go_simp; exact hK _ _ (Grow.refl _) rfl
          -- 8: indexAddr 29 t33 t34
          · intro w1 hg Ar seen
            obtain ⟨v6, e6, h6⟩ := seen.dep 6 (d := 33) (by kernel_rfl) (by kernel_rfl) rfl
            rcases h6 with rfl
            obtain ⟨v7, e7, h7⟩ := seen.dep 7 (d := 34) (by kernel_rfl) (by kernel_rfl) rfl
            rcases h7 with rfl
            refine does_plain rfl fun K Q' hK => ?_
            go_simp; exact hK _ _ (Grow.refl _) rfl
          -- 9: load 44 t35
          · intro w1 hg Ar seen
            obtain ⟨v8, e8, h8⟩ := seen.dep 8 (d := 35) (by kernel_rfl) (by kernel_rfl) rfl
            rcases h8 with rfl
            refine does_plain rfl fun K Q' hK => ?_
            refine wp_load_mid 44 _ rfl by' (oy + k * 13) (by simp [Act.eval, e8]) y.arr.toList _ (range_later hg HRY.out) Try.underlying44 rfl sSize ?_
            exact hK _ _ (Grow.refl _) rfl
          -- 10: call fn43<locksmithref15.SameItem> [t31, t36] T[44, 44]
          · intro w1 hg Ar seen
            obtain ⟨v4, e4, h4⟩ := seen.dep 4 (d := 31) (by kernel_rfl) (by kernel_rfl) rfl
            rcases h4 with rfl
            obtain ⟨v9, e9, h9⟩ := seen.dep 9 (d := 36) (by kernel_rfl) (by kernel_rfl) rfl
            rcases h9 with rfl
            refine does_plain rfl fun K Q' hK => ?_
            go_simp
            refine (rsameItem_any x y _ (HX.out.below hg) (HY.out.below hg) HXY.out).mono ?_
            rintro e u ⟨rfl, hb⟩
            exact hK _ _ hb rfl
          -- 11: unOp UnOp.not 4 t37
          · intro w1 hg Ar seen
            obtain ⟨v10, e10, h10⟩ := seen.dep 10 (d := 37) (by kernel_rfl) (by kernel_rfl) rfl
            rcases h10 with rfl
            refine does_plain rfl fun K Q' hK => ?_
            go_simp; exact hK _ _ (Grow.refl _) rfl
      intro w1 hg
      refine upon_w' (js := [0, 1, 2, 3, 4, 5, 6, 7, 8, 9, 10, 11]) (by rfl) ?_
      refine upon_c (x := some 27) (by kernel_rfl) rfl fun v0 h0 => ?_
      rcases h0 with rfl
      refine upon_c (x := some 28) (by kernel_rfl) rfl fun v1 h1 => ?_
      rcases h1 with rfl
      refine upon_c (x := some 29) (by kernel_rfl) rfl fun v2 h2 => ?_
      rcases h2 with rfl
      refine upon_c (x := some 30) (by kernel_rfl) rfl fun v3 h3 => ?_
      rcases h3 with rfl
      refine upon_c (x := some 31) (by kernel_rfl) rfl fun v4 h4 => ?_
      rcases h4 with rfl
      refine upon_c (x := some 32) (by kernel_rfl) rfl fun v5 h5 => ?_
      rcases h5 with rfl
      refine upon_c (x := some 33) (by kernel_rfl) rfl fun v6 h6 => ?_
      rcases h6 with rfl
      refine upon_c (x := some 34) (by kernel_rfl) rfl fun v7 h7 => ?_
      rcases h7 with rfl
      refine upon_c (x := some 35) (by kernel_rfl) rfl fun v8 h8 => ?_
      rcases h8 with rfl
      refine upon_c (x := some 36) (by kernel_rfl) rfl fun v9 h9 => ?_
      rcases h9 with rfl
      refine upon_c (x := some 37) (by kernel_rfl) rfl fun v10 h10 => ?_
      rcases h10 with rfl
      refine upon_c (x := some 38) (by kernel_rfl) rfl fun v11 h11 => ?_
      rcases h11 with rfl
      refine upon_n ?_
      go_simp
      have HG := hid (HBR.out.trans (hg.mono HBR.out.size))
      clear hg HX HY HXY HRX HRY HBX HBR
      go_simp
      go_wp2_with fail
      go_roundw
      case rel =>
        first
          | exact ⟨k + 1, by omega, by go_num, HG.out⟩
          | ((repeat apply Exists.intro); exact ⟨⟨k + 1, by omega, by go_num, HG.out⟩, rfl⟩)
      case measure => simp [intOf]; omega
    · obtain rfl : k = kn := by omega
      go_wp2_with fail
      go_ret
      exact ⟨rfl, by first | exact (B0.out.below HBR.out).bel | (rw [HBE.out]; exact (B0.out.below HBR.out).bel)⟩
end Go.Proofs.Ytfcobmncbnkppaa
