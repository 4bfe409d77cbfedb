/- The reference's ReadResponse. -/
import Derived.Test.YtfcobmncbnkppaaRsp11
namespace Go.Proofs.Ytfcobmncbnkppaa
open Go.RowKit
set_option linter.unusedVariables false
set_option linter.unusedSimpArgs false
set_option maxRecDepth 100000
set_option maxHeartbeats 16000000
theorem rreadR_any (v : ItV) (w : World) (hv : v.ok w) (hkid : v.it.kids.length ≤ 1000000) : Calls Try.prog 12 #[.agg v.arr] w (RsRead (readRs v.it) w) := by
  obtain ⟨i, hi, hz0, hz1, hz2⟩ := info_parts fInfo
  obtain ⟨iq, hiq, hy0, hy1, hy2⟩ := info_parts sInfo
  have HV := hid hv; have HKID := hid hkid
  have hvl := hv.lt
  clear hv hkid
  generalize hbe : w.heap.size = b
  rw [hbe] at hvl
  have HVL : Hid (∀ k ∈ v.foot, k < b) := hvl
  have HBE := hid hbe; clear hbe hvl
  have HTG : Hid (v.it.tag = v.tag) := by show _ = _; rw [ItV.it_eq]
  go_enter Try.func12, Try.ntmps12
  go_upto_region 1 with (refine wpList_alloc_obj rfl 31 rfl _ pZero ?_)
  go_simp
  have B00 := hid (Bx2.start (T := 27) (T' := 31) (cs := v.arr) (zs := rpZ.arr) (w := w) HBE.out)
  rw [HBE.out]
  have HV00 := hid (HV.out.below (((Below.refl _ w).alloc (Nat.le_refl _) (.cells v.arr 27)).alloc (by simp) (.cells rpZ.arr 31)))
  generalize (w.alloc (.cells v.arr 27)).alloc (.cells rpZ.arr 31) = W0 at *
  clear HV
  go_upto_region 2 with (first | (refine wpList_build_obj rfl 31 _ rfl #[] rfl _ (pBuild0 _) ?_) | (refine wpList_alloc_obj rfl 31 rfl _ pZero ?_) | (refine wpList_store_obj rfl 31 _ _ rfl W0.heap.size rfl rpZ.arr rfl _ _ (block_new W0 _) rfl pSize (parr_one _) ?_; intro W hb hc hs; have HNB := hid hb; have HNC := hid hc; clear hb hc hs))
  have hbel : Below W0.heap.size W0 W := ((Below.refl _ W0).alloc (Nat.le_refl _) _).trans (HNC.out.below (fun k hk => by rw [List.mem_singleton.1 hk]; exact Nat.le_refl _) (by simp))
  have B := hid (B00.out.below hbel); have HV0 := hid (HV00.out.below hbel)
  obtain ⟨nb, hnb⟩ : ∃ n, n = W0.heap.size := ⟨_, rfl⟩
  have HNL : Hid (b + 2 ≤ nb) := by show _ ≤ _; rw [hnb]; exact B00.out.size
  rw [← hnb] at HNB ⊢
  clear hbel HNC B00 HV00 hnb
  have c0 := cell_of_block (j := 0) B.out.box (ar0 v)
  by_cases ht : v.tag = 4325499
  rotate_left
  · have hne : (v.tag == 4325499) = false := by simpa using ht
    have HE := hid (readRs_tag (i := v.it) (by rw [HTG.out]; exact ht))
    go_wp2_with (first | (refine wpList_load_row rfl 31 _ rfl nb rfl _ _ _ _ HNB.out Try.underlying31 rfl pSize ?_) | (refine wpList_store_obj rfl 31 _ _ rfl (b + 1) rfl rpZ.arr rfl _ _ B.out.res rfl pSize (parr_one _) ?_; intro w10 hb10 hc10 hs10; have HB10 := hid hb10; have HC10 := hid hc10; clear hb10 hc10 hs10))
    refine bodyPost_ret (results_cell_tmp rfl _ _ (b + 1) _ _ _ _ rfl HB10.out Try.underlying31 rfl pSize _ rfl) rfl ?_
    rw [HE.out]
    exact ⟨rfl, by rw [HBE.out]; exact B.out.done HC10.out⟩
  have HT : Hid (v.it.tag = 4325499) := HTG.out.trans ht
  go_upto_region 4 with (fail)
  clear c0 ht
  rcases hp1 : parseV rMsgF v.it with c | m
  · have HE := hid (readRs_m HT.out hp1)
    refine wp_region_each 10 [.eq (.agg v.arr), .eq (.agg (needF 4325498 1).arr), .eq (.agg (manyF 4325391 1).arr), stF rMsgF, .eq (.tuple #[.slice none 0 0, .int .i64 c]), .eq (.tuple #[.slice none 0 0, .int .i64 c]), .eq (.slice none 0 0), .eq (.int .i64 c), .eq (.slice none 0 0), .eq (.int .i64 c)] (by kernel_rfl) (by kernel_rfl) (by kernel_rfl) (by kernel_rfl) ?_ ?_
    · as_aux_lemma =>
        refine each_c (o' := _) ?_ (each_c (o' := _) ?_ (each_c (o' := _) ?_ (each_c (o' := _) ?_ (each_c (o' := _) ?_ (each_c (o' := _) ?_ (each_c (o' := _) ?_ (each_c (o' := _) ?_ (each_c (o' := _) ?_ (each_c (o' := _) ?_ (each_n))))))))))
        -- 0: load 27 t1
        · intro w1 hg Ar seen
          have s1 := seen.slot 1 (v := .pointer (some ⟨b, 0, none⟩)) (by kernel_rfl) rfl
          refine does_plain rfl fun K Q' hK => ?_
          refine wp_load_row 27 _ rfl b (by simp [Act.eval, s1]) _ _ _ _ ((hg.block _ (block_lt B.out.box)).trans B.out.box) Try.underlying27 rfl iSize ?_
          exact hK _ _ (Grow.refl _) rfl
        -- 1: call fn37<locksmithref15.need> [4325498:i64, 1:i64] T[3, 3]
        · intro w1 hg Ar seen
          refine does_plain rfl fun K Q' hK => ?_
          go_simp
          refine (rneed_any _ _ _).mono ?_
          rintro e u ⟨rfl, hb⟩
          exact hK _ _ hb rfl
        -- 2: call fn38<locksmithref15.many> [4325391:i64, 1:i64] T[3, 3]
        · intro w1 hg Ar seen
          refine does_plain rfl fun K Q' hK => ?_
          go_simp
          refine (rmany_any _ _ _).mono ?_
          rintro e u ⟨rfl, hb⟩
          exact hK _ _ hb rfl
        -- 3: buildSlice 69 2 [(0, t22), (1, t23)]
        · intro w1 hg Ar seen
          obtain ⟨v1, e1, h1⟩ := seen.dep 1 (d := 22) (by kernel_rfl) (by kernel_rfl) rfl
          rcases h1 with rfl
          obtain ⟨v2, e2, h2⟩ := seen.dep 2 (d := 23) (by kernel_rfl) (by kernel_rfl) rfl
          rcases h2 with rfl
          refine does_plain rfl fun K Q' hK => ?_
          refine wp_build_flds _ 67 2 _ rfl rMsgF rfl (by decide) (by decide) (by simp [Act.eval, e1, e2]; rfl) (fldCells rMsgF).toArray (by simp) i Try.underlying69 hi hz0 hz1 (by kernel_rfl) ?_
          intro s hs
          exact hK _ _ ((Below.refl _ _).alloc (Nat.le_refl _) _) ⟨s, rfl, hs⟩
        -- 4: call fn36<locksmithref15.Parse> [t21, t24] T[27, 69]
        · intro w1 hg Ar seen
          obtain ⟨v0, e0, h0⟩ := seen.dep 0 (d := 21) (by kernel_rfl) (by kernel_rfl) rfl
          rcases h0 with rfl
          obtain ⟨v3, e3, h3⟩ := seen.dep 3 (d := 24) (by kernel_rfl) (by kernel_rfl) rfl
          refine does_plain rfl fun K Q' hK => ?_
          obtain ⟨sf, rfl, hsf⟩ := h3
          go_simp
          refine (refParse_any v sf rMsgF _ (HV0.out.below hg) hsf (· < b) HVL.out).mono ?_
          intro e u hres
          obtain ⟨rfl, hb⟩ := parsedR_err hres hp1
          exact hK _ _ hb rfl
        -- 5: move t25
        · intro w1 hg Ar seen
          obtain ⟨v4, e4, h4⟩ := seen.dep 4 (d := 25) (by kernel_rfl) (by kernel_rfl) rfl
          rcases h4 with rfl
          refine does_plain rfl fun K Q' hK => ?_
          go_simp; exact hK _ _ (Grow.refl _) rfl
        -- 6: extract t20 0
        · intro w1 hg Ar seen
          obtain ⟨v5, e5, h5⟩ := seen.dep 5 (d := 20) (by kernel_rfl) (by kernel_rfl) rfl
          rcases h5 with rfl
          refine does_plain rfl fun K Q' hK => ?_
          go_simp; exact hK _ _ (Grow.refl _) rfl
        -- 7: extract t20 1
        · intro w1 hg Ar seen
          obtain ⟨v5, e5, h5⟩ := seen.dep 5 (d := 20) (by kernel_rfl) (by kernel_rfl) rfl
          rcases h5 with rfl
          refine does_plain rfl fun K Q' hK => ?_
          go_simp; exact hK _ _ (Grow.refl _) rfl
        -- 8: assign t26
        · intro w1 hg Ar seen
          obtain ⟨v6, e6, h6⟩ := seen.dep 6 (d := 26) (by kernel_rfl) (by kernel_rfl) rfl
          rcases h6 with rfl
          refine does_plain rfl fun K Q' hK => ?_
          go_simp; exact hK _ _ (Grow.refl _) rfl
        -- 9: assign t27
        · intro w1 hg Ar seen
          obtain ⟨v7, e7, h7⟩ := seen.dep 7 (d := 27) (by kernel_rfl) (by kernel_rfl) rfl
          rcases h7 with rfl
          refine does_plain rfl fun K Q' hK => ?_
          go_simp; exact hK _ _ (Grow.refl _) rfl
    intro w1 hg
    refine upon_w' (js := [0, 1, 2, 3, 4, 5, 6, 7, 8, 9]) (by rfl) ?_
    refine upon_c (x := some 21) (by kernel_rfl) rfl fun v0 h0 => ?_
    rcases h0 with rfl
    refine upon_c (x := some 22) (by kernel_rfl) rfl fun v1 h1 => ?_
    rcases h1 with rfl
    refine upon_c (x := some 23) (by kernel_rfl) rfl fun v2 h2 => ?_
    rcases h2 with rfl
    refine upon_c (x := some 24) (by kernel_rfl) rfl fun v3 h3 => ?_
    refine upon_c (x := some 25) (by kernel_rfl) rfl fun v4 h4 => ?_
    rcases h4 with rfl
    refine upon_c (x := some 20) (by kernel_rfl) rfl fun v5 h5 => ?_
    rcases h5 with rfl
    refine upon_c (x := some 26) (by kernel_rfl) rfl fun v6 h6 => ?_
    rcases h6 with rfl
    refine upon_c (x := some 27) (by kernel_rfl) rfl fun v7 h7 => ?_
    rcases h7 with rfl
    refine upon_c (x := some 5) (by kernel_rfl) rfl fun v8 h8 => ?_
    rcases h8 with rfl
    refine upon_c (x := some 6) (by kernel_rfl) rfl fun v9 h9 => ?_
    rcases h9 with rfl
    refine upon_n ?_
    go_simp
    have B1 := hid (B.out.below hg)
    have HNB1 := hid ((hg.block _ (block_lt HNB.out)).trans HNB.out)
    have hc := parse_code hp1
    clear hg hp1 B HNB h3
    go_wp2_with (first | (refine wpList_load_row rfl 31 _ rfl nb rfl _ _ _ _ HNB1.out Try.underlying31 rfl pSize ?_) | (refine wpList_store_obj rfl 31 _ _ rfl (b + 1) rfl rpZ.arr rfl _ _ B1.out.res rfl pSize (parr_one _) ?_; intro w10 hb10 hc10 hs10; have HB10 := hid hb10; have HC10 := hid hc10; clear hb10 hc10 hs10))
    refine bodyPost_ret (results_cell_tmp rfl _ _ (b + 1) _ _ _ _ rfl HB10.out Try.underlying31 rfl pSize _ rfl) rfl ?_
    rw [HE.out]
    exact ⟨rfl, by rw [HBE.out]; exact B1.out.done HC10.out⟩
  refine wp_region_each 10 [.eq (.agg v.arr), .eq (.agg (needF 4325498 1).arr), .eq (.agg (manyF 4325391 1).arr), stF rMsgF, stRowsTR (· < b) 25 27 (b + 2) m, stRowsTR (· < b) 25 27 (b + 2) m, stRowsR (· < b) 25 27 (b + 2) m, .eq (.int .i64 0), stRowsR (· < b) 25 27 (b + 2) m, .eq (.int .i64 0)] (by kernel_rfl) (by kernel_rfl) (by kernel_rfl) (by kernel_rfl) ?_ ?_
  · as_aux_lemma =>
      refine each_c (o' := _) ?_ (each_c (o' := _) ?_ (each_c (o' := _) ?_ (each_c (o' := _) ?_ (each_c (o' := _) ?_ (each_c (o' := _) ?_ (each_c (o' := _) ?_ (each_c (o' := _) ?_ (each_c (o' := _) ?_ (each_c (o' := _) ?_ (each_n))))))))))
      -- 0: load 27 t1
      · intro w1 hg Ar seen
        have s1 := seen.slot 1 (v := .pointer (some ⟨b, 0, none⟩)) (by kernel_rfl) rfl
        refine does_plain rfl fun K Q' hK => ?_
        refine wp_load_row 27 _ rfl b (by simp [Act.eval, s1]) _ _ _ _ ((hg.block _ (block_lt B.out.box)).trans B.out.box) Try.underlying27 rfl iSize ?_
        exact hK _ _ (Grow.refl _) rfl
      -- 1: call fn37<locksmithref15.need> [4325498:i64, 1:i64] T[3, 3]
      · intro w1 hg Ar seen
        refine does_plain rfl fun K Q' hK => ?_
        go_simp
        refine (rneed_any _ _ _).mono ?_
        rintro e u ⟨rfl, hb⟩
        exact hK _ _ hb rfl
      -- 2: call fn38<locksmithref15.many> [4325391:i64, 1:i64] T[3, 3]
      · intro w1 hg Ar seen
        refine does_plain rfl fun K Q' hK => ?_
        go_simp
        refine (rmany_any _ _ _).mono ?_
        rintro e u ⟨rfl, hb⟩
        exact hK _ _ hb rfl
      -- 3: buildSlice 69 2 [(0, t22), (1, t23)]
      · intro w1 hg Ar seen
        obtain ⟨v1, e1, h1⟩ := seen.dep 1 (d := 22) (by kernel_rfl) (by kernel_rfl) rfl
        rcases h1 with rfl
        obtain ⟨v2, e2, h2⟩ := seen.dep 2 (d := 23) (by kernel_rfl) (by kernel_rfl) rfl
        rcases h2 with rfl
        refine does_plain rfl fun K Q' hK => ?_
        refine wp_build_flds _ 67 2 _ rfl rMsgF rfl (by decide) (by decide) (by simp [Act.eval, e1, e2]; rfl) (fldCells rMsgF).toArray (by simp) i Try.underlying69 hi hz0 hz1 (by kernel_rfl) ?_
        intro s hs
        exact hK _ _ ((Below.refl _ _).alloc (Nat.le_refl _) _) ⟨s, rfl, hs⟩
      -- 4: call fn36<locksmithref15.Parse> [t21, t24] T[27, 69]
      · intro w1 hg Ar seen
        obtain ⟨v0, e0, h0⟩ := seen.dep 0 (d := 21) (by kernel_rfl) (by kernel_rfl) rfl
        rcases h0 with rfl
        obtain ⟨v3, e3, h3⟩ := seen.dep 3 (d := 24) (by kernel_rfl) (by kernel_rfl) rfl
        refine does_plain rfl fun K Q' hK => ?_
        obtain ⟨sf, rfl, hsf⟩ := h3
        go_simp
        refine (refParse_any v sf rMsgF _ (HV0.out.below hg) hsf (· < b) HVL.out).mono ?_
        intro e u hres
        obtain ⟨so, rfl, h1, hb⟩ := parsedR_ok hres hp1 (Nat.le_trans B.out.size hg.size)
        exact hK _ _ hb ⟨so, rfl, h1⟩
      -- 5: move t25
      · intro w1 hg Ar seen
        obtain ⟨v4, e4, h4⟩ := seen.dep 4 (d := 25) (by kernel_rfl) (by kernel_rfl) rfl
        refine does_plain rfl fun K Q' hK => ?_
        go_simp
        exact hK _ _ (Grow.refl _) h4
      -- 6: extract t20 0
      · intro w1 hg Ar seen
        obtain ⟨v5, e5, h5⟩ := seen.dep 5 (d := 20) (by kernel_rfl) (by kernel_rfl) rfl
        refine does_plain rfl fun K Q' hK => ?_
        obtain ⟨so, rfl, h1⟩ := h5
        go_simp
        exact hK _ _ (Grow.refl _) ⟨so, rfl, h1⟩
      -- 7: extract t20 1
      · intro w1 hg Ar seen
        obtain ⟨v5, e5, h5⟩ := seen.dep 5 (d := 20) (by kernel_rfl) (by kernel_rfl) rfl
        refine does_plain rfl fun K Q' hK => ?_
        obtain ⟨so, rfl, h1⟩ := h5
        go_simp; exact hK _ _ (Grow.refl _) rfl
      -- 8: assign t26
      · intro w1 hg Ar seen
        obtain ⟨v6, e6, h6⟩ := seen.dep 6 (d := 26) (by kernel_rfl) (by kernel_rfl) rfl
        refine does_plain rfl fun K Q' hK => ?_
        go_simp
        exact hK _ _ (Grow.refl _) h6
      -- 9: assign t27
      · intro w1 hg Ar seen
        obtain ⟨v7, e7, h7⟩ := seen.dep 7 (d := 27) (by kernel_rfl) (by kernel_rfl) rfl
        rcases h7 with rfl
        refine does_plain rfl fun K Q' hK => ?_
        go_simp; exact hK _ _ (Grow.refl _) rfl
  intro w1 hg
  refine upon_w' (js := [0, 1, 2, 3, 4, 5, 6, 7, 8, 9]) (by rfl) ?_
  refine upon_c (x := some 21) (by kernel_rfl) rfl fun v0 h0 => ?_
  rcases h0 with rfl
  refine upon_c (x := some 22) (by kernel_rfl) rfl fun v1 h1 => ?_
  rcases h1 with rfl
  refine upon_c (x := some 23) (by kernel_rfl) rfl fun v2 h2 => ?_
  rcases h2 with rfl
  refine upon_c (x := some 24) (by kernel_rfl) rfl fun v3 h3 => ?_
  refine upon_c (x := some 25) (by kernel_rfl) rfl fun v4 h4 => ?_
  refine upon_c (x := some 20) (by kernel_rfl) rfl fun v5 h5 => ?_
  refine upon_c (x := some 26) (by kernel_rfl) rfl fun v6 h6 => ?_
  refine upon_c (x := some 27) (by kernel_rfl) rfl fun v7 h7 => ?_
  rcases h7 with rfl
  refine upon_c (x := some 5) (by kernel_rfl) rfl fun v8 h8 => ?_
  refine upon_c (x := some 6) (by kernel_rfl) rfl fun v9 h9 => ?_
  rcases h9 with rfl
  refine upon_n ?_
  go_simp
  obtain ⟨so, rfl, hrow⟩ := h8
  clear h3 h4 h5 h6
  have B1 := hid (B.out.below hg); have HNB1 := hid ((hg.block _ (block_lt HNB.out)).trans HNB.out)
  have HRW := hid hrow
  clear hrow hg B HNB
  have B := B1; have HNB := HNB1
  clear B1 HNB1
  have hpr := parse_rows hp1
  obtain ⟨hrl, hneed⟩ := hpr
  obtain ⟨m0, m1, rfl⟩ := rows2 hrl
  obtain ⟨x0, t0, hx0⟩ := hneed 0 _ rfl rfl
  simp only [List.getElem?_cons_zero, Option.some.injEq] at hx0
  subst hx0
  obtain ⟨gm, cm, rfl⟩ := HRW.out.ok.shape (by simp)
  have HM := HRW
  have HK6 : Hid (m1.length ≤ 1000000) := Nat.le_trans (parse_len hp1 m1 (by simp)) HKID.out
  clear hrl hneed HRW
  obtain ⟨s0, l0, g0, o0, vh, -, -, hc0, ha0, hn0, rfl, hr0, ho0, hf0⟩ := HM.out.hd (k := 0) rfl
  rw [ha0] at hc0
  have HC0 := hid hc0; have HR0 := hid hr0; have HO0 := hid ho0; have HN0 := hid hn0; have HF0 := hid hf0
  clear hc0 ha0 hr0 ho0 hn0 hf0
  go_upto_region 7 with (fail)
  rcases hp2 : parseV rHeadF vh.it with c | h
  · have HE := hid (readRs_h HT.out hp1 hp2)
    refine wp_region_each 15 [.eq (.slice (some ⟨gm, 0, none⟩) 2 cm), .eq (.pointer (some ⟨gm, 0, none⟩)), .eq (.slice (some ⟨g0, o0, none⟩) s0.n s0.c), .eq (.pointer (some ⟨g0, o0, none⟩)), .eq (.agg vh.arr), .eq (.agg (needF 4325481 1).arr), .eq (.agg (needF 4325522 9).arr), .eq (.agg (needF 4325389 2).arr), stF rHeadF, .eq (.tuple #[.slice none 0 0, .int .i64 c]), .eq (.tuple #[.slice none 0 0, .int .i64 c]), .eq (.slice none 0 0), .eq (.int .i64 c), .eq (.slice none 0 0), .eq (.int .i64 c)] (by kernel_rfl) (by kernel_rfl) (by kernel_rfl) (by kernel_rfl) ?_ ?_
    · as_aux_lemma =>
        refine each_c (o' := _) ?_ (each_c (o' := _) ?_ (each_c (o' := _) ?_ (each_c (o' := _) ?_ (each_c (o' := _) ?_ (each_c (o' := _) ?_ (each_c (o' := _) ?_ (each_c (o' := _) ?_ (each_c (o' := _) ?_ (each_c (o' := _) ?_ (each_c (o' := _) ?_ (each_c (o' := _) ?_ (each_c (o' := _) ?_ (each_c (o' := _) ?_ (each_c (o' := _) ?_ (each_n)))))))))))))))
        -- 0: move t5
        · intro w1 hg Ar seen
          have s5 := seen.slot 5 (v := .slice (some ⟨gm, 0, none⟩) 2 cm) (by kernel_rfl) rfl
          refine does_plain rfl fun K Q' hK => ?_
          go_simp; exact hK _ _ (Grow.refl _) rfl
        -- 1: indexAddr 63 t33 0:i64
        · intro w1 hg Ar seen
          obtain ⟨v0, e0, h0⟩ := seen.dep 0 (d := 33) (by kernel_rfl) (by kernel_rfl) rfl
          rcases h0 with rfl
          refine does_plain rfl fun K Q' hK => ?_
          go_simp; exact hK _ _ (Grow.refl _) rfl
        -- 2: load 25 t34
        · intro w1 hg Ar seen
          obtain ⟨v1, e1, h1⟩ := seen.dep 1 (d := 34) (by kernel_rfl) (by kernel_rfl) rfl
          rcases h1 with rfl
          refine does_plain rfl fun K Q' hK => ?_
          have hc := cell_later hg HC0.out
          go_simp; exact hK _ _ (Grow.refl _) rfl
        -- 3: indexAddr 25 t35 0:i64
        · intro w1 hg Ar seen
          obtain ⟨v2, e2, h2⟩ := seen.dep 2 (d := 35) (by kernel_rfl) (by kernel_rfl) rfl
          rcases h2 with rfl
          refine does_plain rfl fun K Q' hK => ?_
          have hn := HN0.out
          go_simp; exact hK _ _ (Grow.refl _) rfl
        -- 4: load 27 t36
        · intro w1 hg Ar seen
          obtain ⟨v3, e3, h3⟩ := seen.dep 3 (d := 36) (by kernel_rfl) (by kernel_rfl) rfl
          rcases h3 with rfl
          refine does_plain rfl fun K Q' hK => ?_
          refine wp_load_mid 27 _ rfl g0 o0 (by simp [Act.eval, e3]) vh.arr.toList _ (range_later hg HR0.out) Try.underlying27 rfl iSize ?_
          exact hK _ _ (Grow.refl _) rfl
        -- 5: call fn37<locksmithref15.need> [4325481:i64, 1:i64] T[3, 3]
        · intro w1 hg Ar seen
          refine does_plain rfl fun K Q' hK => ?_
          go_simp
          refine (rneed_any _ _ _).mono ?_
          rintro e u ⟨rfl, hb⟩
          exact hK _ _ hb rfl
        -- 6: call fn37<locksmithref15.need> [4325522:i64, 9:i64] T[3, 3]
        · intro w1 hg Ar seen
          refine does_plain rfl fun K Q' hK => ?_
          go_simp
          refine (rneed_any _ _ _).mono ?_
          rintro e u ⟨rfl, hb⟩
          exact hK _ _ hb rfl
        -- 7: call fn37<locksmithref15.need> [4325389:i64, 2:i64] T[3, 3]
        · intro w1 hg Ar seen
          refine does_plain rfl fun K Q' hK => ?_
          go_simp
          refine (rneed_any _ _ _).mono ?_
          rintro e u ⟨rfl, hb⟩
          exact hK _ _ hb rfl
        -- 8: buildSlice 69 3 [(0, t38), (1, t39), (2, t40)]
        · intro w1 hg Ar seen
          obtain ⟨v5, e5, h5⟩ := seen.dep 5 (d := 38) (by kernel_rfl) (by kernel_rfl) rfl
          rcases h5 with rfl
          obtain ⟨v6, e6, h6⟩ := seen.dep 6 (d := 39) (by kernel_rfl) (by kernel_rfl) rfl
          rcases h6 with rfl
          obtain ⟨v7, e7, h7⟩ := seen.dep 7 (d := 40) (by kernel_rfl) (by kernel_rfl) rfl
          rcases h7 with rfl
          refine does_plain rfl fun K Q' hK => ?_
          refine wp_build_flds _ 67 3 _ rfl rHeadF rfl (by decide) (by decide) (by simp [Act.eval, e5, e6, e7]; rfl) (fldCells rHeadF).toArray (by simp) i Try.underlying69 hi hz0 hz1 (by kernel_rfl) ?_
          intro s hs
          exact hK _ _ ((Below.refl _ _).alloc (Nat.le_refl _) _) ⟨s, rfl, hs⟩
        -- 9: call fn36<locksmithref15.Parse> [t37, t41] T[27, 69]
        · intro w1 hg Ar seen
          obtain ⟨v4, e4, h4⟩ := seen.dep 4 (d := 37) (by kernel_rfl) (by kernel_rfl) rfl
          rcases h4 with rfl
          obtain ⟨v8, e8, h8⟩ := seen.dep 8 (d := 41) (by kernel_rfl) (by kernel_rfl) rfl
          refine does_plain rfl fun K Q' hK => ?_
          obtain ⟨sf, rfl, hsf⟩ := h8
          go_simp
          refine (refParse_any vh sf rHeadF _ (HO0.out.below hg) hsf (· < b) HF0.out).mono ?_
          intro e u hres
          obtain ⟨rfl, hb⟩ := parsedR_err hres hp2
          exact hK _ _ hb rfl
        -- 10: move t42
        · intro w1 hg Ar seen
          obtain ⟨v9, e9, h9⟩ := seen.dep 9 (d := 42) (by kernel_rfl) (by kernel_rfl) rfl
          rcases h9 with rfl
          refine does_plain rfl fun K Q' hK => ?_
          go_simp; exact hK _ _ (Grow.refl _) rfl
        -- 11: extract t32 0
        · intro w1 hg Ar seen
          obtain ⟨v10, e10, h10⟩ := seen.dep 10 (d := 32) (by kernel_rfl) (by kernel_rfl) rfl
          rcases h10 with rfl
          refine does_plain rfl fun K Q' hK => ?_
          go_simp; exact hK _ _ (Grow.refl _) rfl
        -- 12: extract t32 1
        · intro w1 hg Ar seen
          obtain ⟨v10, e10, h10⟩ := seen.dep 10 (d := 32) (by kernel_rfl) (by kernel_rfl) rfl
          rcases h10 with rfl
          refine does_plain rfl fun K Q' hK => ?_
          go_simp; exact hK _ _ (Grow.refl _) rfl
        -- 13: assign t43
        · intro w1 hg Ar seen
          obtain ⟨v11, e11, h11⟩ := seen.dep 11 (d := 43) (by kernel_rfl) (by kernel_rfl) rfl
          rcases h11 with rfl
          refine does_plain rfl fun K Q' hK => ?_
          go_simp; exact hK _ _ (Grow.refl _) rfl
        -- 14: assign t44
        · intro w1 hg Ar seen
          obtain ⟨v12, e12, h12⟩ := seen.dep 12 (d := 44) (by kernel_rfl) (by kernel_rfl) rfl
          rcases h12 with rfl
          refine does_plain rfl fun K Q' hK => ?_
          go_simp; exact hK _ _ (Grow.refl _) rfl
    intro w1 hg
    refine upon_w' (js := [0, 1, 2, 3, 4, 5, 6, 7, 8, 9, 10, 11, 12, 13, 14]) (by rfl) ?_
    refine upon_c (x := some 33) (by kernel_rfl) rfl fun v0 h0 => ?_
    rcases h0 with rfl
    refine upon_c (x := some 34) (by kernel_rfl) rfl fun v1 h1 => ?_
    rcases h1 with rfl
    refine upon_c (x := some 35) (by kernel_rfl) rfl fun v2 h2 => ?_
    rcases h2 with rfl
    refine upon_c (x := some 36) (by kernel_rfl) rfl fun v3 h3 => ?_
    rcases h3 with rfl
    refine upon_c (x := some 37) (by kernel_rfl) rfl fun v4 h4 => ?_
    rcases h4 with rfl
    refine upon_c (x := some 38) (by kernel_rfl) rfl fun v5 h5 => ?_
    rcases h5 with rfl
    refine upon_c (x := some 39) (by kernel_rfl) rfl fun v6 h6 => ?_
    rcases h6 with rfl
    refine upon_c (x := some 40) (by kernel_rfl) rfl fun v7 h7 => ?_
    rcases h7 with rfl
    refine upon_c (x := some 41) (by kernel_rfl) rfl fun v8 h8 => ?_
    refine upon_c (x := some 42) (by kernel_rfl) rfl fun v9 h9 => ?_
    rcases h9 with rfl
    refine upon_c (x := some 32) (by kernel_rfl) rfl fun v10 h10 => ?_
    rcases h10 with rfl
    refine upon_c (x := some 43) (by kernel_rfl) rfl fun v11 h11 => ?_
    rcases h11 with rfl
    refine upon_c (x := some 44) (by kernel_rfl) rfl fun v12 h12 => ?_
    rcases h12 with rfl
    refine upon_c (x := some 7) (by kernel_rfl) rfl fun v13 h13 => ?_
    rcases h13 with rfl
    refine upon_c (x := some 6) (by kernel_rfl) rfl fun v14 h14 => ?_
    rcases h14 with rfl
    refine upon_n ?_
    go_simp
    have B1 := hid (B.out.below hg)
    have HNB1 := hid ((hg.block _ (block_lt HNB.out)).trans HNB.out)
    have hc := parse_code hp2
    clear hg hp2 B HNB h8
    go_wp2_with (first | (refine wpList_load_row rfl 31 _ rfl nb rfl _ _ _ _ HNB1.out Try.underlying31 rfl pSize ?_) | (refine wpList_store_obj rfl 31 _ _ rfl (b + 1) rfl rpZ.arr rfl _ _ B1.out.res rfl pSize (parr_one _) ?_; intro w10 hb10 hc10 hs10; have HB10 := hid hb10; have HC10 := hid hc10; clear hb10 hc10 hs10))
    refine bodyPost_ret (results_cell_tmp rfl _ _ (b + 1) _ _ _ _ rfl HB10.out Try.underlying31 rfl pSize _ rfl) rfl ?_
    rw [HE.out]
    exact ⟨rfl, by rw [HBE.out]; exact B1.out.done HC10.out⟩
  refine wp_region_each 15 [.eq (.slice (some ⟨gm, 0, none⟩) 2 cm), .eq (.pointer (some ⟨gm, 0, none⟩)), .eq (.slice (some ⟨g0, o0, none⟩) s0.n s0.c), .eq (.pointer (some ⟨g0, o0, none⟩)), .eq (.agg vh.arr), .eq (.agg (needF 4325481 1).arr), .eq (.agg (needF 4325522 9).arr), .eq (.agg (needF 4325389 2).arr), stF rHeadF, stRowsTR (· < b) 25 27 (b + 2) h, stRowsTR (· < b) 25 27 (b + 2) h, stRowsR (· < b) 25 27 (b + 2) h, .eq (.int .i64 0), stRowsR (· < b) 25 27 (b + 2) h, .eq (.int .i64 0)] (by kernel_rfl) (by kernel_rfl) (by kernel_rfl) (by kernel_rfl) ?_ ?_
  · as_aux_lemma =>
      refine each_c (o' := _) ?_ (each_c (o' := _) ?_ (each_c (o' := _) ?_ (each_c (o' := _) ?_ (each_c (o' := _) ?_ (each_c (o' := _) ?_ (each_c (o' := _) ?_ (each_c (o' := _) ?_ (each_c (o' := _) ?_ (each_c (o' := _) ?_ (each_c (o' := _) ?_ (each_c (o' := _) ?_ (each_c (o' := _) ?_ (each_c (o' := _) ?_ (each_c (o' := _) ?_ (each_n)))))))))))))))
      -- 0: move t5
      · intro w1 hg Ar seen
        have s5 := seen.slot 5 (v := .slice (some ⟨gm, 0, none⟩) 2 cm) (by kernel_rfl) rfl
        refine does_plain rfl fun K Q' hK => ?_
        go_simp; exact hK _ _ (Grow.refl _) rfl
      -- 1: indexAddr 63 t33 0:i64
      · intro w1 hg Ar seen
        obtain ⟨v0, e0, h0⟩ := seen.dep 0 (d := 33) (by kernel_rfl) (by kernel_rfl) rfl
        rcases h0 with rfl
        refine does_plain rfl fun K Q' hK => ?_
        go_simp; exact hK _ _ (Grow.refl _) rfl
      -- 2: load 25 t34
      · intro w1 hg Ar seen
        obtain ⟨v1, e1, h1⟩ := seen.dep 1 (d := 34) (by kernel_rfl) (by kernel_rfl) rfl
        rcases h1 with rfl
        refine does_plain rfl fun K Q' hK => ?_
        have hc := cell_later hg HC0.out
        go_simp; exact hK _ _ (Grow.refl _) rfl
      -- 3: indexAddr 25 t35 0:i64
      · intro w1 hg Ar seen
        obtain ⟨v2, e2, h2⟩ := seen.dep 2 (d := 35) (by kernel_rfl) (by kernel_rfl) rfl
        rcases h2 with rfl
        refine does_plain rfl fun K Q' hK => ?_
        have hn := HN0.out
        go_simp; exact hK _ _ (Grow.refl _) rfl
      -- 4: load 27 t36
      · intro w1 hg Ar seen
        obtain ⟨v3, e3, h3⟩ := seen.dep 3 (d := 36) (by kernel_rfl) (by kernel_rfl) rfl
        rcases h3 with rfl
        refine does_plain rfl fun K Q' hK => ?_
        refine wp_load_mid 27 _ rfl g0 o0 (by simp [Act.eval, e3]) vh.arr.toList _ (range_later hg HR0.out) Try.underlying27 rfl iSize ?_
        exact hK _ _ (Grow.refl _) rfl
      -- 5: call fn37<locksmithref15.need> [4325481:i64, 1:i64] T[3, 3]
      · intro w1 hg Ar seen
        refine does_plain rfl fun K Q' hK => ?_
        go_simp
        refine (rneed_any _ _ _).mono ?_
        rintro e u ⟨rfl, hb⟩
        exact hK _ _ hb rfl
      -- 6: call fn37<locksmithref15.need> [4325522:i64, 9:i64] T[3, 3]
      · intro w1 hg Ar seen
        refine does_plain rfl fun K Q' hK => ?_
        go_simp
        refine (rneed_any _ _ _).mono ?_
        rintro e u ⟨rfl, hb⟩
        exact hK _ _ hb rfl
      -- 7: call fn37<locksmithref15.need> [4325389:i64, 2:i64] T[3, 3]
      · intro w1 hg Ar seen
        refine does_plain rfl fun K Q' hK => ?_
        go_simp
        refine (rneed_any _ _ _).mono ?_
        rintro e u ⟨rfl, hb⟩
        exact hK _ _ hb rfl
      -- 8: buildSlice 69 3 [(0, t38), (1, t39), (2, t40)]
      · intro w1 hg Ar seen
        obtain ⟨v5, e5, h5⟩ := seen.dep 5 (d := 38) (by kernel_rfl) (by kernel_rfl) rfl
        rcases h5 with rfl
        obtain ⟨v6, e6, h6⟩ := seen.dep 6 (d := 39) (by kernel_rfl) (by kernel_rfl) rfl
        rcases h6 with rfl
        obtain ⟨v7, e7, h7⟩ := seen.dep 7 (d := 40) (by kernel_rfl) (by kernel_rfl) rfl
        rcases h7 with rfl
        refine does_plain rfl fun K Q' hK => ?_
        refine wp_build_flds _ 67 3 _ rfl rHeadF rfl (by decide) (by decide) (by simp [Act.eval, e5, e6, e7]; rfl) (fldCells rHeadF).toArray (by simp) i Try.underlying69 hi hz0 hz1 (by kernel_rfl) ?_
        intro s hs
        exact hK _ _ ((Below.refl _ _).alloc (Nat.le_refl _) _) ⟨s, rfl, hs⟩
      -- 9: call fn36<locksmithref15.Parse> [t37, t41] T[27, 69]
      · intro w1 hg Ar seen
        obtain ⟨v4, e4, h4⟩ := seen.dep 4 (d := 37) (by kernel_rfl) (by kernel_rfl) rfl
        rcases h4 with rfl
        obtain ⟨v8, e8, h8⟩ := seen.dep 8 (d := 41) (by kernel_rfl) (by kernel_rfl) rfl
        refine does_plain rfl fun K Q' hK => ?_
        obtain ⟨sf, rfl, hsf⟩ := h8
        go_simp
        refine (refParse_any vh sf rHeadF _ (HO0.out.below hg) hsf (· < b) HF0.out).mono ?_
        intro e u hres
        obtain ⟨so, rfl, h1, hb⟩ := parsedR_ok hres hp2 (Nat.le_trans B.out.size hg.size)
        exact hK _ _ hb ⟨so, rfl, h1⟩
      -- 10: move t42
      · intro w1 hg Ar seen
        obtain ⟨v9, e9, h9⟩ := seen.dep 9 (d := 42) (by kernel_rfl) (by kernel_rfl) rfl
        refine does_plain rfl fun K Q' hK => ?_
        go_simp
        exact hK _ _ (Grow.refl _) h9
      -- 11: extract t32 0
      · intro w1 hg Ar seen
        obtain ⟨v10, e10, h10⟩ := seen.dep 10 (d := 32) (by kernel_rfl) (by kernel_rfl) rfl
        refine does_plain rfl fun K Q' hK => ?_
        obtain ⟨so, rfl, h1⟩ := h10
        go_simp
        exact hK _ _ (Grow.refl _) ⟨so, rfl, h1⟩
      -- 12: extract t32 1
      · intro w1 hg Ar seen
        obtain ⟨v10, e10, h10⟩ := seen.dep 10 (d := 32) (by kernel_rfl) (by kernel_rfl) rfl
        refine does_plain rfl fun K Q' hK => ?_
        obtain ⟨so, rfl, h1⟩ := h10
        go_simp; exact hK _ _ (Grow.refl _) rfl
      -- 13: assign t43
      · intro w1 hg Ar seen
        obtain ⟨v11, e11, h11⟩ := seen.dep 11 (d := 43) (by kernel_rfl) (by kernel_rfl) rfl
        refine does_plain rfl fun K Q' hK => ?_
        go_simp
        exact hK _ _ (Grow.refl _) h11
      -- 14: assign t44
      · intro w1 hg Ar seen
        obtain ⟨v12, e12, h12⟩ := seen.dep 12 (d := 44) (by kernel_rfl) (by kernel_rfl) rfl
        rcases h12 with rfl
        refine does_plain rfl fun K Q' hK => ?_
        go_simp; exact hK _ _ (Grow.refl _) rfl
  intro w1 hg
  refine upon_w' (js := [0, 1, 2, 3, 4, 5, 6, 7, 8, 9, 10, 11, 12, 13, 14]) (by rfl) ?_
  refine upon_c (x := some 33) (by kernel_rfl) rfl fun v0 h0 => ?_
  rcases h0 with rfl
  refine upon_c (x := some 34) (by kernel_rfl) rfl fun v1 h1 => ?_
  rcases h1 with rfl
  refine upon_c (x := some 35) (by kernel_rfl) rfl fun v2 h2 => ?_
  rcases h2 with rfl
  refine upon_c (x := some 36) (by kernel_rfl) rfl fun v3 h3 => ?_
  rcases h3 with rfl
  refine upon_c (x := some 37) (by kernel_rfl) rfl fun v4 h4 => ?_
  rcases h4 with rfl
  refine upon_c (x := some 38) (by kernel_rfl) rfl fun v5 h5 => ?_
  rcases h5 with rfl
  refine upon_c (x := some 39) (by kernel_rfl) rfl fun v6 h6 => ?_
  rcases h6 with rfl
  refine upon_c (x := some 40) (by kernel_rfl) rfl fun v7 h7 => ?_
  rcases h7 with rfl
  refine upon_c (x := some 41) (by kernel_rfl) rfl fun v8 h8 => ?_
  refine upon_c (x := some 42) (by kernel_rfl) rfl fun v9 h9 => ?_
  refine upon_c (x := some 32) (by kernel_rfl) rfl fun v10 h10 => ?_
  refine upon_c (x := some 43) (by kernel_rfl) rfl fun v11 h11 => ?_
  refine upon_c (x := some 44) (by kernel_rfl) rfl fun v12 h12 => ?_
  rcases h12 with rfl
  refine upon_c (x := some 7) (by kernel_rfl) rfl fun v13 h13 => ?_
  refine upon_c (x := some 6) (by kernel_rfl) rfl fun v14 h14 => ?_
  rcases h14 with rfl
  refine upon_n ?_
  go_simp
  obtain ⟨so, rfl, hrow⟩ := h13
  clear h8 h9 h10 h11
  have B1 := hid (B.out.below hg); have HNB1 := hid ((hg.block _ (block_lt HNB.out)).trans HNB.out)
  have HM' := hid (HM.out.below hg)
  have HRW := hid hrow
  clear hrow hg B HNB HM
  have B := B1; have HNB := HNB1
  clear B1 HNB1
  have HM := HM'
  clear HM'
  have hpr := parse_rows hp2
  obtain ⟨hrl, hneed⟩ := hpr
  obtain ⟨y0, y1, y2, rfl⟩ := rows3 hrl
  obtain ⟨x0, u0, hx0⟩ := hneed 0 _ rfl rfl
  obtain ⟨x1, u1, hx1⟩ := hneed 1 _ rfl rfl
  simp only [List.getElem?_cons_zero, List.getElem?_cons_succ, Option.some.injEq] at hx0 hx1
  subst hx0; subst hx1
  obtain ⟨gh, ch, rfl⟩ := HRW.out.ok.shape (by simp)
  have HH := HRW
  clear hrl hneed HRW HC0 HR0 HO0 HN0 HF0
  obtain ⟨s0, l0, g0, o0, vv, -, -, hc0, ha0, hn0, rfl, hr0, ho0, hf0⟩ := HH.out.hd (k := 0) rfl
  rw [ha0] at hc0
  have HC0 := hid hc0; have HR0 := hid hr0; have HO0 := hid ho0; have HN0 := hid hn0; have HF0 := hid hf0
  clear hc0 ha0 hr0 ho0 hn0 hf0
  go_upto_region 10 with (fail)
  have hq := HC0.out; have hn := HN0.out
  go_wp2_with (refine wpList_load_mid rfl 27 _ rfl g0 o0 rfl vv.arr.toList _ HR0.out Try.underlying27 rfl iSize ?_; simp only [Array.toArray_toList])
  clear hq hn
  refine (rversion_any vv _ HO0.out).mono ?_
  rintro e W3 ⟨rfl, hb⟩
  have B3 := hid (B.out.below hb); have HNB3 := hid ((hb.block _ (block_lt HNB.out)).trans HNB.out)
  have HM3 := hid (HM.out.below hb); have HH3 := hid (HH.out.below hb)
  clear hb B HNB HM HH HC0 HR0 HO0 HN0 HF0
  rcases hp3 : parseV rVerF vv.it with c | n
  · have HE := hid (readRs_v HT.out hp1 hp2 hp3)
    have hc := parse_code hp3
    rw [verV_err hp3]
    clear hp1 hp2 hp3
    go_wp2_with (first | (refine wpList_load_row rfl 31 _ rfl nb rfl _ _ _ _ HNB3.out Try.underlying31 rfl pSize ?_) | (refine wpList_store_obj rfl 31 _ _ rfl (b + 1) rfl rpZ.arr rfl _ _ B3.out.res rfl pSize (parr_one _) ?_; intro w10 hb10 hc10 hs10; have HB10 := hid hb10; have HC10 := hid hc10; clear hb10 hc10 hs10))
    refine bodyPost_ret (results_cell_tmp rfl _ _ (b + 1) _ _ _ _ rfl HB10.out Try.underlying31 rfl pSize _ rfl) rfl ?_
    rw [HE.out]
    exact ⟨rfl, by rw [HBE.out]; exact B3.out.done HC10.out⟩
  have hpr := parse_rows hp3
  obtain ⟨hrl, -⟩ := hpr
  obtain ⟨z0, z1, rfl⟩ := rows2 hrl
  rw [verV_ok hp3]
  clear hrl
  obtain ⟨sx, lx, gt, ot, vt, -, -, hct, hat, hnt, rfl, hrt, -, -⟩ := HH3.out.hd (k := 1) rfl
  obtain ⟨se, le, hme, hse, hce, -, -⟩ := HH3.out.an (k := 2) rfl
  obtain ⟨sm, lm, hm1, hs1, hc1, hn1, hall1⟩ := HM3.out.an (k := 1) rfl
  rw [hat] at hct
  have HME := hid hme; have HSE := hid hse; have HCE := hid hce
  have HMm := hid hm1; have HSm := hid hs1; have HCm := hid hc1; have HNm := hid hn1; have HAm := hid hall1
  have HRV := hid (fun (l : List RsI) => readRs_q (l := l) HT.out hp1 hp2 hp3)
  have HRE := hid (fun (c : Int) => readRs_i (c := c) HT.out hp1 hp2 hp3)
  simp only [List.getD_cons_zero, List.getD_cons_succ] at HRV HRE
  have htm : (firstI (vt.it :: u1)).int = vt.int := by unfold firstI; rw [List.headD_cons, ItV.it_eq]
  rw [htm] at HRV
  obtain ⟨tm, htm2⟩ : ∃ t, vt.int = t := ⟨_, rfl⟩
  have hk2 := range_cell hrt 2 (v := .int .i64 vt.int) rfl
  rw [htm2] at HRV hk2
  obtain ⟨j0, hq⟩ : ∃ n, numV z0 0 = n := ⟨_, rfl⟩
  rw [hq] at HRV ⊢
  clear hq
  obtain ⟨j1, hq⟩ : ∃ n, numV z1 0 = n := ⟨_, rfl⟩
  rw [hq] at HRV ⊢
  clear hq
  obtain ⟨j4, hq⟩ : ∃ n, numV y2 0 = n := ⟨_, rfl⟩
  have EN4 : Hid (numV (le.map ItV.it) 0 = j4) := by show _ = _; rw [HME.out]; exact hq
  rw [hq] at HRV
  clear hq hme hse hce hm1 hs1 hc1 hn1 hall1 HM3 HH3 hp1 hp2 hp3 HTG HT htm htm2 hrt hat
  go_upto_region 13 with (fail)
  obtain ⟨z, hzw⟩ : ∃ z, z = W3.heap.size := ⟨_, rfl⟩
  have HZW := hid hzw
  have HBZ : Hid (b + 2 ≤ z) := by show _ ≤ _; rw [hzw]; exact B3.out.size
  clear hzw
  go_upto_region 14 with (first | (refine wpList_build_obj rfl 31 _ rfl #[(0, .int .i64 tm)] rfl _ (pBuild1 tm _) ?_) | (refine wpList_alloc_obj rfl 31 rfl _ pZero ?_) | (refine wpList_store_obj rfl 31 _ _ rfl W3.heap.size rfl (RsV.arr { time := tm }) rfl _ _ (block_new W3 _) rfl pSize (parr_one _) ?_; intro w4 hb4 hc4 hs4; have HB4 := hid hb4; have HC4 := hid hc4; clear hb4 hc4 hs4))
  clear hct hk2 hnt
  have hbel : Below W3.heap.size W3 w4 := ((Below.refl _ W3).alloc (Nat.le_refl _) _).trans (HC4.out.below (fun k hk => by rw [List.mem_singleton.1 hk]; exact Nat.le_refl _) (by simp))
  have HBW : Hid (Below z W3 w4) := by show Below z W3 w4; rw [HZW.out]; exact hbel
  have hps : W3.heap.size < w4.heap.size := block_lt HB4.out
  obtain ⟨p, hpz⟩ : ∃ p, p = W3.heap.size := ⟨_, rfl⟩
  have HZP : Hid (z ≤ p) := by show z ≤ p; rw [HZW.out, hpz]; exact Nat.le_refl _
  obtain ⟨z4, hz4⟩ : ∃ z, z = w4.heap.size := ⟨_, rfl⟩
  have HZ4 := hid hz4
  have HPZ : Hid (p < z4) := by show p < z4; rw [hz4, hpz]; exact hps
  rw [← hpz] at HB4 ⊢
  clear hbel hps hz4 HC4 HME hpz
  obtain ⟨ka, kn, kc⟩ := sm
  have hnn : kn ≤ 1000000 := by have h1 := HNm.out; have h2 := HK6.out; simp only at h1; omega
  have HKN : Hid (lm.length = kn) := HSm.out.klen
  clear HNm
  go_wp2_with fail
  go_loopw [11] (fun y wr => ∃ (k : Nat) (s : Sl) (lq : List RsIV), k ≤ kn ∧ y = .int .i64 k ∧ s.n = k ∧ readRsIs (m1.take k) = .ok (lq.map RsIV.rq) ∧ Below z W3 wr ∧ z4 ≤ wr.heap.size ∧ OwnRs 44 wr z4 s lq ∧ (∀ x ∈ lq, ∀ k ∈ x.foot, k < b) ∧ wr.heap[p]? = some (.cells (RsV.arr { time := tm, its := s, items := lq }) 31 (0, 0))) (fun y _ => kn - (intOf y).toNat)
  case atStart => exact ⟨0, {}, [], Nat.zero_le _, rfl, rfl, rfl, HBW.out, by rw [HZ4.out]; exact Nat.le_refl _, OwnRs.nil _ _ _, by simp, HB4.out⟩
  case round =>
    clear HBW HB4
    obtain ⟨k, s, lq, hk, rfl, hsk, hri, hbw, hzw, ho, hpf, hpb⟩ := hrel
    have HBW := hid hbw; have HZW4 := hid hzw; have HO := hid ho; have HPF := hid hpf; have HPB := hid hpb; have HRI := hid hri; have HSK := hid hsk
    clear hbw hzw ho hpf hpb hri hsk
    have hbr : Below W3.heap.size W3 wr := by rw [← HZW.out]; exact HBW.out
    have HBR := hid hbr
    have hcm := cell_later hbr HCm.out
    clear hbr
    by_cases hlt : k < kn
    · obtain ⟨bx, ox, x, hax, hx, hrow⟩ := (HSm.out.below HBR.out).row (k := k) hlt
      simp only at hax
      subst hax
      have HCM2 := hid hcm
      have HXM : Hid (m1[k]? = some x.it) := by
        show _ = _
        rw [← HMm.out, List.getElem?_map, hx]; rfl
      have HX := hid (((HAm.out x (List.mem_of_getElem? hx)).1).below HBR.out)
      have HXF := hid ((HAm.out x (List.mem_of_getElem? hx)).2)
      have HR := hid hrow
      clear hx hrow
      go_upto_region 17 with (fail)
      clear hcm
      have HRX : Hid (readRsI x.it = match parseV rItemF x.it with
        | .error c => .error c
        | .ok r => .ok { op := numV (r.getD 0 []) 0, hasOp := !(r.getD 0 []).isEmpty, hasId := !(r.getD 1 []).isEmpty, id := (firstI (r.getD 1 [])).data, status := numV (r.getD 2 []) 0, reason := numV (r.getD 3 []) 0, msg := ⟨(firstI (r.getD 4 [])).data.toArray⟩, pay := firstI (r.getD 5 []), hasPay := !(r.getD 5 []).isEmpty }) := rfl
      have HB5 := hid (B3.out.below HBR.out); have HN5 := hid ((HBR.out.block _ (block_lt HNB3.out)).trans HNB3.out)
      rcases hpx : parseV rItemF x.it with c | r
      · rw [hpx] at HRX
        refine wp_region_each 19 [.eq (.slice (some ⟨gm, 0, none⟩) 2 cm), .eq (.pointer (some ⟨gm, 1, none⟩)), .eq (.slice (some ⟨bx, ox, none⟩) kn kc), .eq (.int .i64 (k : Int)), .eq (.pointer (some ⟨bx, ox + k * 5, none⟩)), .eq (.agg x.arr), .eq (.agg (maybeF 4325468 5).arr), .eq (.agg (maybeF 4325523 8).arr), .eq (.agg (needF 4325503 5).arr), .eq (.agg (maybeF 4325502 5).arr), .eq (.agg (maybeF 4325501 7).arr), .eq (.agg (maybeF 4325500 1).arr), stF rItemF, .eq (.tuple #[.slice none 0 0, .int .i64 c]), .eq (.tuple #[.slice none 0 0, .int .i64 c]), .eq (.slice none 0 0), .eq (.int .i64 c), .eq (.slice none 0 0), .eq (.int .i64 c)] (by kernel_rfl) (by kernel_rfl) (by kernel_rfl) (by kernel_rfl) ?_ ?_
        · as_aux_lemma =>
            refine each_c (o' := _) ?_ (each_c (o' := _) ?_ (each_c (o' := _) ?_ (each_c (o' := _) ?_ (each_c (o' := _) ?_ (each_c (o' := _) ?_ (each_c (o' := _) ?_ (each_c (o' := _) ?_ (each_c (o' := _) ?_ (each_c (o' := _) ?_ (each_c (o' := _) ?_ (each_c (o' := _) ?_ (each_c (o' := _) ?_ (each_c (o' := _) ?_ (each_c (o' := _) ?_ (each_c (o' := _) ?_ (each_c (o' := _) ?_ (each_c (o' := _) ?_ (each_c (o' := _) ?_ (each_n)))))))))))))))))))
            -- 0: move t5
            · intro w1 hg Ar seen
              have s5 := seen.slot 5 (v := .slice (some ⟨gm, 0, none⟩) 2 cm) (by kernel_rfl) rfl
              refine does_plain rfl fun K Q' hK => ?_
              go_simp; exact hK _ _ (Grow.refl _) rfl
            -- 1: indexAddr 63 t79 1:i64
            · intro w1 hg Ar seen
              obtain ⟨v0, e0, h0⟩ := seen.dep 0 (d := 79) (by kernel_rfl) (by kernel_rfl) rfl
              rcases h0 with rfl
              refine does_plain rfl fun K Q' hK => ?_
              go_simp; exact hK _ _ (Grow.refl _) rfl
            -- 2: load 25 t80
            · intro w1 hg Ar seen
              obtain ⟨v1, e1, h1⟩ := seen.dep 1 (d := 80) (by kernel_rfl) (by kernel_rfl) rfl
              rcases h1 with rfl
              refine does_plain rfl fun K Q' hK => ?_
              have hc := cell_later hg HCM2.out
              go_simp; exact hK _ _ (Grow.refl _) rfl
            -- 3: move t11
            · intro w1 hg Ar seen
              have s11 := seen.slot 11 (v := .int .i64 (k : Int)) (by kernel_rfl) rfl
              refine does_plain rfl fun K Q' hK => ?_
              go_simp; exact hK _ _ (Grow.refl _) rfl
            -- 4: indexAddr 25 t81 t82
            · intro w1 hg Ar seen
              obtain ⟨v2, e2, h2⟩ := seen.dep 2 (d := 81) (by kernel_rfl) (by kernel_rfl) rfl
              rcases h2 with rfl
              obtain ⟨v3, e3, h3⟩ := seen.dep 3 (d := 82) (by kernel_rfl) (by kernel_rfl) rfl
              rcases h3 with rfl
              refine does_plain rfl fun K Q' hK => ?_
              go_simp; exact hK _ _ (Grow.refl _) rfl
            -- 5: load 27 t83
            · intro w1 hg Ar seen
              obtain ⟨v4, e4, h4⟩ := seen.dep 4 (d := 83) (by kernel_rfl) (by kernel_rfl) rfl
              rcases h4 with rfl
              refine does_plain rfl fun K Q' hK => ?_
              refine wp_load_mid 27 _ rfl bx (ox + k * 5) (by simp [Act.eval, e4]) x.arr.toList _ (range_later hg HR.out) Try.underlying27 rfl iSize ?_
              exact hK _ _ (Grow.refl _) rfl
            -- 6: call fn40<locksmithref15.maybe> [4325468:i64, 5:i64] T[3, 3]
            · intro w1 hg Ar seen
              refine does_plain rfl fun K Q' hK => ?_
              go_simp
              refine (rmaybe_any _ _ _).mono ?_
              rintro e u ⟨rfl, hb⟩
              exact hK _ _ hb rfl
            -- 7: call fn40<locksmithref15.maybe> [4325523:i64, 8:i64] T[3, 3]
            · intro w1 hg Ar seen
              refine does_plain rfl fun K Q' hK => ?_
              go_simp
              refine (rmaybe_any _ _ _).mono ?_
              rintro e u ⟨rfl, hb⟩
              exact hK _ _ hb rfl
            -- 8: call fn37<locksmithref15.need> [4325503:i64, 5:i64] T[3, 3]
            · intro w1 hg Ar seen
              refine does_plain rfl fun K Q' hK => ?_
              go_simp
              refine (rneed_any _ _ _).mono ?_
              rintro e u ⟨rfl, hb⟩
              exact hK _ _ hb rfl
            -- 9: call fn40<locksmithref15.maybe> [4325502:i64, 5:i64] T[3, 3]
            · intro w1 hg Ar seen
              refine does_plain rfl fun K Q' hK => ?_
              go_simp
              refine (rmaybe_any _ _ _).mono ?_
              rintro e u ⟨rfl, hb⟩
              exact hK _ _ hb rfl
            -- 10: call fn40<locksmithref15.maybe> [4325501:i64, 7:i64] T[3, 3]
            · intro w1 hg Ar seen
              refine does_plain rfl fun K Q' hK => ?_
              go_simp
              refine (rmaybe_any _ _ _).mono ?_
              rintro e u ⟨rfl, hb⟩
              exact hK _ _ hb rfl
            -- 11: call fn40<locksmithref15.maybe> [4325500:i64, 1:i64] T[3, 3]
            · intro w1 hg Ar seen
              refine does_plain rfl fun K Q' hK => ?_
              go_simp
              refine (rmaybe_any _ _ _).mono ?_
              rintro e u ⟨rfl, hb⟩
              exact hK _ _ hb rfl
            -- 12: buildSlice 69 6 [(0, t85), (1, t86), (2, t87), (3, t88), (4, t89), (5, t90)]
            · intro w1 hg Ar seen
              obtain ⟨v6, e6, h6⟩ := seen.dep 6 (d := 85) (by kernel_rfl) (by kernel_rfl) rfl
              rcases h6 with rfl
              obtain ⟨v7, e7, h7⟩ := seen.dep 7 (d := 86) (by kernel_rfl) (by kernel_rfl) rfl
              rcases h7 with rfl
              obtain ⟨v8, e8, h8⟩ := seen.dep 8 (d := 87) (by kernel_rfl) (by kernel_rfl) rfl
              rcases h8 with rfl
              obtain ⟨v9, e9, h9⟩ := seen.dep 9 (d := 88) (by kernel_rfl) (by kernel_rfl) rfl
              rcases h9 with rfl
              obtain ⟨v10, e10, h10⟩ := seen.dep 10 (d := 89) (by kernel_rfl) (by kernel_rfl) rfl
              rcases h10 with rfl
              obtain ⟨v11, e11, h11⟩ := seen.dep 11 (d := 90) (by kernel_rfl) (by kernel_rfl) rfl
              rcases h11 with rfl
              refine does_plain rfl fun K Q' hK => ?_
              refine wp_build_flds _ 67 6 _ rfl rItemF rfl (by decide) (by decide) (by simp [Act.eval, e6, e7, e8, e9, e10, e11]; rfl) (fldCells rItemF).toArray (by simp) i Try.underlying69 hi hz0 hz1 (by kernel_rfl) ?_
              intro s hs
              exact hK _ _ ((Below.refl _ _).alloc (Nat.le_refl _) _) ⟨s, rfl, hs⟩
            -- 13: call fn36<locksmithref15.Parse> [t84, t91] T[27, 69]
            · intro w1 hg Ar seen
              obtain ⟨v5, e5, h5⟩ := seen.dep 5 (d := 84) (by kernel_rfl) (by kernel_rfl) rfl
              rcases h5 with rfl
              obtain ⟨v12, e12, h12⟩ := seen.dep 12 (d := 91) (by kernel_rfl) (by kernel_rfl) rfl
              refine does_plain rfl fun K Q' hK => ?_
              obtain ⟨sf, rfl, hsf⟩ := h12
              go_simp
              refine (refParse_any x sf rItemF _ (HX.out.below hg) hsf (· < b) HXF.out).mono ?_
              intro e u hres
              obtain ⟨rfl, hb⟩ := parsedR_err hres hpx
              exact hK _ _ hb rfl
            -- 14: move t92
            · intro w1 hg Ar seen
              obtain ⟨v13, e13, h13⟩ := seen.dep 13 (d := 92) (by kernel_rfl) (by kernel_rfl) rfl
              rcases h13 with rfl
              refine does_plain rfl fun K Q' hK => ?_
              go_simp; exact hK _ _ (Grow.refl _) rfl
            -- 15: extract t78 0
            · intro w1 hg Ar seen
              obtain ⟨v14, e14, h14⟩ := seen.dep 14 (d := 78) (by kernel_rfl) (by kernel_rfl) rfl
              rcases h14 with rfl
              refine does_plain rfl fun K Q' hK => ?_
              go_simp; exact hK _ _ (Grow.refl _) rfl
            -- 16: extract t78 1
            · intro w1 hg Ar seen
              obtain ⟨v14, e14, h14⟩ := seen.dep 14 (d := 78) (by kernel_rfl) (by kernel_rfl) rfl
              rcases h14 with rfl
              refine does_plain rfl fun K Q' hK => ?_
              go_simp; exact hK _ _ (Grow.refl _) rfl
            -- 17: assign t93
            · intro w1 hg Ar seen
              obtain ⟨v15, e15, h15⟩ := seen.dep 15 (d := 93) (by kernel_rfl) (by kernel_rfl) rfl
              rcases h15 with rfl
              refine does_plain rfl fun K Q' hK => ?_
              go_simp; exact hK _ _ (Grow.refl _) rfl
            -- 18: assign t94
            · intro w1 hg Ar seen
              obtain ⟨v16, e16, h16⟩ := seen.dep 16 (d := 94) (by kernel_rfl) (by kernel_rfl) rfl
              rcases h16 with rfl
              refine does_plain rfl fun K Q' hK => ?_
              go_simp; exact hK _ _ (Grow.refl _) rfl
        intro w1 hg
        refine upon_w' (js := [0, 1, 2, 3, 4, 5, 6, 7, 8, 9, 10, 11, 12, 13, 14, 15, 16, 17, 18]) (by rfl) ?_
        refine upon_c (x := some 79) (by kernel_rfl) rfl fun v0 h0 => ?_
        rcases h0 with rfl
        refine upon_c (x := some 80) (by kernel_rfl) rfl fun v1 h1 => ?_
        rcases h1 with rfl
        refine upon_c (x := some 81) (by kernel_rfl) rfl fun v2 h2 => ?_
        rcases h2 with rfl
        refine upon_c (x := some 82) (by kernel_rfl) rfl fun v3 h3 => ?_
        rcases h3 with rfl
        refine upon_c (x := some 83) (by kernel_rfl) rfl fun v4 h4 => ?_
        rcases h4 with rfl
        refine upon_c (x := some 84) (by kernel_rfl) rfl fun v5 h5 => ?_
        rcases h5 with rfl
        refine upon_c (x := some 85) (by kernel_rfl) rfl fun v6 h6 => ?_
        rcases h6 with rfl
        refine upon_c (x := some 86) (by kernel_rfl) rfl fun v7 h7 => ?_
        rcases h7 with rfl
        refine upon_c (x := some 87) (by kernel_rfl) rfl fun v8 h8 => ?_
        rcases h8 with rfl
        refine upon_c (x := some 88) (by kernel_rfl) rfl fun v9 h9 => ?_
        rcases h9 with rfl
        refine upon_c (x := some 89) (by kernel_rfl) rfl fun v10 h10 => ?_
        rcases h10 with rfl
        refine upon_c (x := some 90) (by kernel_rfl) rfl fun v11 h11 => ?_
        rcases h11 with rfl
        refine upon_c (x := some 91) (by kernel_rfl) rfl fun v12 h12 => ?_
        refine upon_c (x := some 92) (by kernel_rfl) rfl fun v13 h13 => ?_
        rcases h13 with rfl
        refine upon_c (x := some 78) (by kernel_rfl) rfl fun v14 h14 => ?_
        rcases h14 with rfl
        refine upon_c (x := some 93) (by kernel_rfl) rfl fun v15 h15 => ?_
        rcases h15 with rfl
        refine upon_c (x := some 94) (by kernel_rfl) rfl fun v16 h16 => ?_
        rcases h16 with rfl
        refine upon_c (x := some 12) (by kernel_rfl) rfl fun v17 h17 => ?_
        rcases h17 with rfl
        refine upon_c (x := some 13) (by kernel_rfl) rfl fun v18 h18 => ?_
        rcases h18 with rfl
        refine upon_n ?_
        go_simp
        have HE := hid (HRE.out c ((readRsIs_one HRI.out HXM.out).2 c HRX.out))
        have B6 := hid (HB5.out.below hg); have HN6 := hid ((hg.block _ (block_lt HN5.out)).trans HN5.out)
        have hc := parse_code hpx
        clear hg hpx HB5 HN5 h12
        go_wp2_with (first | (refine wpList_load_row rfl 31 _ rfl nb rfl _ _ _ _ HN6.out Try.underlying31 rfl pSize ?_) | (refine wpList_store_obj rfl 31 _ _ rfl (b + 1) rfl rpZ.arr rfl _ _ B6.out.res rfl pSize (parr_one _) ?_; intro w10 hb10 hc10 hs10; have HB10 := hid hb10; have HC10 := hid hc10; clear hb10 hc10 hs10))
        refine bodyPost_ret (results_cell_tmp rfl _ _ (b + 1) _ _ _ _ rfl HB10.out Try.underlying31 rfl pSize _ rfl) rfl ?_
        rw [HE.out]
        exact ⟨rfl, by rw [HBE.out]; exact B6.out.done HC10.out⟩
      rw [hpx] at HRX
      refine wp_region_each 19 [.eq (.slice (some ⟨gm, 0, none⟩) 2 cm), .eq (.pointer (some ⟨gm, 1, none⟩)), .eq (.slice (some ⟨bx, ox, none⟩) kn kc), .eq (.int .i64 (k : Int)), .eq (.pointer (some ⟨bx, ox + k * 5, none⟩)), .eq (.agg x.arr), .eq (.agg (maybeF 4325468 5).arr), .eq (.agg (maybeF 4325523 8).arr), .eq (.agg (needF 4325503 5).arr), .eq (.agg (maybeF 4325502 5).arr), .eq (.agg (maybeF 4325501 7).arr), .eq (.agg (maybeF 4325500 1).arr), stF rItemF, stRowsTR (· < b) 25 27 0 r, stRowsTR (· < b) 25 27 0 r, stRowsR (· < b) 25 27 0 r, .eq (.int .i64 0), stRowsR (· < b) 25 27 0 r, .eq (.int .i64 0)] (by kernel_rfl) (by kernel_rfl) (by kernel_rfl) (by kernel_rfl) ?_ ?_
      · as_aux_lemma =>
          refine each_c (o' := _) ?_ (each_c (o' := _) ?_ (each_c (o' := _) ?_ (each_c (o' := _) ?_ (each_c (o' := _) ?_ (each_c (o' := _) ?_ (each_c (o' := _) ?_ (each_c (o' := _) ?_ (each_c (o' := _) ?_ (each_c (o' := _) ?_ (each_c (o' := _) ?_ (each_c (o' := _) ?_ (each_c (o' := _) ?_ (each_c (o' := _) ?_ (each_c (o' := _) ?_ (each_c (o' := _) ?_ (each_c (o' := _) ?_ (each_c (o' := _) ?_ (each_c (o' := _) ?_ (each_n)))))))))))))))))))
          -- 0: move t5
          · intro w1 hg Ar seen
            have s5 := seen.slot 5 (v := .slice (some ⟨gm, 0, none⟩) 2 cm) (by kernel_rfl) rfl
            refine does_plain rfl fun K Q' hK => ?_
            go_simp; exact hK _ _ (Grow.refl _) rfl
          -- 1: indexAddr 63 t79 1:i64
          · intro w1 hg Ar seen
            obtain ⟨v0, e0, h0⟩ := seen.dep 0 (d := 79) (by kernel_rfl) (by kernel_rfl) rfl
            rcases h0 with rfl
            refine does_plain rfl fun K Q' hK => ?_
            go_simp; exact hK _ _ (Grow.refl _) rfl
          -- 2: load 25 t80
          · intro w1 hg Ar seen
            obtain ⟨v1, e1, h1⟩ := seen.dep 1 (d := 80) (by kernel_rfl) (by kernel_rfl) rfl
            rcases h1 with rfl
            refine does_plain rfl fun K Q' hK => ?_
            have hc := cell_later hg HCM2.out
            go_simp; exact hK _ _ (Grow.refl _) rfl
          -- 3: move t11
          · intro w1 hg Ar seen
            have s11 := seen.slot 11 (v := .int .i64 (k : Int)) (by kernel_rfl) rfl
            refine does_plain rfl fun K Q' hK => ?_
            go_simp; exact hK _ _ (Grow.refl _) rfl
          -- 4: indexAddr 25 t81 t82
          · intro w1 hg Ar seen
            obtain ⟨v2, e2, h2⟩ := seen.dep 2 (d := 81) (by kernel_rfl) (by kernel_rfl) rfl
            rcases h2 with rfl
            obtain ⟨v3, e3, h3⟩ := seen.dep 3 (d := 82) (by kernel_rfl) (by kernel_rfl) rfl
            rcases h3 with rfl
            refine does_plain rfl fun K Q' hK => ?_
            go_simp; exact hK _ _ (Grow.refl _) rfl
          -- 5: load 27 t83
          · intro w1 hg Ar seen
            obtain ⟨v4, e4, h4⟩ := seen.dep 4 (d := 83) (by kernel_rfl) (by kernel_rfl) rfl
            rcases h4 with rfl
            refine does_plain rfl fun K Q' hK => ?_
            refine wp_load_mid 27 _ rfl bx (ox + k * 5) (by simp [Act.eval, e4]) x.arr.toList _ (range_later hg HR.out) Try.underlying27 rfl iSize ?_
            exact hK _ _ (Grow.refl _) rfl
          -- 6: call fn40<locksmithref15.maybe> [4325468:i64, 5:i64] T[3, 3]
          · intro w1 hg Ar seen
            refine does_plain rfl fun K Q' hK => ?_
            go_simp
            refine (rmaybe_any _ _ _).mono ?_
            rintro e u ⟨rfl, hb⟩
            exact hK _ _ hb rfl
          -- 7: call fn40<locksmithref15.maybe> [4325523:i64, 8:i64] T[3, 3]
          · intro w1 hg Ar seen
            refine does_plain rfl fun K Q' hK => ?_
            go_simp
            refine (rmaybe_any _ _ _).mono ?_
            rintro e u ⟨rfl, hb⟩
            exact hK _ _ hb rfl
          -- 8: call fn37<locksmithref15.need> [4325503:i64, 5:i64] T[3, 3]
          · intro w1 hg Ar seen
            refine does_plain rfl fun K Q' hK => ?_
            go_simp
            refine (rneed_any _ _ _).mono ?_
            rintro e u ⟨rfl, hb⟩
            exact hK _ _ hb rfl
          -- 9: call fn40<locksmithref15.maybe> [4325502:i64, 5:i64] T[3, 3]
          · intro w1 hg Ar seen
            refine does_plain rfl fun K Q' hK => ?_
            go_simp
            refine (rmaybe_any _ _ _).mono ?_
            rintro e u ⟨rfl, hb⟩
            exact hK _ _ hb rfl
          -- 10: call fn40<locksmithref15.maybe> [4325501:i64, 7:i64] T[3, 3]
          · intro w1 hg Ar seen
            refine does_plain rfl fun K Q' hK => ?_
            go_simp
            refine (rmaybe_any _ _ _).mono ?_
            rintro e u ⟨rfl, hb⟩
            exact hK _ _ hb rfl
          -- 11: call fn40<locksmithref15.maybe> [4325500:i64, 1:i64] T[3, 3]
          · intro w1 hg Ar seen
            refine does_plain rfl fun K Q' hK => ?_
            go_simp
            refine (rmaybe_any _ _ _).mono ?_
            rintro e u ⟨rfl, hb⟩
            exact hK _ _ hb rfl
          -- 12: buildSlice 69 6 [(0, t85), (1, t86), (2, t87), (3, t88), (4, t89), (5, t90)]
          · intro w1 hg Ar seen
            obtain ⟨v6, e6, h6⟩ := seen.dep 6 (d := 85) (by kernel_rfl) (by kernel_rfl) rfl
            rcases h6 with rfl
            obtain ⟨v7, e7, h7⟩ := seen.dep 7 (d := 86) (by kernel_rfl) (by kernel_rfl) rfl
            rcases h7 with rfl
            obtain ⟨v8, e8, h8⟩ := seen.dep 8 (d := 87) (by kernel_rfl) (by kernel_rfl) rfl
            rcases h8 with rfl
            obtain ⟨v9, e9, h9⟩ := seen.dep 9 (d := 88) (by kernel_rfl) (by kernel_rfl) rfl
            rcases h9 with rfl
            obtain ⟨v10, e10, h10⟩ := seen.dep 10 (d := 89) (by kernel_rfl) (by kernel_rfl) rfl
            rcases h10 with rfl
            obtain ⟨v11, e11, h11⟩ := seen.dep 11 (d := 90) (by kernel_rfl) (by kernel_rfl) rfl
            rcases h11 with rfl
            refine does_plain rfl fun K Q' hK => ?_
            refine wp_build_flds _ 67 6 _ rfl rItemF rfl (by decide) (by decide) (by simp [Act.eval, e6, e7, e8, e9, e10, e11]; rfl) (fldCells rItemF).toArray (by simp) i Try.underlying69 hi hz0 hz1 (by kernel_rfl) ?_
            intro s hs
            exact hK _ _ ((Below.refl _ _).alloc (Nat.le_refl _) _) ⟨s, rfl, hs⟩
          -- 13: call fn36<locksmithref15.Parse> [t84, t91] T[27, 69]
          · intro w1 hg Ar seen
            obtain ⟨v5, e5, h5⟩ := seen.dep 5 (d := 84) (by kernel_rfl) (by kernel_rfl) rfl
            rcases h5 with rfl
            obtain ⟨v12, e12, h12⟩ := seen.dep 12 (d := 91) (by kernel_rfl) (by kernel_rfl) rfl
            refine does_plain rfl fun K Q' hK => ?_
            obtain ⟨sf, rfl, hsf⟩ := h12
            go_simp
            refine (refParse_any x sf rItemF _ (HX.out.below hg) hsf (· < b) HXF.out).mono ?_
            intro e u hres
            obtain ⟨so, rfl, h1, hb⟩ := parsedR_ok hres hpx (Nat.le_trans (Nat.zero_le _) hg.size)
            exact hK _ _ hb ⟨so, rfl, h1⟩
          -- 14: move t92
          · intro w1 hg Ar seen
            obtain ⟨v13, e13, h13⟩ := seen.dep 13 (d := 92) (by kernel_rfl) (by kernel_rfl) rfl
            refine does_plain rfl fun K Q' hK => ?_
            go_simp
            exact hK _ _ (Grow.refl _) h13
          -- 15: extract t78 0
          · intro w1 hg Ar seen
            obtain ⟨v14, e14, h14⟩ := seen.dep 14 (d := 78) (by kernel_rfl) (by kernel_rfl) rfl
            refine does_plain rfl fun K Q' hK => ?_
            obtain ⟨so, rfl, h1⟩ := h14
            go_simp
            exact hK _ _ (Grow.refl _) ⟨so, rfl, h1⟩
          -- 16: extract t78 1
          · intro w1 hg Ar seen
            obtain ⟨v14, e14, h14⟩ := seen.dep 14 (d := 78) (by kernel_rfl) (by kernel_rfl) rfl
            refine does_plain rfl fun K Q' hK => ?_
            obtain ⟨so, rfl, h1⟩ := h14
            go_simp; exact hK _ _ (Grow.refl _) rfl
          -- 17: assign t93
          · intro w1 hg Ar seen
            obtain ⟨v15, e15, h15⟩ := seen.dep 15 (d := 93) (by kernel_rfl) (by kernel_rfl) rfl
            refine does_plain rfl fun K Q' hK => ?_
            go_simp
            exact hK _ _ (Grow.refl _) h15
          -- 18: assign t94
          · intro w1 hg Ar seen
            obtain ⟨v16, e16, h16⟩ := seen.dep 16 (d := 94) (by kernel_rfl) (by kernel_rfl) rfl
            rcases h16 with rfl
            refine does_plain rfl fun K Q' hK => ?_
            go_simp; exact hK _ _ (Grow.refl _) rfl
      intro w1 hg
      refine upon_w' (js := [0, 1, 2, 3, 4, 5, 6, 7, 8, 9, 10, 11, 12, 13, 14, 15, 16, 17, 18]) (by rfl) ?_
      refine upon_c (x := some 79) (by kernel_rfl) rfl fun v0 h0 => ?_
      rcases h0 with rfl
      refine upon_c (x := some 80) (by kernel_rfl) rfl fun v1 h1 => ?_
      rcases h1 with rfl
      refine upon_c (x := some 81) (by kernel_rfl) rfl fun v2 h2 => ?_
      rcases h2 with rfl
      refine upon_c (x := some 82) (by kernel_rfl) rfl fun v3 h3 => ?_
      rcases h3 with rfl
      refine upon_c (x := some 83) (by kernel_rfl) rfl fun v4 h4 => ?_
      rcases h4 with rfl
      refine upon_c (x := some 84) (by kernel_rfl) rfl fun v5 h5 => ?_
      rcases h5 with rfl
      refine upon_c (x := some 85) (by kernel_rfl) rfl fun v6 h6 => ?_
      rcases h6 with rfl
      refine upon_c (x := some 86) (by kernel_rfl) rfl fun v7 h7 => ?_
      rcases h7 with rfl
      refine upon_c (x := some 87) (by kernel_rfl) rfl fun v8 h8 => ?_
      rcases h8 with rfl
      refine upon_c (x := some 88) (by kernel_rfl) rfl fun v9 h9 => ?_
      rcases h9 with rfl
      refine upon_c (x := some 89) (by kernel_rfl) rfl fun v10 h10 => ?_
      rcases h10 with rfl
      refine upon_c (x := some 90) (by kernel_rfl) rfl fun v11 h11 => ?_
      rcases h11 with rfl
      refine upon_c (x := some 91) (by kernel_rfl) rfl fun v12 h12 => ?_
      refine upon_c (x := some 92) (by kernel_rfl) rfl fun v13 h13 => ?_
      refine upon_c (x := some 78) (by kernel_rfl) rfl fun v14 h14 => ?_
      refine upon_c (x := some 93) (by kernel_rfl) rfl fun v15 h15 => ?_
      refine upon_c (x := some 94) (by kernel_rfl) rfl fun v16 h16 => ?_
      rcases h16 with rfl
      refine upon_c (x := some 12) (by kernel_rfl) rfl fun v17 h17 => ?_
      refine upon_c (x := some 13) (by kernel_rfl) rfl fun v18 h18 => ?_
      rcases h18 with rfl
      refine upon_n ?_
      go_simp
      obtain ⟨so, rfl, hrow⟩ := h17
      have HRW := hid hrow
      have hpr := parse_rows hpx
      obtain ⟨hrl, -⟩ := hpr
      have HWR := hid (show Below wr.heap.size wr w1 from hg)
      clear h12 h13 h14 h15 hrow hg hpx HB5 HN5 HR HX HXF HCM2
      obtain ⟨r0, r1, r2, r3, r4, r5, rfl⟩ := rows6 hrl
      obtain ⟨g, sc, rfl⟩ := HRW.out.ok.shape (by simp)
      clear hrl
      obtain ⟨s0, l0, hm0, hs0, hc0, hn0, ha0⟩ := HRW.out.an (k := 0) rfl
      have HM0 := hid hm0; have HS0 := hid hs0; have HC0 := hid hc0; have HN0 := hid hn0; have HA0 := hid ha0
      clear hm0 hs0 hc0 hn0 ha0
      obtain ⟨s1, l1, hm1, hs1, hc1, hn1, ha1⟩ := HRW.out.an (k := 1) rfl
      have HM1 := hid hm1; have HS1 := hid hs1; have HC1 := hid hc1; have HN1 := hid hn1; have HA1 := hid ha1
      clear hm1 hs1 hc1 hn1 ha1
      obtain ⟨s2, l2, hm2, hs2, hc2, hn2, ha2⟩ := HRW.out.an (k := 2) rfl
      have HM2 := hid hm2; have HS2 := hid hs2; have HC2 := hid hc2; have HN2 := hid hn2; have HA2 := hid ha2
      clear hm2 hs2 hc2 hn2 ha2
      obtain ⟨s3, l3, hm3, hs3, hc3, hn3, ha3⟩ := HRW.out.an (k := 3) rfl
      have HM3 := hid hm3; have HS3 := hid hs3; have HC3 := hid hc3; have HN3 := hid hn3; have HA3 := hid ha3
      clear hm3 hs3 hc3 hn3 ha3
      obtain ⟨s4, l4, hm4, hs4, hc4, hn4, ha4⟩ := HRW.out.an (k := 4) rfl
      have HM4 := hid hm4; have HS4 := hid hs4; have HCX := hid hc4; have HN4 := hid hn4; have HA4 := hid ha4
      clear hm4 hs4 hc4 hn4 ha4
      obtain ⟨s5, l5, hm5, hs5, hc5, hn5, ha5⟩ := HRW.out.an (k := 5) rfl
      have HM5 := hid hm5; have HS5 := hid hs5; have HC5 := hid hc5; have HN5 := hid hn5; have HA5 := hid ha5
      clear hm5 hs5 hc5 hn5 ha5
      clear HRW
      simp only [List.getD_cons_zero, List.getD_cons_succ] at HRX
      go_upto_region 20 with (fail)
      obtain ⟨W5, hw3⟩ : ∃ W, W = w1 := ⟨_, rfl⟩
      subst hw3
      obtain ⟨z5, hzw⟩ : ∃ z5, z5 = W5.heap.size := ⟨_, rfl⟩
      have HZW5 := hid hzw
      clear hzw
      obtain ⟨n0, hq⟩ : ∃ n, numV r0 0 = n := ⟨_, rfl⟩
      have EN0 : Hid (numV (l0.map ItV.it) 0 = n0) := by show _ = _; rw [HM0.out]; exact hq
      rw [hq] at HRX
      clear hq
      obtain ⟨n2, hq⟩ : ∃ n, numV r2 0 = n := ⟨_, rfl⟩
      have EN2 : Hid (numV (l2.map ItV.it) 0 = n2) := by show _ = _; rw [HM2.out]; exact hq
      rw [hq] at HRX
      clear hq
      obtain ⟨n3, hq⟩ : ∃ n, numV r3 0 = n := ⟨_, rfl⟩
      have EN3 : Hid (numV (l3.map ItV.it) 0 = n3) := by show _ = _; rw [HM3.out]; exact hq
      rw [hq] at HRX
      clear hq
      rw [isEmpty_pos HN0.out] at HRX
      rw [isEmpty_pos HN1.out] at HRX
      rw [isEmpty_pos HN5.out] at HRX
      refine wp_region_each 29 [.eq (.slice (some ⟨g, 0, none⟩) 6 sc), .eq (.pointer (some ⟨g, 0, none⟩)), .eq (.slice s0.a s0.n s0.c), .eq (.int .i64 n0), .eq (.slice (some ⟨g, 0, none⟩) 6 sc), .eq (.pointer (some ⟨g, 0, none⟩)), .eq (.slice s0.a s0.n s0.c), .eq (.int .i64 (s0.n : Int)), .eq (.bool (decide (0 < s0.n))), .eq (.slice (some ⟨g, 0, none⟩) 6 sc), .eq (.pointer (some ⟨g, 1, none⟩)), .eq (.slice s1.a s1.n s1.c), .eq (.int .i64 (s1.n : Int)), .eq (.bool (decide (0 < s1.n))), .eq (.slice (some ⟨g, 0, none⟩) 6 sc), .eq (.pointer (some ⟨g, 2, none⟩)), .eq (.slice s2.a s2.n s2.c), .eq (.int .i64 n2), .eq (.slice (some ⟨g, 0, none⟩) 6 sc), .eq (.pointer (some ⟨g, 3, none⟩)), .eq (.slice s3.a s3.n s3.c), .eq (.int .i64 n3), .eq (.slice (some ⟨g, 0, none⟩) 6 sc), .eq (.pointer (some ⟨g, 5, none⟩)), .eq (.slice s5.a s5.n s5.c), .eq (.int .i64 (s5.n : Int)), .eq (.bool (decide (0 < s5.n))), .eq (.agg (RsIV.arr { op := n0, hasOp := decide (0 < s0.n), hasId := decide (0 < s1.n), status := n2, reason := n3, hasPay := decide (0 < s5.n) })), stNewQ 44 rsZ.arr z5] (by kernel_rfl) (by kernel_rfl) (by kernel_rfl) (by kernel_rfl) ?_ ?_
      · as_aux_lemma =>
          refine each_c (o' := _) ?_ (each_c (o' := _) ?_ (each_c (o' := _) ?_ (each_c (o' := _) ?_ (each_c (o' := _) ?_ (each_c (o' := _) ?_ (each_c (o' := _) ?_ (each_c (o' := _) ?_ (each_c (o' := _) ?_ (each_c (o' := _) ?_ (each_c (o' := _) ?_ (each_c (o' := _) ?_ (each_c (o' := _) ?_ (each_c (o' := _) ?_ (each_c (o' := _) ?_ (each_c (o' := _) ?_ (each_c (o' := _) ?_ (each_c (o' := _) ?_ (each_c (o' := _) ?_ (each_c (o' := _) ?_ (each_c (o' := _) ?_ (each_c (o' := _) ?_ (each_c (o' := _) ?_ (each_c (o' := _) ?_ (each_c (o' := _) ?_ (each_c (o' := _) ?_ (each_c (o' := _) ?_ (each_c (o' := _) ?_ (each_c (o' := _) ?_ (each_n)))))))))))))))))))))))))))))
          -- 0: move t12
          · intro w1 hg Ar seen
            have s12 := seen.slot 12 (v := .slice (some ⟨g, 0, none⟩) 6 sc) (by kernel_rfl) rfl
            refine does_plain rfl fun K Q' hK => ?_
            go_simp; exact hK _ _ (Grow.refl _) rfl
          -- 1: indexAddr 63 t99 0:i64
          · intro w1 hg Ar seen
            obtain ⟨v0, e0, h0⟩ := seen.dep 0 (d := 99) (by kernel_rfl) (by kernel_rfl) rfl
            rcases h0 with rfl
            refine does_plain rfl fun K Q' hK => ?_
            go_simp; exact hK _ _ (Grow.refl _) rfl
          -- 2: load 25 t100
          · intro w1 hg Ar seen
            obtain ⟨v1, e1, h1⟩ := seen.dep 1 (d := 100) (by kernel_rfl) (by kernel_rfl) rfl
            rcases h1 with rfl
            refine does_plain rfl fun K Q' hK => ?_
            have hc := cell_later hg HC0.out
            go_simp; exact hK _ _ (Grow.refl _) rfl
          -- 3: call fn41<locksmithref15.number> [t101, 0:i64] T[25, 3]
          · intro w1 hg Ar seen
            obtain ⟨v2, e2, h2⟩ := seen.dep 2 (d := 101) (by kernel_rfl) (by kernel_rfl) rfl
            rcases h2 with rfl
            refine does_plain rfl fun K Q' hK => ?_
            go_simp
            refine (rnumber_any s0 l0 0 _ (HS0.out.below hg)).mono ?_
            rintro e u ⟨rfl, rfl⟩
            exact hK _ _ (Grow.refl _) (by rw [EN0.out]; rfl)
          -- 4: move t12
          · intro w1 hg Ar seen
            have s12 := seen.slot 12 (v := .slice (some ⟨g, 0, none⟩) 6 sc) (by kernel_rfl) rfl
            refine does_plain rfl fun K Q' hK => ?_
            go_simp; exact hK _ _ (Grow.refl _) rfl
          -- 5: indexAddr 63 t103 0:i64
          · intro w1 hg Ar seen
            obtain ⟨v4, e4, h4⟩ := seen.dep 4 (d := 103) (by kernel_rfl) (by kernel_rfl) rfl
            rcases h4 with rfl
            refine does_plain rfl fun K Q' hK => ?_
            go_simp; exact hK _ _ (Grow.refl _) rfl
          -- 6: load 25 t104
          · intro w1 hg Ar seen
            obtain ⟨v5, e5, h5⟩ := seen.dep 5 (d := 104) (by kernel_rfl) (by kernel_rfl) rfl
            rcases h5 with rfl
            refine does_plain rfl fun K Q' hK => ?_
            have hc := cell_later hg HC0.out
            go_simp; exact hK _ _ (Grow.refl _) rfl
          -- 7: call len [t105] T[25]
          · intro w1 hg Ar seen
            obtain ⟨v6, e6, h6⟩ := seen.dep 6 (d := 105) (by kernel_rfl) (by kernel_rfl) rfl
            rcases h6 with rfl
            refine does_plain rfl fun K Q' hK => ?_
            go_simp; exact hK _ _ (Grow.refl _) rfl
          -- 8: binOp BinOp.gtr 3 t106 0:i64 3
          · intro w1 hg Ar seen
            obtain ⟨v7, e7, h7⟩ := seen.dep 7 (d := 106) (by kernel_rfl) (by kernel_rfl) rfl
            rcases h7 with rfl
            refine does_plain rfl fun K Q' hK => ?_
            go_simp; exact hK _ _ (Grow.refl _) rfl
          -- 9: move t12
          · intro w1 hg Ar seen
            have s12 := seen.slot 12 (v := .slice (some ⟨g, 0, none⟩) 6 sc) (by kernel_rfl) rfl
            refine does_plain rfl fun K Q' hK => ?_
            go_simp; exact hK _ _ (Grow.refl _) rfl
          -- 10: indexAddr 63 t108 1:i64
          · intro w1 hg Ar seen
            obtain ⟨v9, e9, h9⟩ := seen.dep 9 (d := 108) (by kernel_rfl) (by kernel_rfl) rfl
            rcases h9 with rfl
            refine does_plain rfl fun K Q' hK => ?_
            go_simp; exact hK _ _ (Grow.refl _) rfl
          -- 11: load 25 t109
          · intro w1 hg Ar seen
            obtain ⟨v10, e10, h10⟩ := seen.dep 10 (d := 109) (by kernel_rfl) (by kernel_rfl) rfl
            rcases h10 with rfl
            refine does_plain rfl fun K Q' hK => ?_
            have hc := cell_later hg HC1.out
            go_simp; exact hK _ _ (Grow.refl _) rfl
          -- 12: call len [t110] T[25]
          · intro w1 hg Ar seen
            obtain ⟨v11, e11, h11⟩ := seen.dep 11 (d := 110) (by kernel_rfl) (by kernel_rfl) rfl
            rcases h11 with rfl
            refine does_plain rfl fun K Q' hK => ?_
            go_simp; exact hK _ _ (Grow.refl _) rfl
          -- 13: binOp BinOp.gtr 3 t111 0:i64 3
          · intro w1 hg Ar seen
            obtain ⟨v12, e12, h12⟩ := seen.dep 12 (d := 111) (by kernel_rfl) (by kernel_rfl) rfl
            rcases h12 with rfl
            refine does_plain rfl fun K Q' hK => ?_
            go_simp; exact hK _ _ (Grow.refl _) rfl
          -- 14: move t12
          · intro w1 hg Ar seen
            have s12 := seen.slot 12 (v := .slice (some ⟨g, 0, none⟩) 6 sc) (by kernel_rfl) rfl
            refine does_plain rfl fun K Q' hK => ?_
            go_simp; exact hK _ _ (Grow.refl _) rfl
          -- 15: indexAddr 63 t113 2:i64
          · intro w1 hg Ar seen
            obtain ⟨v14, e14, h14⟩ := seen.dep 14 (d := 113) (by kernel_rfl) (by kernel_rfl) rfl
            rcases h14 with rfl
            refine does_plain rfl fun K Q' hK => ?_
            go_simp; exact hK _ _ (Grow.refl _) rfl
          -- 16: load 25 t114
          · intro w1 hg Ar seen
            obtain ⟨v15, e15, h15⟩ := seen.dep 15 (d := 114) (by kernel_rfl) (by kernel_rfl) rfl
            rcases h15 with rfl
            refine does_plain rfl fun K Q' hK => ?_
            have hc := cell_later hg HC2.out
            go_simp; exact hK _ _ (Grow.refl _) rfl
          -- 17: call fn41<locksmithref15.number> [t115, 0:i64] T[25, 3]
          · intro w1 hg Ar seen
            obtain ⟨v16, e16, h16⟩ := seen.dep 16 (d := 115) (by kernel_rfl) (by kernel_rfl) rfl
            rcases h16 with rfl
            refine does_plain rfl fun K Q' hK => ?_
            go_simp
            refine (rnumber_any s2 l2 0 _ (HS2.out.below hg)).mono ?_
            rintro e u ⟨rfl, rfl⟩
            exact hK _ _ (Grow.refl _) (by rw [EN2.out]; rfl)
          -- 18: move t12
          · intro w1 hg Ar seen
            have s12 := seen.slot 12 (v := .slice (some ⟨g, 0, none⟩) 6 sc) (by kernel_rfl) rfl
            refine does_plain rfl fun K Q' hK => ?_
            go_simp; exact hK _ _ (Grow.refl _) rfl
          -- 19: indexAddr 63 t117 3:i64
          · intro w1 hg Ar seen
            obtain ⟨v18, e18, h18⟩ := seen.dep 18 (d := 117) (by kernel_rfl) (by kernel_rfl) rfl
            rcases h18 with rfl
            refine does_plain rfl fun K Q' hK => ?_
            go_simp; exact hK _ _ (Grow.refl _) rfl
          -- 20: load 25 t118
          · intro w1 hg Ar seen
            obtain ⟨v19, e19, h19⟩ := seen.dep 19 (d := 118) (by kernel_rfl) (by kernel_rfl) rfl
            rcases h19 with rfl
            refine does_plain rfl fun K Q' hK => ?_
            have hc := cell_later hg HC3.out
            go_simp; exact hK _ _ (Grow.refl _) rfl
          -- 21: call fn41<locksmithref15.number> [t119, 0:i64] T[25, 3]
          · intro w1 hg Ar seen
            obtain ⟨v20, e20, h20⟩ := seen.dep 20 (d := 119) (by kernel_rfl) (by kernel_rfl) rfl
            rcases h20 with rfl
            refine does_plain rfl fun K Q' hK => ?_
            go_simp
            refine (rnumber_any s3 l3 0 _ (HS3.out.below hg)).mono ?_
            rintro e u ⟨rfl, rfl⟩
            exact hK _ _ (Grow.refl _) (by rw [EN3.out]; rfl)
          -- 22: move t12
          · intro w1 hg Ar seen
            have s12 := seen.slot 12 (v := .slice (some ⟨g, 0, none⟩) 6 sc) (by kernel_rfl) rfl
            refine does_plain rfl fun K Q' hK => ?_
            go_simp; exact hK _ _ (Grow.refl _) rfl
          -- 23: indexAddr 63 t121 5:i64
          · intro w1 hg Ar seen
            obtain ⟨v22, e22, h22⟩ := seen.dep 22 (d := 121) (by kernel_rfl) (by kernel_rfl) rfl
            rcases h22 with rfl
            refine does_plain rfl fun K Q' hK => ?_
            go_simp; exact hK _ _ (Grow.refl _) rfl
          -- 24: load 25 t122
          · intro w1 hg Ar seen
            obtain ⟨v23, e23, h23⟩ := seen.dep 23 (d := 122) (by kernel_rfl) (by kernel_rfl) rfl
            rcases h23 with rfl
            refine does_plain rfl fun K Q' hK => ?_
            have hc := cell_later hg HC5.out
            go_simp; exact hK _ _ (Grow.refl _) rfl
          -- 25: call len [t123] T[25]
          · intro w1 hg Ar seen
            obtain ⟨v24, e24, h24⟩ := seen.dep 24 (d := 123) (by kernel_rfl) (by kernel_rfl) rfl
            rcases h24 with rfl
            refine does_plain rfl fun K Q' hK => ?_
            go_simp; exact hK _ _ (Grow.refl _) rfl
          -- 26: binOp BinOp.gtr 3 t124 0:i64 3
          · intro w1 hg Ar seen
            obtain ⟨v25, e25, h25⟩ := seen.dep 25 (d := 124) (by kernel_rfl) (by kernel_rfl) rfl
            rcases h25 with rfl
            refine does_plain rfl fun K Q' hK => ?_
            go_simp; exact hK _ _ (Grow.refl _) rfl
          -- 27: build 44 [(0, t102), (1, t107), (2, t112), (4, t116), (5, t120), (8, t125)]
          · intro w1 hg Ar seen
            obtain ⟨v3, e3, h3⟩ := seen.dep 3 (d := 102) (by kernel_rfl) (by kernel_rfl) rfl
            rcases h3 with rfl
            obtain ⟨v8, e8, h8⟩ := seen.dep 8 (d := 107) (by kernel_rfl) (by kernel_rfl) rfl
            rcases h8 with rfl
            obtain ⟨v13, e13, h13⟩ := seen.dep 13 (d := 112) (by kernel_rfl) (by kernel_rfl) rfl
            rcases h13 with rfl
            obtain ⟨v17, e17, h17⟩ := seen.dep 17 (d := 116) (by kernel_rfl) (by kernel_rfl) rfl
            rcases h17 with rfl
            obtain ⟨v21, e21, h21⟩ := seen.dep 21 (d := 120) (by kernel_rfl) (by kernel_rfl) rfl
            rcases h21 with rfl
            obtain ⟨v26, e26, h26⟩ := seen.dep 26 (d := 125) (by kernel_rfl) (by kernel_rfl) rfl
            rcases h26 with rfl
            refine does_plain rfl fun K Q' hK => ?_
            refine wp_build_obj 44 _ rfl #[(0, .int .i64 n0), (1, .bool (decide (0 < s0.n))), (2, .bool (decide (0 < s1.n))), (4, .int .i64 n2), (5, .int .i64 n3), (8, .bool (decide (0 < s5.n)))] (by simp [Act.eval, e3, e8, e13, e17, e21, e26]) _ (sBuildI _ _ _ _ _ _ _) ?_
            exact hK _ _ (Grow.refl _) rfl
          -- 28: alloc 44
          · intro w1 hg Ar seen
            refine does_plain rfl fun K Q' hK => ?_
            refine wp_alloc_obj 44 rfl rsZ.arr sZero ?_
            exact hK _ _ ((Below.refl _ _).alloc (Nat.le_refl _) _) ⟨_, rfl, block_new _ _, Nat.le_trans (Nat.le_of_eq HZW5.out) hg.size⟩
      intro w1 hg
      refine upon_w' (js := [0, 1, 2, 3, 4, 5, 6, 7, 8, 9, 10, 11, 12, 13, 14, 15, 16, 17, 18, 19, 20, 21, 22, 23, 24, 25, 26, 27, 28]) (by rfl) ?_
      refine upon_c (x := some 99) (by kernel_rfl) rfl fun v0 h0 => ?_
      rcases h0 with rfl
      refine upon_c (x := some 100) (by kernel_rfl) rfl fun v1 h1 => ?_
      rcases h1 with rfl
      refine upon_c (x := some 101) (by kernel_rfl) rfl fun v2 h2 => ?_
      rcases h2 with rfl
      refine upon_c (x := some 102) (by kernel_rfl) rfl fun v3 h3 => ?_
      rcases h3 with rfl
      refine upon_c (x := some 103) (by kernel_rfl) rfl fun v4 h4 => ?_
      rcases h4 with rfl
      refine upon_c (x := some 104) (by kernel_rfl) rfl fun v5 h5 => ?_
      rcases h5 with rfl
      refine upon_c (x := some 105) (by kernel_rfl) rfl fun v6 h6 => ?_
      rcases h6 with rfl
      refine upon_c (x := some 106) (by kernel_rfl) rfl fun v7 h7 => ?_
      rcases h7 with rfl
      refine upon_c (x := some 107) (by kernel_rfl) rfl fun v8 h8 => ?_
      rcases h8 with rfl
      refine upon_c (x := some 108) (by kernel_rfl) rfl fun v9 h9 => ?_
      rcases h9 with rfl
      refine upon_c (x := some 109) (by kernel_rfl) rfl fun v10 h10 => ?_
      rcases h10 with rfl
      refine upon_c (x := some 110) (by kernel_rfl) rfl fun v11 h11 => ?_
      rcases h11 with rfl
      refine upon_c (x := some 111) (by kernel_rfl) rfl fun v12 h12 => ?_
      rcases h12 with rfl
      refine upon_c (x := some 112) (by kernel_rfl) rfl fun v13 h13 => ?_
      rcases h13 with rfl
      refine upon_c (x := some 113) (by kernel_rfl) rfl fun v14 h14 => ?_
      rcases h14 with rfl
      refine upon_c (x := some 114) (by kernel_rfl) rfl fun v15 h15 => ?_
      rcases h15 with rfl
      refine upon_c (x := some 115) (by kernel_rfl) rfl fun v16 h16 => ?_
      rcases h16 with rfl
      refine upon_c (x := some 116) (by kernel_rfl) rfl fun v17 h17 => ?_
      rcases h17 with rfl
      refine upon_c (x := some 117) (by kernel_rfl) rfl fun v18 h18 => ?_
      rcases h18 with rfl
      refine upon_c (x := some 118) (by kernel_rfl) rfl fun v19 h19 => ?_
      rcases h19 with rfl
      refine upon_c (x := some 119) (by kernel_rfl) rfl fun v20 h20 => ?_
      rcases h20 with rfl
      refine upon_c (x := some 120) (by kernel_rfl) rfl fun v21 h21 => ?_
      rcases h21 with rfl
      refine upon_c (x := some 121) (by kernel_rfl) rfl fun v22 h22 => ?_
      rcases h22 with rfl
      refine upon_c (x := some 122) (by kernel_rfl) rfl fun v23 h23 => ?_
      rcases h23 with rfl
      refine upon_c (x := some 123) (by kernel_rfl) rfl fun v24 h24 => ?_
      rcases h24 with rfl
      refine upon_c (x := some 124) (by kernel_rfl) rfl fun v25 h25 => ?_
      rcases h25 with rfl
      refine upon_c (x := some 125) (by kernel_rfl) rfl fun v26 h26 => ?_
      rcases h26 with rfl
      refine upon_c (x := some 126) (by kernel_rfl) rfl fun v27 h27 => ?_
      rcases h27 with rfl
      refine upon_c (x := some 14) (by kernel_rfl) rfl fun v28 h28 => ?_
      refine upon_n ?_
      obtain ⟨px, rfl, hp, hzp⟩ := h28
      have HP := hid hp; have HZP5 := hid hzp
      have hg' := hg
      unfold Grow at hg'
      rw [← HZW5.out] at hg'
      have HGG := hid hg'
      have HSZ1 : Hid (z5 ≤ w1.heap.size) := by show _ ≤ _; rw [HZW5.out]; exact hg.size
      clear hp hzp hg' hg
      go_simp
      go_upto_region 21 with (refine wpList_store_obj rfl 44 _ _ rfl px rfl (RsIV.arr { op := n0, hasOp := decide (0 < s0.n), hasId := decide (0 < s1.n), status := n2, reason := n3, hasPay := decide (0 < s5.n) }) rfl _ _ HP.out rfl sSize (sarr_one _) ?_; intro w4 hb4 hc4 hs4; have HBX := hid hb4; have HCX := hid hc4; clear hb4 hc4 hs4)
      have HBW5 : Hid (Below z5 W5 w4) := HGG.out.trans (HCX.out.below (B := z5) (fun k hk => by rw [List.mem_singleton.1 hk]; exact HZP5.out) HSZ1.out)
      have HZ5 : Hid (z5 ≤ w4.heap.size) := Nat.le_trans HSZ1.out HCX.out.size
      clear HP HCX HGG HSZ1
      have hq2 := cell_of_block (j := 2) HBX.out (rx2 _)
      go_upto_if 128 with (fail)
      clear hq2
      obtain ⟨D1, hD1⟩ : ∃ D, (firstI r1).data = D := ⟨_, rfl⟩
      have HD1 := hid hD1
      clear hD1
      go_cut [] (fun wx => ∃ ids : Sl, wx.heap[px]? = some (.cells (RsIV.arr { op := n0, hasOp := decide (0 < s0.n), hasId := decide (0 < s1.n), status := n2, reason := n3, hasPay := decide (0 < s5.n), id := D1, ids := ids }) 44 (0, 0)) ∧ SlC W5 ids (D1.map B8) ∧ (∀ k ∈ ids.blk, k < b) ∧ Below z5 W5 wx ∧ z5 ≤ wx.heap.size)
      case first =>
        have hbx : Below W5.heap.size W5 w4 := by rw [← HZW5.out]; exact HBW5.out
        by_cases hn1 : 0 < s1.n
        · obtain ⟨g1, f1, v1, ha1, hv1, -, -, -, hk1, -⟩ := HS1.out.kid hn1
          have hrow1 := HS1.out.row hn1
          obtain ⟨ho1, hf1⟩ := HA1.out v1 (List.mem_of_getElem? hv1)
          have hr1 : firstI r1 = v1.it := by
            have hm := HM1.out
            cases l1 with
            | nil => simp at hv1
            | cons x t => simp at hv1; subst hv1; rw [← hm]; rfl
          rw [Nat.zero_mul, Nat.add_zero] at hk1
          have hc1 := cell_later hbx HC1.out
          rw [ha1] at hc1
          have hk := cell_later hbx hk1
          have hfz : ∀ j, w4.frozen? ⟨px, j, none⟩ = false := fun j => frozen_of_block HBX.out
          have hq3 := cell_of_block (j := 3) HBX.out (rx3 _)
          have HB5 : Hid ((w4.setCell ⟨px, 3, none⟩ (.slice v1.ds.a v1.ds.n v1.ds.c)).heap[px]? = some (.cells (RsIV.arr { op := n0, hasOp := decide (0 < s0.n), hasId := decide (0 < s1.n), status := n2, reason := n3, hasPay := decide (0 < s5.n), id := v1.data, ids := v1.ds }) 44 (0, 0))) := block_setCell HBX.out _
          have HD : Hid (D1 = v1.data) := by show _ = _; rw [← HD1.out, hr1, ItV.it_eq]
          have HO := hid (ItV.ok_iff.1 ho1).1; have HF := hid (fun k hk => hf1 k (ItV.mem_foot.2 (.inl hk)))
          have HB6 := hid (HBW5.out.setCell (p := ⟨px, 3, none⟩) HZP5.out (.slice v1.ds.a v1.ds.n v1.ds.c))
          clear ha1 hv1 hk1 hrow1 ho1 hf1 hr1
          go_wp2_with fail
          go_meet
          exact ⟨v1.ds, by rw [HD.out]; exact HB5.out, by rw [HD.out]; exact HO.out, HF.out, HB6.out, Nat.le_trans HZ5.out (by simp [World.setCell])⟩
        · have HD : Hid (D1 = []) := by
            show _ = _
            have : r1 = [] := List.eq_nil_of_length_eq_zero (by rw [← HN1.out]; omega)
            rw [← HD1.out, this]; rfl
          clear hbx
          go_wp2_with fail
          go_meet
          exact ⟨{}, by rw [HD.out]; exact HBX.out, by rw [HD.out]; exact SlC.nil _, by simp [Sl.blk], HBW5.out, HZ5.out⟩
      case rest =>
      clear HBX HBW5 HZ5
      obtain ⟨ids, hpx, hids, hidl, hbw, hz5⟩ := hcut
      have HPX := hid hpx; have HID := hid hids; have HIL := hid hidl; have HBW5 := hid hbw; have HZ5 := hid hz5
      have hbx : Below W5.heap.size W5 wc := by rw [← HZW5.out]; exact hbw
      have hc4 := cell_later hbx HCX.out
      clear hpx hids hidl hbw hz5 hbx
      go_upto_if 140 with (fail)
      clear hc4
      obtain ⟨M4, hM4⟩ : ∃ D : ByteArray, (⟨(firstI r4).data.toArray⟩ : ByteArray) = D := ⟨_, rfl⟩
      have HM4' := hid hM4
      clear hM4
      go_cut [] (fun wx => wx.heap[px]? = some (.cells (RsIV.arr { op := n0, hasOp := decide (0 < s0.n), hasId := decide (0 < s1.n), status := n2, reason := n3, hasPay := decide (0 < s5.n), id := D1, ids := ids, msg := M4 }) 44 (0, 0)) ∧ Below z5 W5 wx ∧ z5 ≤ wx.heap.size)
      case first =>
        have hbx : Below W5.heap.size W5 wc := by rw [← HZW5.out]; exact HBW5.out
        by_cases hn4 : 0 < s4.n
        · obtain ⟨g4, f4, v4, ha4, hv4, -, -, -, hk4, -⟩ := HS4.out.kid hn4
          have hrow4 := HS4.out.row hn4
          obtain ⟨ho4, hf4⟩ := HA4.out v4 (List.mem_of_getElem? hv4)
          have hr4 : firstI r4 = v4.it := by
            have hm := HM4.out
            cases l4 with
            | nil => simp at hv4
            | cons x t => simp at hv4; subst hv4; rw [← hm]; rfl
          rw [Nat.zero_mul, Nat.add_zero] at hk4
          have hc4 := cell_later hbx HCX.out
          rw [ha4] at hc4
          have hk := cell_later hbx hk4
          have hcv := run_bytes_str (P := Try.prog) ((ItV.ok_iff.1 ho4).1.below hbx).rdB v4.ds.c 24 9 5 Try.underlying24 Try.underlying5 Try.underlying9
          have hfz : ∀ j, wc.frozen? ⟨px, j, none⟩ = false := fun j => frozen_of_block HPX.out
          have hq6 := cell_of_block (j := 6) HPX.out (rx6 _)
          have HB5 : Hid ((wc.setCell ⟨px, 6, none⟩ (.string ⟨v4.data.toArray⟩)).heap[px]? = some (.cells (RsIV.arr { op := n0, hasOp := decide (0 < s0.n), hasId := decide (0 < s1.n), status := n2, reason := n3, hasPay := decide (0 < s5.n), id := D1, ids := ids, msg := ⟨v4.data.toArray⟩ }) 44 (0, 0))) := block_setCell HPX.out _
          have HD : Hid (M4 = ⟨v4.data.toArray⟩) := by show _ = _; rw [← HM4'.out, hr4, ItV.it_eq]
          have HB6 := hid (HBW5.out.setCell (p := ⟨px, 6, none⟩) HZP5.out (.string ⟨v4.data.toArray⟩))
          clear ha4 hv4 hk4 hrow4 ho4 hf4 hr4
          go_wp2_with fail
          go_meet
          exact ⟨by rw [HD.out]; exact HB5.out, HB6.out, Nat.le_trans HZ5.out (by simp [World.setCell])⟩
        · have HD : Hid (M4 = ⟨#[]⟩) := by
            show _ = _
            have : r4 = [] := List.eq_nil_of_length_eq_zero (by rw [← HN4.out]; omega)
            rw [← HM4'.out, this]; rfl
          clear hbx
          go_wp2_with fail
          go_meet
          exact ⟨by rw [HD.out]; exact HPX.out, HBW5.out, HZ5.out⟩
      case rest =>
      clear HPX HBW5 HZ5
      obtain ⟨hpx, hbw, hz5⟩ := hcut
      have HPX := hid hpx; have HBW5 := hid hbw; have HZ5 := hid hz5
      have hq12 := cell_of_block (j := 12) HPX.out (rx12 _)
      clear hpx hbw hz5
      go_upto_if 150 with (fail)
      clear hq12
      go_cut [] (fun wx => ∃ pv : ItV, wx.heap[px]? = some (.cells (RsIV.arr { op := n0, hasOp := decide (0 < s0.n), hasId := decide (0 < s1.n), status := n2, reason := n3, hasPay := decide (0 < s5.n), id := D1, ids := ids, msg := M4, pay := pv }) 44 (0, 0)) ∧ pv.it = firstI r5 ∧ pv.ok W5 ∧ (∀ k ∈ pv.foot, k < b) ∧ Below z5 W5 wx ∧ z5 ≤ wx.heap.size)
      case first =>
        have hbx : Below W5.heap.size W5 wc := by rw [← HZW5.out]; exact HBW5.out
        by_cases hn5 : 0 < s5.n
        · obtain ⟨g5, f5, v5, ha5, hv5, -, -, -, hk5, -⟩ := HS5.out.kid hn5
          have hrow5 := HS5.out.row hn5
          obtain ⟨ho5, hf5⟩ := HA5.out v5 (List.mem_of_getElem? hv5)
          have hr5 : firstI r5 = v5.it := by
            have hm := HM5.out
            cases l5 with
            | nil => simp at hv5
            | cons x t => simp at hv5; subst hv5; rw [← hm]; rfl
          rw [Nat.zero_mul, Nat.add_zero] at hk5
          have hc5 := cell_later hbx HC5.out
          rw [ha5] at hc5
          obtain ⟨bi, oi, vx, hax, hvx, hrx⟩ := hrow5
          rw [ha5] at hax
          simp only [Option.some.injEq, Addr.mk.injEq, and_true] at hax
          obtain ⟨rfl, rfl⟩ := hax
          rw [hv5] at hvx
          simp only [Option.some.injEq] at hvx
          subst hvx
          rw [Nat.zero_mul, Nat.add_zero] at hrx
          have HRG := hid (range_later hbx hrx)
          have HRV := hid hr5; have HO := hid ho5; have HF := hid hf5
          clear ha5 hv5 hk5 hrx ho5 hf5 hr5
          go_upto_region 27 with (first | (refine wpList_load_mid rfl 27 _ rfl g5 f5 rfl v5.arr.toList _ HRG.out Try.underlying27 rfl iSize ?_; simp only [Array.toArray_toList]) | (refine wpList_store_part rfl 27 _ _ rfl px 7 v5.arr rfl rfl HPX.out (show 7 + 5 ≤ 13 by decide) iSize (arr_one v5) (RsIV.arr { op := n0, hasOp := decide (0 < s0.n), hasId := decide (0 < s1.n), status := n2, reason := n3, hasPay := decide (0 < s5.n), id := D1, ids := ids, msg := M4, pay := v5 }) rfl ?_; intro w6 hb6 hc6; have HB6 := hid hb6; have HC6 := hid hc6; clear hb6 hc6))
          go_meet
          exact ⟨v5, HB6.out, HRV.out.symm, HO.out, HF.out, HBW5.out.trans (HC6.out.below (B := z5) (fun k hk => by rw [List.mem_singleton.1 hk]; exact HZP5.out) HZ5.out), Nat.le_trans HZ5.out HC6.out.size⟩
        · have HD : Hid (firstI r5 = {}) := by
            show _ = _
            have : r5 = [] := List.eq_nil_of_length_eq_zero (by rw [← HN5.out]; omega)
            rw [this]; rfl
          clear hbx
          go_wp2_with fail
          go_meet
          exact ⟨{}, HPX.out, by rw [HD.out]; exact it_flat 0 0 0 [] {}, ItV.ok.zero _ _ _ _, (fun k hk => by have := foot_flat hk; simp [Sl.blk] at this), HBW5.out, HZ5.out⟩
      case rest =>
      clear HPX HBW5 HZ5
      obtain ⟨pv, hpx, hpi, hpo, hpg, hbw, hz5⟩ := hcut
      have HPX := hid hpx; have HPI := hid hpi; have HPO := hid hpo; have HPG := hid hpg; have HBW5 := hid hbw; have HZ5 := hid hz5
      have hbx : Below W5.heap.size W5 wc := by rw [← HZW5.out]; exact HBW5.out
      obtain ⟨v', hv'⟩ : ∃ v : RsIV, v = { op := n0, hasOp := decide (0 < s0.n), hasId := decide (0 < s1.n), status := n2, reason := n3, hasPay := decide (0 < s5.n), id := D1, ids := ids, msg := M4, pay := pv } := ⟨_, rfl⟩
      have HB7 : Hid (wc.heap[px]? = some (.cells v'.arr 44 (0, 0))) := by show wc.heap[px]? = some (.cells v'.arr 44 (0, 0)); rw [hv']; exact HPX.out
      have HVO7 : Hid (v'.ok wc) := by show v'.ok wc; rw [hv']; exact ⟨HID.out.below hbx, HPO.out.below hbx⟩
      have HVF : Hid (∀ k ∈ v'.foot, k < b) := by
        show ∀ k ∈ v'.foot, k < b
        rw [hv']
        intro k hk
        rcases List.mem_append.1 hk with h' | h'
        · exact HIL.out k h'
        · exact HPG.out k h'
      have HVQ : Hid (readRsI x.it = .ok v'.rq) := by
        show _ = _
        rw [hv', HRX.out]
        unfold RsIV.rq
        simp only [HPI.out, HD1.out, HM4'.out]
      have HRN := hid ((readRsIs_one HRI.out HXM.out).1 v'.rq HVQ.out)
      have hbel7 : Below wr.heap.size wr wc := HWR.out.trans (hbx.mono HWR.out.size)
      have HO7 := hid (HO.out.below hbel7)
      have HPB7 := hid ((hbel7.block _ (block_lt HPB.out)).trans HPB.out)
      have HBL7 := hid hbel7
      have HZ7 : Hid (wr.heap.size ≤ wc.heap.size) := hbel7.size
      clear hv' hbx hbel7 hpx hpi hpo hpg hbw hz5 HPX HID HIL HPO HPG HPI HBW5 HZ5 HO HPB HVQ HRX HWR
      have hc4 := cell_of_block (j := 1) HPB7.out (rv1 _)
      simp only at hc4
      go_upto_region 16 with (first | (refine wpList_load_row rfl 44 _ rfl px rfl _ _ _ _ HB7.out Try.underlying44 rfl sSize ?_) | (refine wpList_build_rs rfl 29 44 _ rfl v' rfl iq Try.underlying29 hiq hy0 hy1 ?_) | (at_builtin; go_must (refine wpList_append_c rfl _ _ 29 rfl z4 44 iq _ 13 152 Try.underlying29 hiq hy0 hy1 hy2 rfl (by decide) (.slice s.a s.n s.c) s.n _ rfl (HO7.out.below ((Below.refl _ _).alloc (Nat.le_refl _) (.cells v'.arr 44))).own _ 1 _ v'.cells rfl (RdC.new _ _ _ _ v'.cells (by simp [RsIV.cells]) 13 rfl _ rfl) (by have := rs_one [v']; simpa [rsCells] using this) (fun hx => by cases hx) (by unfold maxLen; have := HSK.out; omega) (by have := HSK.out; omega) (by have := HZW4.out; have := HZ7.out; simp; omega) ?_); intro a' c' w8 hown hgw hfr; have HO8 := hid hown; have HG8 := hid hgw; have HF8 := hid hfr; have hch : Chg s.v.ownBlock.toList wc w8 := ((Chg.refl _ wc).alloc _).grown hgw (fun k hk => .inl (by rw [hk]; simp)); have hpb8 := (hch.block p (block_lt HPB7.out) (HO7.out.ahead HPZ.out)).trans HPB7.out; have HPB8 := hid hpb8; have hq4 := cell_of_block (j := 1) hpb8 (rv1 _); have hfz : ∀ j, w8.frozen? ⟨p, j, none⟩ = false := (fun j => frozen_of_block HPB8.out); clear hown hgw hfr hch hpb8))
      clear hq4 hfz hc4
      have ho8 : OwnRs 44 w8 z4 ⟨a', s.n + 1, c'⟩ (lq ++ [v']) :=
        HO7.out.app ((Below.refl _ _).alloc (Nat.le_refl _) _) v' HVO7.out (fun k hk he => by have h1 := (HO7.out.own.lt k he).1; have h2 := HVF.out k hk; have h3 := HPZ.out; have h4 := HZP.out; have h5 := HBZ.out; omega) (by rw [rs_app]; simpa [rsCells] using HO8.out) HG8.out HF8.out
      have hch : Chg s.v.ownBlock.toList wc w8 := ((Chg.refl _ wc).alloc _).grown HG8.out (fun k hk => .inl (by rw [hk]; simp))
      have hcb : Chg [p] w8 (w8.setCell ⟨p, 1, none⟩ (.slice a' (s.n + 1) c')) := (Chg.refl [p] w8).setCell (.inl (by simp)) _
      have hnf : ∀ x ∈ lq ++ [v'], ∀ k ∈ x.foot, k < b := fun x hx k hm => by
        rcases List.mem_append.1 hx with h' | h'
        · exact HPF.out x h' k hm
        · rw [List.mem_singleton.1 h'] at hm
          exact HVF.out k hm
      have ho9 := ho8.chg hcb (fun k hk hm => by have := List.mem_singleton.1 hm; subst this; exact ho8.ahead HPZ.out (by rw [hk]; simp)) (fun x hx k hk hm => by have h1 := List.mem_singleton.1 hm; have h2 := hnf x hx k hk; have h3 := HZP.out; have h4 := HBZ.out; omega)
      have hpb9 : (w8.setCell ⟨p, 1, none⟩ (.slice a' (s.n + 1) c')).heap[p]? = some (.cells (RsV.arr { time := tm, its := ⟨a', s.n + 1, c'⟩, items := lq ++ [v'] }) 31 (0, 0)) := block_setCell HPB8.out _
      have hz4 : z ≤ z4 := Nat.le_of_lt (Nat.lt_of_le_of_lt HZP.out HPZ.out)
      have hbw9 : Below z W3 (w8.setCell ⟨p, 1, none⟩ (.slice a' (s.n + 1) c')) :=
        (HBW.out.trans (HBL7.out.mono (Nat.le_trans hz4 HZW4.out))).trans ((hch.below (B := z) (fun k hk => by
          rcases Nat.lt_or_ge k z4 with h' | h'
          · exact absurd hk (HO7.out.ahead h')
          · omega) (Nat.le_trans hz4 (Nat.le_trans HZW4.out HZ7.out))).trans (hcb.below (B := z) (fun k hk => by rw [List.mem_singleton.1 hk]; exact HZP.out) (Nat.le_trans hz4 (Nat.le_trans HZW4.out (Nat.le_trans HZ7.out hch.size)))))
      have hz9 : z4 ≤ (w8.setCell ⟨p, 1, none⟩ (.slice a' (s.n + 1) c')).heap.size := Nat.le_trans HZW4.out (Nat.le_trans HZ7.out (Nat.le_trans hch.size hcb.size))
      have hrn : readRsIs (m1.take (k + 1)) = .ok ((lq ++ [v']).map RsIV.rq) := by rw [HRN.out, List.map_append, List.map_cons, List.map_nil]
      have H9 := hid (And.intro hrn (And.intro hbw9 (And.intro hz9 (And.intro ho9 (And.intro hnf hpb9)))))
      clear ho8 hch hcb hnf ho9 hpb9 hz4 hbw9 hz9 hrn
      go_wp2_with fail
      go_roundw
      case rel =>
        have hsk := HSK.out
        first
          | exact ⟨k + 1, ⟨a', s.n + 1, c'⟩, lq ++ [v'], by omega, by go_num, by simp; omega, H9.out⟩
          | ((repeat apply Exists.intro); exact ⟨⟨k + 1, ⟨a', s.n + 1, c'⟩, lq ++ [v'], by omega, by go_num, by simp; omega, H9.out⟩, rfl⟩)
      case measure => simp [intOf]; omega
    · obtain rfl : k = kn := by omega
      have HRI2 : Hid (readRsIs m1 = .ok (lq.map RsIV.rq)) := by
        have := HRI.out
        rwa [List.take_of_length_le (by rw [← HMm.out, List.length_map]; have := HKN.out; omega)] at this
      have HEQ := hid (HRV.out (lq.map RsIV.rq) HRI2.out)
      have HB := hid (B3.out.below HBR.out)
      have HNB5 := hid ((HBR.out.block _ (block_lt HNB3.out)).trans HNB3.out)
      have HCE' := hid (cell_later HBR.out HCE.out)
      have HSE' := hid (HSE.out.below HBR.out)
      have HQL : Hid (((lq.map RsIV.rq).length : Int) = (s.n : Int)) := by show _ = _; rw [List.length_map, HO.out.len]
      rw [HQL.out] at HEQ
      have HQO : Hid (RsV.ok wr { time := tm, its := s, items := lq }) := ⟨HO.out.sl (Nat.le_trans (Nat.le_of_eq HSK.out) (by omega)), HO.out.ok⟩
      have HSB2 : Hid (∀ k ∈ s.blk, z4 ≤ k) := blk_own HO.out.own
      clear HRI HRI2 HRV HRE HCE HSE HSm HAm HMm HBR HBW HO HQL HKN
      go_upto_region 28 with (fail)
      clear hcm
      by_cases h0 : j0 = 1
      rotate_left
      · have H0 : Hid ((j0 != 1) = true) := by show _ = _; simpa using h0
        have HE : Hid (readRs v.it = .error 4) := by show _ = _; rw [HEQ.out, if_pos (by rw [H0.out]; rfl)]
        clear h0
        refine wp_region_each 16 [.eq (.int .i64 j0), .eq (.bool true), .eq (.bool true), .eq undef, .eq undef, .eq (.bool true), .eq (.bool true), .eq undef, .eq undef, .eq undef, .eq undef, .eq undef, .eq undef, .eq undef, .eq undef, .eq (.bool true)] (by kernel_rfl) (by kernel_rfl) (by kernel_rfl) (by kernel_rfl) ?_ ?_
        · as_aux_lemma =>
            refine each_c (o' := _) ?_ (each_c (o' := _) ?_ (each_c (o' := _) ?_ (each_c (o' := _) ?_ (each_c (o' := _) ?_ (each_c (o' := _) ?_ (each_c (o' := _) ?_ (each_c (o' := _) ?_ (each_c (o' := _) ?_ (each_c (o' := _) ?_ (each_c (o' := _) ?_ (each_c (o' := _) ?_ (each_c (o' := _) ?_ (each_c (o' := _) ?_ (each_c (o' := _) ?_ (each_c (o' := _) ?_ (each_n))))))))))))))))
            -- 0: move t8
            · intro w1 hg Ar seen
              have s8 := seen.slot 8 (v := .int .i64 j0) (by kernel_rfl) rfl
              refine does_plain rfl fun K Q' hK => ?_
              go_simp; exact hK _ _ (Grow.refl _) rfl
            -- 1: binOp BinOp.neq 3 t163 1:i64 3
            · intro w1 hg Ar seen
              obtain ⟨v0, e0, h0⟩ := seen.dep 0 (d := 163) (by kernel_rfl) (by kernel_rfl) rfl
              rcases h0 with rfl
              refine does_plain rfl fun K Q' hK => ?_
              have hz := H0.out
              go_simp; exact hK _ _ (Grow.refl _) rfl
            -- 2: move t164
            · intro w1 hg Ar seen
              obtain ⟨v1, e1, h1⟩ := seen.dep 1 (d := 164) (by kernel_rfl) (by kernel_rfl) rfl
              rcases h1 with rfl
              refine does_plain rfl fun K Q' hK => ?_
              go_simp; exact hK _ _ (Grow.refl _) rfl
            -- 3: move t9
            · intro w1 hg Ar seen
              obtain ⟨v2, e2, h2⟩ := seen.dep 2 (d := 165) (by kernel_rfl) (by kernel_rfl) rfl
              rcases h2 with rfl
              exact does_off rfl (by kernel_rfl) e2 ne_tf (Grow.refl _) rfl
            -- 4: binOp BinOp.neq 3 t166 4:i64 3
            · intro w1 hg Ar seen
              obtain ⟨v2, e2, h2⟩ := seen.dep 2 (d := 165) (by kernel_rfl) (by kernel_rfl) rfl
              rcases h2 with rfl
              exact does_off rfl (by kernel_rfl) e2 ne_tf (Grow.refl _) rfl
            -- 5: pick t165 true t167
            · intro w1 hg Ar seen
              obtain ⟨v2, e2, h2⟩ := seen.dep 2 (d := 165) (by kernel_rfl) (by kernel_rfl) rfl
              rcases h2 with rfl
              obtain ⟨v4, e4, h4⟩ := seen.dep 4 (d := 167) (by kernel_rfl) (by kernel_rfl) rfl
              rcases h4 with rfl
              refine does_plain rfl fun K Q' hK => ?_
              go_simp; exact hK _ _ (Grow.refl _) rfl
            -- 6: move t168
            · intro w1 hg Ar seen
              obtain ⟨v5, e5, h5⟩ := seen.dep 5 (d := 168) (by kernel_rfl) (by kernel_rfl) rfl
              rcases h5 with rfl
              refine does_plain rfl fun K Q' hK => ?_
              go_simp; exact hK _ _ (Grow.refl _) rfl
            -- 7: move t7
            · intro w1 hg Ar seen
              obtain ⟨v6, e6, h6⟩ := seen.dep 6 (d := 169) (by kernel_rfl) (by kernel_rfl) rfl
              rcases h6 with rfl
              exact does_off rfl (by kernel_rfl) e6 ne_tf (Grow.refl _) rfl
            -- 8: indexAddr 63 t170 2:i64
            · intro w1 hg Ar seen
              obtain ⟨v6, e6, h6⟩ := seen.dep 6 (d := 169) (by kernel_rfl) (by kernel_rfl) rfl
              rcases h6 with rfl
              exact does_off rfl (by kernel_rfl) e6 ne_tf (Grow.refl _) rfl
            -- 9: load 25 t171
            · intro w1 hg Ar seen
              obtain ⟨v6, e6, h6⟩ := seen.dep 6 (d := 169) (by kernel_rfl) (by kernel_rfl) rfl
              rcases h6 with rfl
              exact does_off rfl (by kernel_rfl) e6 ne_tf (Grow.refl _) rfl
            -- 10: call fn41<locksmithref15.number> [t172, 0:i64] T[25, 3]
            · intro w1 hg Ar seen
              obtain ⟨v6, e6, h6⟩ := seen.dep 6 (d := 169) (by kernel_rfl) (by kernel_rfl) rfl
              rcases h6 with rfl
              exact does_off rfl (by kernel_rfl) e6 ne_tf (Grow.refl _) rfl
            -- 11: fieldAddr 31 t10 1
            · intro w1 hg Ar seen
              obtain ⟨v6, e6, h6⟩ := seen.dep 6 (d := 169) (by kernel_rfl) (by kernel_rfl) rfl
              rcases h6 with rfl
              exact does_off rfl (by kernel_rfl) e6 ne_tf (Grow.refl _) rfl
            -- 12: load 29 t174
            · intro w1 hg Ar seen
              obtain ⟨v6, e6, h6⟩ := seen.dep 6 (d := 169) (by kernel_rfl) (by kernel_rfl) rfl
              rcases h6 with rfl
              exact does_off rfl (by kernel_rfl) e6 ne_tf (Grow.refl _) rfl
            -- 13: call len [t175] T[29]
            · intro w1 hg Ar seen
              obtain ⟨v6, e6, h6⟩ := seen.dep 6 (d := 169) (by kernel_rfl) (by kernel_rfl) rfl
              rcases h6 with rfl
              exact does_off rfl (by kernel_rfl) e6 ne_tf (Grow.refl _) rfl
            -- 14: binOp BinOp.neq 3 t173 t176 3
            · intro w1 hg Ar seen
              obtain ⟨v6, e6, h6⟩ := seen.dep 6 (d := 169) (by kernel_rfl) (by kernel_rfl) rfl
              rcases h6 with rfl
              exact does_off rfl (by kernel_rfl) e6 ne_tf (Grow.refl _) rfl
            -- 15: pick t169 true t177
            · intro w1 hg Ar seen
              obtain ⟨v6, e6, h6⟩ := seen.dep 6 (d := 169) (by kernel_rfl) (by kernel_rfl) rfl
              rcases h6 with rfl
              obtain ⟨v14, e14, h14⟩ := seen.dep 14 (d := 177) (by kernel_rfl) (by kernel_rfl) rfl
              rcases h14 with rfl
              refine does_plain rfl fun K Q' hK => ?_
              go_simp; exact hK _ _ (Grow.refl _) rfl
        intro w1 hg
        refine upon_w' (js := [0, 1, 2, 3, 4, 5, 6, 7, 8, 9, 10, 11, 12, 13, 14, 15]) (by rfl) ?_
        refine upon_c (x := some 163) (by kernel_rfl) rfl fun v0 h0 => ?_
        rcases h0 with rfl
        refine upon_c (x := some 164) (by kernel_rfl) rfl fun v1 h1 => ?_
        rcases h1 with rfl
        refine upon_c (x := some 165) (by kernel_rfl) rfl fun v2 h2 => ?_
        rcases h2 with rfl
        refine upon_c (x := some 166) (by kernel_rfl) rfl fun v3 h3 => ?_
        rcases h3 with rfl
        refine upon_c (x := some 167) (by kernel_rfl) rfl fun v4 h4 => ?_
        rcases h4 with rfl
        refine upon_c (x := some 168) (by kernel_rfl) rfl fun v5 h5 => ?_
        rcases h5 with rfl
        refine upon_c (x := some 169) (by kernel_rfl) rfl fun v6 h6 => ?_
        rcases h6 with rfl
        refine upon_c (x := some 170) (by kernel_rfl) rfl fun v7 h7 => ?_
        rcases h7 with rfl
        refine upon_c (x := some 171) (by kernel_rfl) rfl fun v8 h8 => ?_
        rcases h8 with rfl
        refine upon_c (x := some 172) (by kernel_rfl) rfl fun v9 h9 => ?_
        rcases h9 with rfl
        refine upon_c (x := some 173) (by kernel_rfl) rfl fun v10 h10 => ?_
        rcases h10 with rfl
        refine upon_c (x := some 174) (by kernel_rfl) rfl fun v11 h11 => ?_
        rcases h11 with rfl
        refine upon_c (x := some 175) (by kernel_rfl) rfl fun v12 h12 => ?_
        rcases h12 with rfl
        refine upon_c (x := some 176) (by kernel_rfl) rfl fun v13 h13 => ?_
        rcases h13 with rfl
        refine upon_c (x := some 177) (by kernel_rfl) rfl fun v14 h14 => ?_
        rcases h14 with rfl
        refine upon_c (x := some 178) (by kernel_rfl) rfl fun v15 h15 => ?_
        rcases h15 with rfl
        refine upon_n ?_
        go_simp
        have HB2 := hid (HB.out.below hg)
        have HNB6 := hid ((hg.block _ (block_lt HNB5.out)).trans HNB5.out)
        clear hg
        go_wp2_with (first | (refine wpList_load_row rfl 31 _ rfl nb rfl _ _ _ _ HNB6.out Try.underlying31 rfl pSize ?_) | (refine wpList_store_obj rfl 31 _ _ rfl (b + 1) rfl rpZ.arr rfl _ _ HB2.out.res rfl pSize (parr_one _) ?_; intro w10 hb10 hc10 hs10; have HB10 := hid hb10; have HC10 := hid hc10; clear hb10 hc10 hs10))
        refine bodyPost_ret (results_cell_tmp rfl _ _ (b + 1) _ _ _ _ rfl HB10.out Try.underlying31 rfl pSize _ rfl) rfl ?_
        rw [HE.out]
        exact ⟨rfl, by rw [HBE.out]; exact HB2.out.done HC10.out⟩
      have H0 : Hid ((j0 != 1) = false) := by show _ = _; simp [h0]
      clear h0
      by_cases h1 : j1 = 4
      rotate_left
      · have H1 : Hid ((j1 != 4) = true) := by show _ = _; simpa using h1
        have HE : Hid (readRs v.it = .error 4) := by show _ = _; rw [HEQ.out, if_pos (by rw [H1.out]; simp)]
        clear h1
        refine wp_region_each 16 [.eq (.int .i64 j0), .eq (.bool false), .eq (.bool false), .eq (.int .i64 j1), .eq (.bool true), .eq (.bool true), .eq (.bool true), .eq undef, .eq undef, .eq undef, .eq undef, .eq undef, .eq undef, .eq undef, .eq undef, .eq (.bool true)] (by kernel_rfl) (by kernel_rfl) (by kernel_rfl) (by kernel_rfl) ?_ ?_
        · as_aux_lemma =>
            refine each_c (o' := _) ?_ (each_c (o' := _) ?_ (each_c (o' := _) ?_ (each_c (o' := _) ?_ (each_c (o' := _) ?_ (each_c (o' := _) ?_ (each_c (o' := _) ?_ (each_c (o' := _) ?_ (each_c (o' := _) ?_ (each_c (o' := _) ?_ (each_c (o' := _) ?_ (each_c (o' := _) ?_ (each_c (o' := _) ?_ (each_c (o' := _) ?_ (each_c (o' := _) ?_ (each_c (o' := _) ?_ (each_n))))))))))))))))
            -- 0: move t8
            · intro w1 hg Ar seen
              have s8 := seen.slot 8 (v := .int .i64 j0) (by kernel_rfl) rfl
              refine does_plain rfl fun K Q' hK => ?_
              go_simp; exact hK _ _ (Grow.refl _) rfl
            -- 1: binOp BinOp.neq 3 t163 1:i64 3
            · intro w1 hg Ar seen
              obtain ⟨v0, e0, h0⟩ := seen.dep 0 (d := 163) (by kernel_rfl) (by kernel_rfl) rfl
              rcases h0 with rfl
              refine does_plain rfl fun K Q' hK => ?_
              have hz := H0.out
              go_simp; exact hK _ _ (Grow.refl _) rfl
            -- 2: move t164
            · intro w1 hg Ar seen
              obtain ⟨v1, e1, h1⟩ := seen.dep 1 (d := 164) (by kernel_rfl) (by kernel_rfl) rfl
              rcases h1 with rfl
              refine does_plain rfl fun K Q' hK => ?_
              go_simp; exact hK _ _ (Grow.refl _) rfl
            -- 3: move t9
            · intro w1 hg Ar seen
              obtain ⟨v2, e2, h2⟩ := seen.dep 2 (d := 165) (by kernel_rfl) (by kernel_rfl) rfl
              rcases h2 with rfl
              have s9 := seen.slot 9 (v := .int .i64 j1) (by kernel_rfl) rfl
              refine does_on rfl (by kernel_rfl) e2 fun K Q' hK => ?_
              clear e2
              go_simp; exact hK _ _ (Grow.refl _) rfl
            -- 4: binOp BinOp.neq 3 t166 4:i64 3
            · intro w1 hg Ar seen
              obtain ⟨v3, e3, h3⟩ := seen.dep 3 (d := 166) (by kernel_rfl) (by kernel_rfl) rfl
              rcases h3 with rfl
              obtain ⟨v2, e2, h2⟩ := seen.dep 2 (d := 165) (by kernel_rfl) (by kernel_rfl) rfl
              rcases h2 with rfl
              refine does_on rfl (by kernel_rfl) e2 fun K Q' hK => ?_
              clear e2
              have hz := H1.out
              go_simp; exact hK _ _ (Grow.refl _) rfl
            -- 5: pick t165 true t167
            · intro w1 hg Ar seen
              obtain ⟨v2, e2, h2⟩ := seen.dep 2 (d := 165) (by kernel_rfl) (by kernel_rfl) rfl
              rcases h2 with rfl
              obtain ⟨v4, e4, h4⟩ := seen.dep 4 (d := 167) (by kernel_rfl) (by kernel_rfl) rfl
              rcases h4 with rfl
              refine does_plain rfl fun K Q' hK => ?_
              go_simp; exact hK _ _ (Grow.refl _) rfl
            -- 6: move t168
            · intro w1 hg Ar seen
              obtain ⟨v5, e5, h5⟩ := seen.dep 5 (d := 168) (by kernel_rfl) (by kernel_rfl) rfl
              rcases h5 with rfl
              refine does_plain rfl fun K Q' hK => ?_
              go_simp; exact hK _ _ (Grow.refl _) rfl
            -- 7: move t7
            · intro w1 hg Ar seen
              obtain ⟨v6, e6, h6⟩ := seen.dep 6 (d := 169) (by kernel_rfl) (by kernel_rfl) rfl
              rcases h6 with rfl
              exact does_off rfl (by kernel_rfl) e6 ne_tf (Grow.refl _) rfl
            -- 8: indexAddr 63 t170 2:i64
            · intro w1 hg Ar seen
              obtain ⟨v6, e6, h6⟩ := seen.dep 6 (d := 169) (by kernel_rfl) (by kernel_rfl) rfl
              rcases h6 with rfl
              exact does_off rfl (by kernel_rfl) e6 ne_tf (Grow.refl _) rfl
            -- 9: load 25 t171
            · intro w1 hg Ar seen
              obtain ⟨v6, e6, h6⟩ := seen.dep 6 (d := 169) (by kernel_rfl) (by kernel_rfl) rfl
              rcases h6 with rfl
              exact does_off rfl (by kernel_rfl) e6 ne_tf (Grow.refl _) rfl
            -- 10: call fn41<locksmithref15.number> [t172, 0:i64] T[25, 3]
            · intro w1 hg Ar seen
              obtain ⟨v6, e6, h6⟩ := seen.dep 6 (d := 169) (by kernel_rfl) (by kernel_rfl) rfl
              rcases h6 with rfl
              exact does_off rfl (by kernel_rfl) e6 ne_tf (Grow.refl _) rfl
            -- 11: fieldAddr 31 t10 1
            · intro w1 hg Ar seen
              obtain ⟨v6, e6, h6⟩ := seen.dep 6 (d := 169) (by kernel_rfl) (by kernel_rfl) rfl
              rcases h6 with rfl
              exact does_off rfl (by kernel_rfl) e6 ne_tf (Grow.refl _) rfl
            -- 12: load 29 t174
            · intro w1 hg Ar seen
              obtain ⟨v6, e6, h6⟩ := seen.dep 6 (d := 169) (by kernel_rfl) (by kernel_rfl) rfl
              rcases h6 with rfl
              exact does_off rfl (by kernel_rfl) e6 ne_tf (Grow.refl _) rfl
            -- 13: call len [t175] T[29]
            · intro w1 hg Ar seen
              obtain ⟨v6, e6, h6⟩ := seen.dep 6 (d := 169) (by kernel_rfl) (by kernel_rfl) rfl
              rcases h6 with rfl
              exact does_off rfl (by kernel_rfl) e6 ne_tf (Grow.refl _) rfl
            -- 14: binOp BinOp.neq 3 t173 t176 3
            · intro w1 hg Ar seen
              obtain ⟨v6, e6, h6⟩ := seen.dep 6 (d := 169) (by kernel_rfl) (by kernel_rfl) rfl
              rcases h6 with rfl
              exact does_off rfl (by kernel_rfl) e6 ne_tf (Grow.refl _) rfl
            -- 15: pick t169 true t177
            · intro w1 hg Ar seen
              obtain ⟨v6, e6, h6⟩ := seen.dep 6 (d := 169) (by kernel_rfl) (by kernel_rfl) rfl
              rcases h6 with rfl
              obtain ⟨v14, e14, h14⟩ := seen.dep 14 (d := 177) (by kernel_rfl) (by kernel_rfl) rfl
              rcases h14 with rfl
              refine does_plain rfl fun K Q' hK => ?_
              go_simp; exact hK _ _ (Grow.refl _) rfl
        intro w1 hg
        refine upon_w' (js := [0, 1, 2, 3, 4, 5, 6, 7, 8, 9, 10, 11, 12, 13, 14, 15]) (by rfl) ?_
        refine upon_c (x := some 163) (by kernel_rfl) rfl fun v0 h0 => ?_
        rcases h0 with rfl
        refine upon_c (x := some 164) (by kernel_rfl) rfl fun v1 h1 => ?_
        rcases h1 with rfl
        refine upon_c (x := some 165) (by kernel_rfl) rfl fun v2 h2 => ?_
        rcases h2 with rfl
        refine upon_c (x := some 166) (by kernel_rfl) rfl fun v3 h3 => ?_
        rcases h3 with rfl
        refine upon_c (x := some 167) (by kernel_rfl) rfl fun v4 h4 => ?_
        rcases h4 with rfl
        refine upon_c (x := some 168) (by kernel_rfl) rfl fun v5 h5 => ?_
        rcases h5 with rfl
        refine upon_c (x := some 169) (by kernel_rfl) rfl fun v6 h6 => ?_
        rcases h6 with rfl
        refine upon_c (x := some 170) (by kernel_rfl) rfl fun v7 h7 => ?_
        rcases h7 with rfl
        refine upon_c (x := some 171) (by kernel_rfl) rfl fun v8 h8 => ?_
        rcases h8 with rfl
        refine upon_c (x := some 172) (by kernel_rfl) rfl fun v9 h9 => ?_
        rcases h9 with rfl
        refine upon_c (x := some 173) (by kernel_rfl) rfl fun v10 h10 => ?_
        rcases h10 with rfl
        refine upon_c (x := some 174) (by kernel_rfl) rfl fun v11 h11 => ?_
        rcases h11 with rfl
        refine upon_c (x := some 175) (by kernel_rfl) rfl fun v12 h12 => ?_
        rcases h12 with rfl
        refine upon_c (x := some 176) (by kernel_rfl) rfl fun v13 h13 => ?_
        rcases h13 with rfl
        refine upon_c (x := some 177) (by kernel_rfl) rfl fun v14 h14 => ?_
        rcases h14 with rfl
        refine upon_c (x := some 178) (by kernel_rfl) rfl fun v15 h15 => ?_
        rcases h15 with rfl
        refine upon_n ?_
        go_simp
        have HB2 := hid (HB.out.below hg)
        have HNB6 := hid ((hg.block _ (block_lt HNB5.out)).trans HNB5.out)
        clear hg
        go_wp2_with (first | (refine wpList_load_row rfl 31 _ rfl nb rfl _ _ _ _ HNB6.out Try.underlying31 rfl pSize ?_) | (refine wpList_store_obj rfl 31 _ _ rfl (b + 1) rfl rpZ.arr rfl _ _ HB2.out.res rfl pSize (parr_one _) ?_; intro w10 hb10 hc10 hs10; have HB10 := hid hb10; have HC10 := hid hc10; clear hb10 hc10 hs10))
        refine bodyPost_ret (results_cell_tmp rfl _ _ (b + 1) _ _ _ _ rfl HB10.out Try.underlying31 rfl pSize _ rfl) rfl ?_
        rw [HE.out]
        exact ⟨rfl, by rw [HBE.out]; exact HB2.out.done HC10.out⟩
      have H1 : Hid ((j1 != 4) = false) := by show _ = _; simp [h1]
      clear h1
      by_cases h2 : j4 = (s.n : Int)
      rotate_left
      · have H2 : Hid ((j4 != (s.n : Int)) = true) := by show _ = _; simpa using h2
        have HE : Hid (readRs v.it = .error 4) := by show _ = _; rw [HEQ.out, if_pos (by rw [H2.out]; simp)]
        clear h2
        refine wp_region_each 16 [.eq (.int .i64 j0), .eq (.bool false), .eq (.bool false), .eq (.int .i64 j1), .eq (.bool false), .eq (.bool false), .eq (.bool false), .eq (.slice (some ⟨gh, 0, none⟩) 3 ch), .eq (.pointer (some ⟨gh, 2, none⟩)), .eq (.slice se.a se.n se.c), .eq (.int .i64 j4), .eq (.pointer (some ⟨p, 1, none⟩)), .eq (.slice s.a s.n s.c), .eq (.int .i64 (s.n : Int)), .eq (.bool true), .eq (.bool true)] (by kernel_rfl) (by kernel_rfl) (by kernel_rfl) (by kernel_rfl) ?_ ?_
        · as_aux_lemma =>
            refine each_c (o' := _) ?_ (each_c (o' := _) ?_ (each_c (o' := _) ?_ (each_c (o' := _) ?_ (each_c (o' := _) ?_ (each_c (o' := _) ?_ (each_c (o' := _) ?_ (each_c (o' := _) ?_ (each_c (o' := _) ?_ (each_c (o' := _) ?_ (each_c (o' := _) ?_ (each_c (o' := _) ?_ (each_c (o' := _) ?_ (each_c (o' := _) ?_ (each_c (o' := _) ?_ (each_c (o' := _) ?_ (each_n))))))))))))))))
            -- 0: move t8
            · intro w1 hg Ar seen
              have s8 := seen.slot 8 (v := .int .i64 j0) (by kernel_rfl) rfl
              refine does_plain rfl fun K Q' hK => ?_
              go_simp; exact hK _ _ (Grow.refl _) rfl
            -- 1: binOp BinOp.neq 3 t163 1:i64 3
            · intro w1 hg Ar seen
              obtain ⟨v0, e0, h0⟩ := seen.dep 0 (d := 163) (by kernel_rfl) (by kernel_rfl) rfl
              rcases h0 with rfl
              refine does_plain rfl fun K Q' hK => ?_
              have hz := H0.out
              go_simp; exact hK _ _ (Grow.refl _) rfl
            -- 2: move t164
            · intro w1 hg Ar seen
              obtain ⟨v1, e1, h1⟩ := seen.dep 1 (d := 164) (by kernel_rfl) (by kernel_rfl) rfl
              rcases h1 with rfl
              refine does_plain rfl fun K Q' hK => ?_
              go_simp; exact hK _ _ (Grow.refl _) rfl
            -- 3: move t9
            · intro w1 hg Ar seen
              obtain ⟨v2, e2, h2⟩ := seen.dep 2 (d := 165) (by kernel_rfl) (by kernel_rfl) rfl
              rcases h2 with rfl
              have s9 := seen.slot 9 (v := .int .i64 j1) (by kernel_rfl) rfl
              refine does_on rfl (by kernel_rfl) e2 fun K Q' hK => ?_
              clear e2
              go_simp; exact hK _ _ (Grow.refl _) rfl
            -- 4: binOp BinOp.neq 3 t166 4:i64 3
            · intro w1 hg Ar seen
              obtain ⟨v3, e3, h3⟩ := seen.dep 3 (d := 166) (by kernel_rfl) (by kernel_rfl) rfl
              rcases h3 with rfl
              obtain ⟨v2, e2, h2⟩ := seen.dep 2 (d := 165) (by kernel_rfl) (by kernel_rfl) rfl
              rcases h2 with rfl
              refine does_on rfl (by kernel_rfl) e2 fun K Q' hK => ?_
              clear e2
              have hz := H1.out
              go_simp; exact hK _ _ (Grow.refl _) rfl
            -- 5: pick t165 true t167
            · intro w1 hg Ar seen
              obtain ⟨v2, e2, h2⟩ := seen.dep 2 (d := 165) (by kernel_rfl) (by kernel_rfl) rfl
              rcases h2 with rfl
              obtain ⟨v4, e4, h4⟩ := seen.dep 4 (d := 167) (by kernel_rfl) (by kernel_rfl) rfl
              rcases h4 with rfl
              refine does_plain rfl fun K Q' hK => ?_
              go_simp; exact hK _ _ (Grow.refl _) rfl
            -- 6: move t168
            · intro w1 hg Ar seen
              obtain ⟨v5, e5, h5⟩ := seen.dep 5 (d := 168) (by kernel_rfl) (by kernel_rfl) rfl
              rcases h5 with rfl
              refine does_plain rfl fun K Q' hK => ?_
              go_simp; exact hK _ _ (Grow.refl _) rfl
            -- 7: move t7
            · intro w1 hg Ar seen
              obtain ⟨v6, e6, h6⟩ := seen.dep 6 (d := 169) (by kernel_rfl) (by kernel_rfl) rfl
              rcases h6 with rfl
              have s7 := seen.slot 7 (v := .slice (some ⟨gh, 0, none⟩) 3 ch) (by kernel_rfl) rfl
              refine does_on rfl (by kernel_rfl) e6 fun K Q' hK => ?_
              clear e6
              go_simp; exact hK _ _ (Grow.refl _) rfl
            -- 8: indexAddr 63 t170 2:i64
            · intro w1 hg Ar seen
              obtain ⟨v7, e7, h7⟩ := seen.dep 7 (d := 170) (by kernel_rfl) (by kernel_rfl) rfl
              rcases h7 with rfl
              obtain ⟨v6, e6, h6⟩ := seen.dep 6 (d := 169) (by kernel_rfl) (by kernel_rfl) rfl
              rcases h6 with rfl
              refine does_on rfl (by kernel_rfl) e6 fun K Q' hK => ?_
              clear e6
              go_simp; exact hK _ _ (Grow.refl _) rfl
            -- 9: load 25 t171
            · intro w1 hg Ar seen
              obtain ⟨v8, e8, h8⟩ := seen.dep 8 (d := 171) (by kernel_rfl) (by kernel_rfl) rfl
              rcases h8 with rfl
              obtain ⟨v6, e6, h6⟩ := seen.dep 6 (d := 169) (by kernel_rfl) (by kernel_rfl) rfl
              rcases h6 with rfl
              refine does_on rfl (by kernel_rfl) e6 fun K Q' hK => ?_
              clear e6
              have hc := cell_later hg HCE'.out
              go_simp; exact hK _ _ (Grow.refl _) rfl
            -- 10: call fn41<locksmithref15.number> [t172, 0:i64] T[25, 3]
            · intro w1 hg Ar seen
              obtain ⟨v9, e9, h9⟩ := seen.dep 9 (d := 172) (by kernel_rfl) (by kernel_rfl) rfl
              rcases h9 with rfl
              obtain ⟨v6, e6, h6⟩ := seen.dep 6 (d := 169) (by kernel_rfl) (by kernel_rfl) rfl
              rcases h6 with rfl
              refine does_on rfl (by kernel_rfl) e6 fun K Q' hK => ?_
              clear e6
              go_simp
              refine (rnumber_any se le 0 _ (HSE'.out.below hg)).mono ?_
              rintro e u ⟨rfl, rfl⟩
              exact hK _ _ (Grow.refl _) (by rw [EN4.out]; rfl)
            -- 11: fieldAddr 31 t10 1
            · intro w1 hg Ar seen
              obtain ⟨v6, e6, h6⟩ := seen.dep 6 (d := 169) (by kernel_rfl) (by kernel_rfl) rfl
              rcases h6 with rfl
              have s10 := seen.slot 10 (v := .pointer (some ⟨p, 0, none⟩)) (by kernel_rfl) rfl
              refine does_on rfl (by kernel_rfl) e6 fun K Q' hK => ?_
              clear e6
              go_simp; exact hK _ _ (Grow.refl _) rfl
            -- 12: load 29 t174
            · intro w1 hg Ar seen
              obtain ⟨v11, e11, h11⟩ := seen.dep 11 (d := 174) (by kernel_rfl) (by kernel_rfl) rfl
              rcases h11 with rfl
              obtain ⟨v6, e6, h6⟩ := seen.dep 6 (d := 169) (by kernel_rfl) (by kernel_rfl) rfl
              rcases h6 with rfl
              refine does_on rfl (by kernel_rfl) e6 fun K Q' hK => ?_
              clear e6
              have hc := cell_of_block (j := 1) ((hg.block _ (block_lt HPB.out)).trans HPB.out) (rv1 _)
              go_simp; exact hK _ _ (Grow.refl _) rfl
            -- 13: call len [t175] T[29]
            · intro w1 hg Ar seen
              obtain ⟨v12, e12, h12⟩ := seen.dep 12 (d := 175) (by kernel_rfl) (by kernel_rfl) rfl
              rcases h12 with rfl
              obtain ⟨v6, e6, h6⟩ := seen.dep 6 (d := 169) (by kernel_rfl) (by kernel_rfl) rfl
              rcases h6 with rfl
              refine does_on rfl (by kernel_rfl) e6 fun K Q' hK => ?_
              clear e6
              go_simp; exact hK _ _ (Grow.refl _) rfl
            -- 14: binOp BinOp.neq 3 t173 t176 3
            · intro w1 hg Ar seen
              obtain ⟨v10, e10, h10⟩ := seen.dep 10 (d := 173) (by kernel_rfl) (by kernel_rfl) rfl
              rcases h10 with rfl
              obtain ⟨v13, e13, h13⟩ := seen.dep 13 (d := 176) (by kernel_rfl) (by kernel_rfl) rfl
              rcases h13 with rfl
              obtain ⟨v6, e6, h6⟩ := seen.dep 6 (d := 169) (by kernel_rfl) (by kernel_rfl) rfl
              rcases h6 with rfl
              refine does_on rfl (by kernel_rfl) e6 fun K Q' hK => ?_
              clear e6
              have hz := H2.out
              go_simp; exact hK _ _ (Grow.refl _) rfl
            -- 15: pick t169 true t177
            · intro w1 hg Ar seen
              obtain ⟨v6, e6, h6⟩ := seen.dep 6 (d := 169) (by kernel_rfl) (by kernel_rfl) rfl
              rcases h6 with rfl
              obtain ⟨v14, e14, h14⟩ := seen.dep 14 (d := 177) (by kernel_rfl) (by kernel_rfl) rfl
              rcases h14 with rfl
              refine does_plain rfl fun K Q' hK => ?_
              go_simp; exact hK _ _ (Grow.refl _) rfl
        intro w1 hg
        refine upon_w' (js := [0, 1, 2, 3, 4, 5, 6, 7, 8, 9, 10, 11, 12, 13, 14, 15]) (by rfl) ?_
        refine upon_c (x := some 163) (by kernel_rfl) rfl fun v0 h0 => ?_
        rcases h0 with rfl
        refine upon_c (x := some 164) (by kernel_rfl) rfl fun v1 h1 => ?_
        rcases h1 with rfl
        refine upon_c (x := some 165) (by kernel_rfl) rfl fun v2 h2 => ?_
        rcases h2 with rfl
        refine upon_c (x := some 166) (by kernel_rfl) rfl fun v3 h3 => ?_
        rcases h3 with rfl
        refine upon_c (x := some 167) (by kernel_rfl) rfl fun v4 h4 => ?_
        rcases h4 with rfl
        refine upon_c (x := some 168) (by kernel_rfl) rfl fun v5 h5 => ?_
        rcases h5 with rfl
        refine upon_c (x := some 169) (by kernel_rfl) rfl fun v6 h6 => ?_
        rcases h6 with rfl
        refine upon_c (x := some 170) (by kernel_rfl) rfl fun v7 h7 => ?_
        rcases h7 with rfl
        refine upon_c (x := some 171) (by kernel_rfl) rfl fun v8 h8 => ?_
        rcases h8 with rfl
        refine upon_c (x := some 172) (by kernel_rfl) rfl fun v9 h9 => ?_
        rcases h9 with rfl
        refine upon_c (x := some 173) (by kernel_rfl) rfl fun v10 h10 => ?_
        rcases h10 with rfl
        refine upon_c (x := some 174) (by kernel_rfl) rfl fun v11 h11 => ?_
        rcases h11 with rfl
        refine upon_c (x := some 175) (by kernel_rfl) rfl fun v12 h12 => ?_
        rcases h12 with rfl
        refine upon_c (x := some 176) (by kernel_rfl) rfl fun v13 h13 => ?_
        rcases h13 with rfl
        refine upon_c (x := some 177) (by kernel_rfl) rfl fun v14 h14 => ?_
        rcases h14 with rfl
        refine upon_c (x := some 178) (by kernel_rfl) rfl fun v15 h15 => ?_
        rcases h15 with rfl
        refine upon_n ?_
        go_simp
        have HB2 := hid (HB.out.below hg)
        have HNB6 := hid ((hg.block _ (block_lt HNB5.out)).trans HNB5.out)
        clear hg
        go_wp2_with (first | (refine wpList_load_row rfl 31 _ rfl nb rfl _ _ _ _ HNB6.out Try.underlying31 rfl pSize ?_) | (refine wpList_store_obj rfl 31 _ _ rfl (b + 1) rfl rpZ.arr rfl _ _ HB2.out.res rfl pSize (parr_one _) ?_; intro w10 hb10 hc10 hs10; have HB10 := hid hb10; have HC10 := hid hc10; clear hb10 hc10 hs10))
        refine bodyPost_ret (results_cell_tmp rfl _ _ (b + 1) _ _ _ _ rfl HB10.out Try.underlying31 rfl pSize _ rfl) rfl ?_
        rw [HE.out]
        exact ⟨rfl, by rw [HBE.out]; exact HB2.out.done HC10.out⟩
      have H2 : Hid ((j4 != (s.n : Int)) = false) := by show _ = _; simp [h2]
      have HE : Hid (readRs v.it = .ok (RsV.rq { time := tm, its := s, items := lq })) := by show _ = _; rw [HEQ.out, if_neg (by rw [H0.out, H1.out, H2.out]; simp)]; rfl
      clear h2
      refine wp_region_each 16 [.eq (.int .i64 j0), .eq (.bool false), .eq (.bool false), .eq (.int .i64 j1), .eq (.bool false), .eq (.bool false), .eq (.bool false), .eq (.slice (some ⟨gh, 0, none⟩) 3 ch), .eq (.pointer (some ⟨gh, 2, none⟩)), .eq (.slice se.a se.n se.c), .eq (.int .i64 j4), .eq (.pointer (some ⟨p, 1, none⟩)), .eq (.slice s.a s.n s.c), .eq (.int .i64 (s.n : Int)), .eq (.bool false), .eq (.bool false)] (by kernel_rfl) (by kernel_rfl) (by kernel_rfl) (by kernel_rfl) ?_ ?_
      · as_aux_lemma =>
          refine each_c (o' := _) ?_ (each_c (o' := _) ?_ (each_c (o' := _) ?_ (each_c (o' := _) ?_ (each_c (o' := _) ?_ (each_c (o' := _) ?_ (each_c (o' := _) ?_ (each_c (o' := _) ?_ (each_c (o' := _) ?_ (each_c (o' := _) ?_ (each_c (o' := _) ?_ (each_c (o' := _) ?_ (each_c (o' := _) ?_ (each_c (o' := _) ?_ (each_c (o' := _) ?_ (each_c (o' := _) ?_ (each_n))))))))))))))))
          -- 0: move t8
          · intro w1 hg Ar seen
            have s8 := seen.slot 8 (v := .int .i64 j0) (by kernel_rfl) rfl
            refine does_plain rfl fun K Q' hK => ?_
            go_simp; exact hK _ _ (Grow.refl _) rfl
          -- 1: binOp BinOp.neq 3 t163 1:i64 3
          · intro w1 hg Ar seen
            obtain ⟨v0, e0, h0⟩ := seen.dep 0 (d := 163) (by kernel_rfl) (by kernel_rfl) rfl
            rcases h0 with rfl
            refine does_plain rfl fun K Q' hK => ?_
            have hz := H0.out
            go_simp; exact hK _ _ (Grow.refl _) rfl
          -- 2: move t164
          · intro w1 hg Ar seen
            obtain ⟨v1, e1, h1⟩ := seen.dep 1 (d := 164) (by kernel_rfl) (by kernel_rfl) rfl
            rcases h1 with rfl
            refine does_plain rfl fun K Q' hK => ?_
            go_simp; exact hK _ _ (Grow.refl _) rfl
          -- 3: move t9
          · intro w1 hg Ar seen
            obtain ⟨v2, e2, h2⟩ := seen.dep 2 (d := 165) (by kernel_rfl) (by kernel_rfl) rfl
            rcases h2 with rfl
            have s9 := seen.slot 9 (v := .int .i64 j1) (by kernel_rfl) rfl
            refine does_on rfl (by kernel_rfl) e2 fun K Q' hK => ?_
            clear e2
            go_simp; exact hK _ _ (Grow.refl _) rfl
          -- 4: binOp BinOp.neq 3 t166 4:i64 3
          · intro w1 hg Ar seen
            obtain ⟨v3, e3, h3⟩ := seen.dep 3 (d := 166) (by kernel_rfl) (by kernel_rfl) rfl
            rcases h3 with rfl
            obtain ⟨v2, e2, h2⟩ := seen.dep 2 (d := 165) (by kernel_rfl) (by kernel_rfl) rfl
            rcases h2 with rfl
            refine does_on rfl (by kernel_rfl) e2 fun K Q' hK => ?_
            clear e2
            have hz := H1.out
            go_simp; exact hK _ _ (Grow.refl _) rfl
          -- 5: pick t165 true t167
          · intro w1 hg Ar seen
            obtain ⟨v2, e2, h2⟩ := seen.dep 2 (d := 165) (by kernel_rfl) (by kernel_rfl) rfl
            rcases h2 with rfl
            obtain ⟨v4, e4, h4⟩ := seen.dep 4 (d := 167) (by kernel_rfl) (by kernel_rfl) rfl
            rcases h4 with rfl
            refine does_plain rfl fun K Q' hK => ?_
            go_simp; exact hK _ _ (Grow.refl _) rfl
          -- 6: move t168
          · intro w1 hg Ar seen
            obtain ⟨v5, e5, h5⟩ := seen.dep 5 (d := 168) (by kernel_rfl) (by kernel_rfl) rfl
            rcases h5 with rfl
            refine does_plain rfl fun K Q' hK => ?_
            go_simp; exact hK _ _ (Grow.refl _) rfl
          -- 7: move t7
          · intro w1 hg Ar seen
            obtain ⟨v6, e6, h6⟩ := seen.dep 6 (d := 169) (by kernel_rfl) (by kernel_rfl) rfl
            rcases h6 with rfl
            have s7 := seen.slot 7 (v := .slice (some ⟨gh, 0, none⟩) 3 ch) (by kernel_rfl) rfl
            refine does_on rfl (by kernel_rfl) e6 fun K Q' hK => ?_
            clear e6
            go_simp; exact hK _ _ (Grow.refl _) rfl
          -- 8: indexAddr 63 t170 2:i64
          · intro w1 hg Ar seen
            obtain ⟨v7, e7, h7⟩ := seen.dep 7 (d := 170) (by kernel_rfl) (by kernel_rfl) rfl
            rcases h7 with rfl
            obtain ⟨v6, e6, h6⟩ := seen.dep 6 (d := 169) (by kernel_rfl) (by kernel_rfl) rfl
            rcases h6 with rfl
            refine does_on rfl (by kernel_rfl) e6 fun K Q' hK => ?_
            clear e6
            go_simp; exact hK _ _ (Grow.refl _) rfl
          -- 9: load 25 t171
          · intro w1 hg Ar seen
            obtain ⟨v8, e8, h8⟩ := seen.dep 8 (d := 171) (by kernel_rfl) (by kernel_rfl) rfl
            rcases h8 with rfl
            obtain ⟨v6, e6, h6⟩ := seen.dep 6 (d := 169) (by kernel_rfl) (by kernel_rfl) rfl
            rcases h6 with rfl
            refine does_on rfl (by kernel_rfl) e6 fun K Q' hK => ?_
            clear e6
            have hc := cell_later hg HCE'.out
            go_simp; exact hK _ _ (Grow.refl _) rfl
          -- 10: call fn41<locksmithref15.number> [t172, 0:i64] T[25, 3]
          · intro w1 hg Ar seen
            obtain ⟨v9, e9, h9⟩ := seen.dep 9 (d := 172) (by kernel_rfl) (by kernel_rfl) rfl
            rcases h9 with rfl
            obtain ⟨v6, e6, h6⟩ := seen.dep 6 (d := 169) (by kernel_rfl) (by kernel_rfl) rfl
            rcases h6 with rfl
            refine does_on rfl (by kernel_rfl) e6 fun K Q' hK => ?_
            clear e6
            go_simp
            refine (rnumber_any se le 0 _ (HSE'.out.below hg)).mono ?_
            rintro e u ⟨rfl, rfl⟩
            exact hK _ _ (Grow.refl _) (by rw [EN4.out]; rfl)
          -- 11: fieldAddr 31 t10 1
          · intro w1 hg Ar seen
            obtain ⟨v6, e6, h6⟩ := seen.dep 6 (d := 169) (by kernel_rfl) (by kernel_rfl) rfl
            rcases h6 with rfl
            have s10 := seen.slot 10 (v := .pointer (some ⟨p, 0, none⟩)) (by kernel_rfl) rfl
            refine does_on rfl (by kernel_rfl) e6 fun K Q' hK => ?_
            clear e6
            go_simp; exact hK _ _ (Grow.refl _) rfl
          -- 12: load 29 t174
          · intro w1 hg Ar seen
            obtain ⟨v11, e11, h11⟩ := seen.dep 11 (d := 174) (by kernel_rfl) (by kernel_rfl) rfl
            rcases h11 with rfl
            obtain ⟨v6, e6, h6⟩ := seen.dep 6 (d := 169) (by kernel_rfl) (by kernel_rfl) rfl
            rcases h6 with rfl
            refine does_on rfl (by kernel_rfl) e6 fun K Q' hK => ?_
            clear e6
            have hc := cell_of_block (j := 1) ((hg.block _ (block_lt HPB.out)).trans HPB.out) (rv1 _)
            go_simp; exact hK _ _ (Grow.refl _) rfl
          -- 13: call len [t175] T[29]
          · intro w1 hg Ar seen
            obtain ⟨v12, e12, h12⟩ := seen.dep 12 (d := 175) (by kernel_rfl) (by kernel_rfl) rfl
            rcases h12 with rfl
            obtain ⟨v6, e6, h6⟩ := seen.dep 6 (d := 169) (by kernel_rfl) (by kernel_rfl) rfl
            rcases h6 with rfl
            refine does_on rfl (by kernel_rfl) e6 fun K Q' hK => ?_
            clear e6
            go_simp; exact hK _ _ (Grow.refl _) rfl
          -- 14: binOp BinOp.neq 3 t173 t176 3
          · intro w1 hg Ar seen
            obtain ⟨v10, e10, h10⟩ := seen.dep 10 (d := 173) (by kernel_rfl) (by kernel_rfl) rfl
            rcases h10 with rfl
            obtain ⟨v13, e13, h13⟩ := seen.dep 13 (d := 176) (by kernel_rfl) (by kernel_rfl) rfl
            rcases h13 with rfl
            obtain ⟨v6, e6, h6⟩ := seen.dep 6 (d := 169) (by kernel_rfl) (by kernel_rfl) rfl
            rcases h6 with rfl
            refine does_on rfl (by kernel_rfl) e6 fun K Q' hK => ?_
            clear e6
            have hz := H2.out
            go_simp; exact hK _ _ (Grow.refl _) rfl
          -- 15: pick t169 true t177
          · intro w1 hg Ar seen
            obtain ⟨v6, e6, h6⟩ := seen.dep 6 (d := 169) (by kernel_rfl) (by kernel_rfl) rfl
            rcases h6 with rfl
            obtain ⟨v14, e14, h14⟩ := seen.dep 14 (d := 177) (by kernel_rfl) (by kernel_rfl) rfl
            rcases h14 with rfl
            refine does_plain rfl fun K Q' hK => ?_
            go_simp; exact hK _ _ (Grow.refl _) rfl
      intro w1 hg
      refine upon_w' (js := [0, 1, 2, 3, 4, 5, 6, 7, 8, 9, 10, 11, 12, 13, 14, 15]) (by rfl) ?_
      refine upon_c (x := some 163) (by kernel_rfl) rfl fun v0 h0 => ?_
      rcases h0 with rfl
      refine upon_c (x := some 164) (by kernel_rfl) rfl fun v1 h1 => ?_
      rcases h1 with rfl
      refine upon_c (x := some 165) (by kernel_rfl) rfl fun v2 h2 => ?_
      rcases h2 with rfl
      refine upon_c (x := some 166) (by kernel_rfl) rfl fun v3 h3 => ?_
      rcases h3 with rfl
      refine upon_c (x := some 167) (by kernel_rfl) rfl fun v4 h4 => ?_
      rcases h4 with rfl
      refine upon_c (x := some 168) (by kernel_rfl) rfl fun v5 h5 => ?_
      rcases h5 with rfl
      refine upon_c (x := some 169) (by kernel_rfl) rfl fun v6 h6 => ?_
      rcases h6 with rfl
      refine upon_c (x := some 170) (by kernel_rfl) rfl fun v7 h7 => ?_
      rcases h7 with rfl
      refine upon_c (x := some 171) (by kernel_rfl) rfl fun v8 h8 => ?_
      rcases h8 with rfl
      refine upon_c (x := some 172) (by kernel_rfl) rfl fun v9 h9 => ?_
      rcases h9 with rfl
      refine upon_c (x := some 173) (by kernel_rfl) rfl fun v10 h10 => ?_
      rcases h10 with rfl
      refine upon_c (x := some 174) (by kernel_rfl) rfl fun v11 h11 => ?_
      rcases h11 with rfl
      refine upon_c (x := some 175) (by kernel_rfl) rfl fun v12 h12 => ?_
      rcases h12 with rfl
      refine upon_c (x := some 176) (by kernel_rfl) rfl fun v13 h13 => ?_
      rcases h13 with rfl
      refine upon_c (x := some 177) (by kernel_rfl) rfl fun v14 h14 => ?_
      rcases h14 with rfl
      refine upon_c (x := some 178) (by kernel_rfl) rfl fun v15 h15 => ?_
      rcases h15 with rfl
      refine upon_n ?_
      go_simp
      have HB2 := hid (HB.out.below hg)
      have HQO2 := hid (HQO.out.below hg)
      have HPB2 := hid ((hg.block _ (block_lt HPB.out)).trans HPB.out)
      clear hg
      go_wp2_with (first | (refine wpList_load_row rfl 31 _ rfl p rfl _ _ _ _ HPB2.out Try.underlying31 rfl pSize ?_) | (refine wpList_store_obj rfl 31 _ _ rfl (b + 1) rfl (RsV.arr { time := tm, its := s, items := lq }) rfl _ _ HB2.out.res rfl pSize (parr_one _) ?_; intro w10 hb10 hc10 hs10; have HB10 := hid hb10; have HC10 := hid hc10; clear hb10 hc10 hs10))
      refine bodyPost_ret (results_cell_tmp rfl _ _ (b + 1) _ _ _ _ rfl HB10.out Try.underlying31 rfl pSize _ rfl) rfl ?_
      rw [HE.out]
      refine ⟨_, rfl, rfl, ⟨HQO2.out.its.keep HC10.out (fun k hk hm => by have := List.mem_singleton.1 hm; have := HSB2.out k hk; have := HPZ.out; have := HZP.out; have := HBZ.out; omega), fun x hx => RsIV.ok.keep HC10.out (HQO2.out.each x hx) (fun k hk hm => by have h1 := HPF.out x hx k hk; have h2 := List.mem_singleton.1 hm; omega)⟩, by rw [HBE.out]; exact HB2.out.done HC10.out⟩
end Go.Proofs.Ytfcobmncbnkppaa
