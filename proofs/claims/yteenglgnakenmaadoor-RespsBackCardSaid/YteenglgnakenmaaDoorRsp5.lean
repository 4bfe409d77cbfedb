/- resps.item. -/
import Derived.Test.YteenglgnakenmaaDoorRspA
namespace Go.Proofs.YteenglgnakenmaaDoor
open Go.RowKit
set_option linter.unusedVariables false
set_option linter.unusedSimpArgs false
set_option maxRecDepth 100000
set_option maxHeartbeats 3200000
theorem sBuild0 (w : World) : (Instr.build 51 #[]).run Tryd.prog w = .ok (.agg rsZ.arr) w := by kernel_rfl
theorem sBuildI (a : Int) (h0 h1 : Bool) (c d : Int) (h5 : Bool) (w : World) : (Instr.build 51 #[(0, .int .i64 a), (1, .bool h0), (2, .bool h1), (4, .int .i64 c), (5, .int .i64 d), (8, .bool h5)]).run Tryd.prog w = .ok (.agg (RsIV.arr { op := a, hasOp := h0, hasId := h1, status := c, reason := d, hasPay := h5 })) w := by kernel_rfl
/-- What item answers. -/
def RsItemRead (r : Except Int RsI) (w : World) (e : Ending) (w' : World) : Prop :=
  match r with
  | .error c => e = .returned (.tuple #[.agg rsZ.arr, .int .i64 c]) ∧ (c == 0) = false ∧ Below w.heap.size w w'
  | .ok x => ∃ v : RsIV, e = .returned (.tuple #[.agg v.arr, .int .i64 0]) ∧ v.rq = x ∧ v.ok w' ∧ (∀ k ∈ v.foot, w.heap.size ≤ k) ∧ Below w.heap.size w w'
theorem isEmpty_pos {α : Type} {l : List α} {n : Nat} (h : n = l.length) : (!l.isEmpty) = decide (0 < n) := by
  subst h; cases l <;> simp
theorem rsitem_any (v : ItV) (w : World) (hv : v.ok w) : Calls Tryd.prog 24 #[.agg v.arr] w (RsItemRead (readRsI v.it) w) := by
  obtain ⟨i, hi, hz0, hz1, hz2⟩ := info_parts fInfo
  have HV := hid hv
  clear hv
  generalize hbe : w.heap.size = b
  have HBE := hid hbe; clear hbe
  go_enter Tryd.func24, Tryd.ntmps24
  go_upto_region 1 with (refine wpList_alloc_obj rfl 51 rfl _ sZero ?_)
  go_simp
  have B0 := hid (Bx2.start (T := 30) (T' := 51) (cs := v.arr) (zs := rsZ.arr) (w := w) HBE.out)
  rw [HBE.out]
  have HV0 := hid (HV.out.below (((Below.refl _ w).alloc (Nat.le_refl _) (.cells v.arr 30)).alloc (by simp) (.cells rsZ.arr 51)))
  generalize (w.alloc (.cells v.arr 30)).alloc (.cells rsZ.arr 51) = W at *
  clear HV
  have HRI : Hid (readRsI v.it = match parseV rItemF v.it with
    | .error c => .error c
    | .ok r => .ok { op := numV (r.getD 0 []) 0, hasOp := !(r.getD 0 []).isEmpty, hasId := !(r.getD 1 []).isEmpty, id := (firstI (r.getD 1 [])).data, status := numV (r.getD 2 []) 0, reason := numV (r.getD 3 []) 0, msg := ⟨(firstI (r.getD 4 [])).data.toArray⟩, pay := firstI (r.getD 5 []), hasPay := !(r.getD 5 []).isEmpty }) := rfl
  rcases hp : parseV rItemF v.it with c | r
  · rw [hp] at HRI
    refine wp_region_each 14 [.eq (.agg v.arr), .eq (.agg (maybeF 4325468 5).arr), .eq (.agg (maybeF 4325523 8).arr), .eq (.agg (needF 4325503 5).arr), .eq (.agg (maybeF 4325502 5).arr), .eq (.agg (maybeF 4325501 7).arr), .eq (.agg (maybeF 4325500 1).arr), stF rItemF, .eq (.tuple #[.slice none 0 0, .int .i64 c]), .eq (.tuple #[.slice none 0 0, .int .i64 c]), .eq (.slice none 0 0), .eq (.int .i64 c), .eq (.slice none 0 0), .eq (.int .i64 c)] (by kernel_rfl) (by kernel_rfl) (by kernel_rfl) (by kernel_rfl) ?_ ?_
    · as_aux_lemma =>
        refine each_5 ?_ ?_ ?_ ?_ ?_ (each_5 ?_ ?_ ?_ ?_ ?_ (each_c ?_ (each_c ?_ (each_c ?_ (each_c ?_ (each_n))))))
        · intro w1 hg Ar seen
          have s1 := seen.sl 1 (.pointer (some ⟨b, 0, none⟩))
          refine does_plain rfl fun K Q' hK => ?_
          refine wp_load_row 30 _ rfl b (by simp [Act.eval, s1]) _ _ _ _ ((hg.block _ (block_lt B0.out.box)).trans B0.out.box) Tryd.underlying30 rfl iSize ?_
          exact hK _ _ (Grow.refl _) rfl
        · intro w1 hg Ar seen
          refine does_plain rfl fun K Q' hK => ?_
          go_simp
          refine (smaybe_any _ _ _).mono ?_
          rintro e u ⟨rfl, hb⟩
          exact hK _ _ hb rfl
        · intro w1 hg Ar seen
          refine does_plain rfl fun K Q' hK => ?_
          go_simp
          refine (smaybe_any _ _ _).mono ?_
          rintro e u ⟨rfl, hb⟩
          exact hK _ _ hb rfl
        · intro w1 hg Ar seen
          refine does_plain rfl fun K Q' hK => ?_
          go_simp
          refine (sneed_any _ _ _).mono ?_
          rintro e u ⟨rfl, hb⟩
          exact hK _ _ hb rfl
        · intro w1 hg Ar seen
          refine does_plain rfl fun K Q' hK => ?_
          go_simp
          refine (smaybe_any _ _ _).mono ?_
          rintro e u ⟨rfl, hb⟩
          exact hK _ _ hb rfl
        · intro w1 hg Ar seen
          refine does_plain rfl fun K Q' hK => ?_
          go_simp
          refine (smaybe_any _ _ _).mono ?_
          rintro e u ⟨rfl, hb⟩
          exact hK _ _ hb rfl
        · intro w1 hg Ar seen
          refine does_plain rfl fun K Q' hK => ?_
          go_simp
          refine (smaybe_any _ _ _).mono ?_
          rintro e u ⟨rfl, hb⟩
          exact hK _ _ hb rfl
        · intro w1 hg Ar seen
          have e1 := seen.de 1 9
          have e2 := seen.de 2 10
          have e3 := seen.de 3 11
          have e4 := seen.de 4 12
          have e5 := seen.de 5 13
          have e6 := seen.de 6 14
          refine does_plain rfl fun K Q' hK => ?_
          refine wp_build_flds _ 64 6 _ rfl rItemF rfl (by decide) (by decide) (by simp [Act.eval, e1, e2, e3, e4, e5, e6]; rfl) (fldCells rItemF).toArray (by simp) i Tryd.underlying66 hi hz0 hz1 (by kernel_rfl) ?_
          intro s hs
          exact hK _ _ ((Below.refl _ _).alloc (Nat.le_refl _) _) ⟨s, rfl, hs⟩
        · intro w1 hg Ar seen
          have e0 := seen.de 0 8
          obtain ⟨v7, e7, h7⟩ := seen.dp 7 15
          refine does_plain rfl fun K Q' hK => ?_
          obtain ⟨sf, rfl, hsf⟩ := h7
          go_simp
          refine (parse_any v sf rItemF _ (HV0.out.below hg) hsf).mono ?_
          intro e u hres
          obtain ⟨rfl, hb⟩ := parsed_err hres hp
          exact hK _ _ hb rfl
        · intro w1 hg Ar seen
          have e8 := seen.de 8 16
          refine does_plain rfl fun K Q' hK => ?_
          go_simp; exact hK _ _ (Grow.refl _) rfl
        · intro w1 hg Ar seen
          have e9 := seen.de 9 7
          refine does_plain rfl fun K Q' hK => ?_
          go_simp; exact hK _ _ (Grow.refl _) rfl
        · intro w1 hg Ar seen
          have e9 := seen.de 9 7
          refine does_plain rfl fun K Q' hK => ?_
          go_simp; exact hK _ _ (Grow.refl _) rfl
        · intro w1 hg Ar seen
          have e10 := seen.de 10 17
          refine does_plain rfl fun K Q' hK => ?_
          go_simp; exact hK _ _ (Grow.refl _) rfl
        · intro w1 hg Ar seen
          have e11 := seen.de 11 18
          refine does_plain rfl fun K Q' hK => ?_
          go_simp; exact hK _ _ (Grow.refl _) rfl
    intro w1 hg
    refine upon_w' (js := [0, 1, 2, 3, 4, 5, 6, 7, 8, 9, 10, 11, 12, 13]) (by rfl) ?_
    refine upon_e (some 8) (upon_e (some 9) (upon_e (some 10) (upon_e (some 11) (upon_e (some 12) (upon_e (some 13) (upon_e (some 14) (upon_v (some 15) fun v7 h7 => upon_e (some 16) (upon_e (some 7) (upon_e (some 17) (upon_e (some 18) (upon_e (some 4) (upon_e (some 5) (upon_n ?_)))))))))))))
    go_simp
    have B2 := hid (B0.out.below hg)
    have hc := parse_code hp
    have HC := hid hc
    clear hg hp B0 HV0 h7
    go_wp2_with (first | (refine wpList_build_obj rfl 51 _ rfl #[] rfl _ (sBuild0 _) ?_) | (refine wpList_store_obj rfl 51 _ _ rfl (b + 1) rfl rsZ.arr rfl _ _ B2.out.res rfl sSize (sarr_one rsZ) ?_; intro w10 hb10 hc10 hs10; have HB10 := hid hb10; have HC10 := hid hc10; clear hb10 hc10 hs10))
    refine bodyPost_ret (results_cell_tmp rfl _ _ (b + 1) _ _ _ _ rfl HB10.out Tryd.underlying51 rfl sSize _ rfl) rfl ?_
    rw [HRI.out]
    exact ⟨rfl, HC.out, by rw [HBE.out]; exact B2.out.done HC10.out⟩
  rw [hp] at HRI
  refine wp_region_each 14 [.eq (.agg v.arr), .eq (.agg (maybeF 4325468 5).arr), .eq (.agg (maybeF 4325523 8).arr), .eq (.agg (needF 4325503 5).arr), .eq (.agg (maybeF 4325502 5).arr), .eq (.agg (maybeF 4325501 7).arr), .eq (.agg (maybeF 4325500 1).arr), stF rItemF, stRowsT 28 30 (b + 2) (b + 2) r, stRowsT 28 30 (b + 2) (b + 2) r, stRows 28 30 (b + 2) (b + 2) r, .eq (.int .i64 0), stRows 28 30 (b + 2) (b + 2) r, .eq (.int .i64 0)] (by kernel_rfl) (by kernel_rfl) (by kernel_rfl) (by kernel_rfl) ?_ ?_
  · as_aux_lemma =>
      refine each_5 ?_ ?_ ?_ ?_ ?_ (each_5 ?_ ?_ ?_ ?_ ?_ (each_c ?_ (each_c ?_ (each_c ?_ (each_c ?_ (each_n))))))
      · intro w1 hg Ar seen
        have s1 := seen.sl 1 (.pointer (some ⟨b, 0, none⟩))
        refine does_plain rfl fun K Q' hK => ?_
        refine wp_load_row 30 _ rfl b (by simp [Act.eval, s1]) _ _ _ _ ((hg.block _ (block_lt B0.out.box)).trans B0.out.box) Tryd.underlying30 rfl iSize ?_
        exact hK _ _ (Grow.refl _) rfl
      · intro w1 hg Ar seen
        refine does_plain rfl fun K Q' hK => ?_
        go_simp
        refine (smaybe_any _ _ _).mono ?_
        rintro e u ⟨rfl, hb⟩
        exact hK _ _ hb rfl
      · intro w1 hg Ar seen
        refine does_plain rfl fun K Q' hK => ?_
        go_simp
        refine (smaybe_any _ _ _).mono ?_
        rintro e u ⟨rfl, hb⟩
        exact hK _ _ hb rfl
      · intro w1 hg Ar seen
        refine does_plain rfl fun K Q' hK => ?_
        go_simp
        refine (sneed_any _ _ _).mono ?_
        rintro e u ⟨rfl, hb⟩
        exact hK _ _ hb rfl
      · intro w1 hg Ar seen
        refine does_plain rfl fun K Q' hK => ?_
        go_simp
        refine (smaybe_any _ _ _).mono ?_
        rintro e u ⟨rfl, hb⟩
        exact hK _ _ hb rfl
      · intro w1 hg Ar seen
        refine does_plain rfl fun K Q' hK => ?_
        go_simp
        refine (smaybe_any _ _ _).mono ?_
        rintro e u ⟨rfl, hb⟩
        exact hK _ _ hb rfl
      · intro w1 hg Ar seen
        refine does_plain rfl fun K Q' hK => ?_
        go_simp
        refine (smaybe_any _ _ _).mono ?_
        rintro e u ⟨rfl, hb⟩
        exact hK _ _ hb rfl
      · intro w1 hg Ar seen
        have e1 := seen.de 1 9
        have e2 := seen.de 2 10
        have e3 := seen.de 3 11
        have e4 := seen.de 4 12
        have e5 := seen.de 5 13
        have e6 := seen.de 6 14
        refine does_plain rfl fun K Q' hK => ?_
        refine wp_build_flds _ 64 6 _ rfl rItemF rfl (by decide) (by decide) (by simp [Act.eval, e1, e2, e3, e4, e5, e6]; rfl) (fldCells rItemF).toArray (by simp) i Tryd.underlying66 hi hz0 hz1 (by kernel_rfl) ?_
        intro s hs
        exact hK _ _ ((Below.refl _ _).alloc (Nat.le_refl _) _) ⟨s, rfl, hs⟩
      · intro w1 hg Ar seen
        have e0 := seen.de 0 8
        obtain ⟨v7, e7, h7⟩ := seen.dp 7 15
        refine does_plain rfl fun K Q' hK => ?_
        obtain ⟨sf, rfl, hsf⟩ := h7
        go_simp
        refine (parse_any v sf rItemF _ (HV0.out.below hg) hsf).mono ?_
        intro e u hres
        obtain ⟨so, rfl, h1, hb⟩ := parsed_ok hres hp (Nat.le_trans B0.out.size hg.size)
        exact hK _ _ hb ⟨so, rfl, h1⟩
      · intro w1 hg Ar seen
        obtain ⟨v8, e8, h8⟩ := seen.dp 8 16
        refine does_plain rfl fun K Q' hK => ?_
        go_simp
        exact hK _ _ (Grow.refl _) h8
      · intro w1 hg Ar seen
        obtain ⟨v9, e9, h9⟩ := seen.dp 9 7
        refine does_plain rfl fun K Q' hK => ?_
        obtain ⟨so, rfl, h1⟩ := h9
        go_simp
        exact hK _ _ (Grow.refl _) ⟨so, rfl, h1⟩
      · intro w1 hg Ar seen
        obtain ⟨v9, e9, h9⟩ := seen.dp 9 7
        refine does_plain rfl fun K Q' hK => ?_
        obtain ⟨so, rfl, h1⟩ := h9
        go_simp; exact hK _ _ (Grow.refl _) rfl
      · intro w1 hg Ar seen
        obtain ⟨v10, e10, h10⟩ := seen.dp 10 17
        refine does_plain rfl fun K Q' hK => ?_
        go_simp
        exact hK _ _ (Grow.refl _) h10
      · intro w1 hg Ar seen
        have e11 := seen.de 11 18
        refine does_plain rfl fun K Q' hK => ?_
        go_simp; exact hK _ _ (Grow.refl _) rfl
  intro w1 hg
  refine upon_w' (js := [0, 1, 2, 3, 4, 5, 6, 7, 8, 9, 10, 11, 12, 13]) (by rfl) ?_
  refine upon_e (some 8) (upon_e (some 9) (upon_e (some 10) (upon_e (some 11) (upon_e (some 12) (upon_e (some 13) (upon_e (some 14) (upon_v (some 15) fun v7 h7 => upon_v (some 16) fun v8 h8 => upon_v (some 7) fun v9 h9 => upon_v (some 17) fun v10 h10 => upon_e (some 18) (upon_v (some 4) fun v12 h12 => upon_e (some 5) (upon_n ?_)))))))))
  go_simp
  obtain ⟨so, rfl, hrow⟩ := h12
  have HRW := hid hrow
  have B3 := hid (B0.out.below hg)
  have hpr := parse_rows hp
  obtain ⟨hrl, -⟩ := hpr
  clear h7 h8 h9 h10 hrow hg hp B0 HV0
  obtain ⟨r0, r1, r2, r3, r4, r5, rfl⟩ := rows6 hrl
  obtain ⟨g, sc, rfl⟩ := HRW.out.shape (by simp)
  clear hrl
  obtain ⟨s0, l0, hm0, hs0, hc0, hn0, ha0⟩ := HRW.out.an (k := 0) rfl
  have HM0 := hid hm0; have HS0 := hid hs0; have HC0 := hid hc0; have HN0 := hid hn0; have HA0 := hid ha0
  clear hm0 hs0 hc0 hn0 ha0
  obtain ⟨s1, l1, hm1, hs1, hc1, hn1, ha1⟩ := HRW.out.an (k := 1) rfl
  have HM1 := hid hm1; have HS1 := hid hs1; have HC1 := hid hc1; have HN1 := hid hn1; have HA1 := hid ha1
  clear hm1 hs1 hc1 hn1 ha1
  obtain ⟨s2, l2, hm2, hs2, hc2, hn2, ha2⟩ := HRW.out.an (k := 2) rfl
  have HM2 := hid hm2; have HS2 := hid hs2; have HC2 := hid hc2; have HN2 := hid hn2; have HA2 := hid ha2
  clear hm2 hs2 hc2 hn2 ha2
  obtain ⟨s3, l3, hm3, hs3, hc3, hn3, ha3⟩ := HRW.out.an (k := 3) rfl
  have HM3 := hid hm3; have HS3 := hid hs3; have HC3 := hid hc3; have HN3 := hid hn3; have HA3 := hid ha3
  clear hm3 hs3 hc3 hn3 ha3
  obtain ⟨s4, l4, hm4, hs4, hc4, hn4, ha4⟩ := HRW.out.an (k := 4) rfl
  have HM4 := hid hm4; have HS4 := hid hs4; have HC4 := hid hc4; have HN4 := hid hn4; have HA4 := hid ha4
  clear hm4 hs4 hc4 hn4 ha4
  obtain ⟨s5, l5, hm5, hs5, hc5, hn5, ha5⟩ := HRW.out.an (k := 5) rfl
  have HM5 := hid hm5; have HS5 := hid hs5; have HC5 := hid hc5; have HN5 := hid hn5; have HA5 := hid ha5
  clear hm5 hs5 hc5 hn5 ha5
  clear HRW
  simp only [List.getD_cons_zero, List.getD_cons_succ] at HRI
  go_upto_region 4 with (fail)
  obtain ⟨W3, hw3⟩ : ∃ W, W = w1 := ⟨_, rfl⟩
  subst hw3
  obtain ⟨z, hzw⟩ : ∃ z, z = W3.heap.size := ⟨_, rfl⟩
  have HZW := hid hzw
  have HBZ : Hid (b + 2 ≤ z) := by show _ ≤ _; rw [hzw]; exact B3.out.size
  clear hzw
  obtain ⟨n0, hq⟩ : ∃ n, numV r0 0 = n := ⟨_, rfl⟩
  have EN0 : Hid (numV (l0.map ItV.it) 0 = n0) := by show _ = _; rw [HM0.out]; exact hq
  rw [hq] at HRI
  clear hq
  obtain ⟨n2, hq⟩ : ∃ n, numV r2 0 = n := ⟨_, rfl⟩
  have EN2 : Hid (numV (l2.map ItV.it) 0 = n2) := by show _ = _; rw [HM2.out]; exact hq
  rw [hq] at HRI
  clear hq
  obtain ⟨n3, hq⟩ : ∃ n, numV r3 0 = n := ⟨_, rfl⟩
  have EN3 : Hid (numV (l3.map ItV.it) 0 = n3) := by show _ = _; rw [HM3.out]; exact hq
  rw [hq] at HRI
  clear hq
  rw [isEmpty_pos HN0.out] at HRI
  rw [isEmpty_pos HN1.out] at HRI
  rw [isEmpty_pos HN5.out] at HRI
  refine wp_region_each 29 [.eq (.slice (some ⟨g, 0, none⟩) 6 sc), .eq (.pointer (some ⟨g, 0, none⟩)), .eq (.slice s0.a s0.n s0.c), .eq (.int .i64 n0), .eq (.slice (some ⟨g, 0, none⟩) 6 sc), .eq (.pointer (some ⟨g, 0, none⟩)), .eq (.slice s0.a s0.n s0.c), .eq (.int .i64 (s0.n : Int)), .eq (.bool (decide (0 < s0.n))), .eq (.slice (some ⟨g, 0, none⟩) 6 sc), .eq (.pointer (some ⟨g, 1, none⟩)), .eq (.slice s1.a s1.n s1.c), .eq (.int .i64 (s1.n : Int)), .eq (.bool (decide (0 < s1.n))), .eq (.slice (some ⟨g, 0, none⟩) 6 sc), .eq (.pointer (some ⟨g, 2, none⟩)), .eq (.slice s2.a s2.n s2.c), .eq (.int .i64 n2), .eq (.slice (some ⟨g, 0, none⟩) 6 sc), .eq (.pointer (some ⟨g, 3, none⟩)), .eq (.slice s3.a s3.n s3.c), .eq (.int .i64 n3), .eq (.slice (some ⟨g, 0, none⟩) 6 sc), .eq (.pointer (some ⟨g, 5, none⟩)), .eq (.slice s5.a s5.n s5.c), .eq (.int .i64 (s5.n : Int)), .eq (.bool (decide (0 < s5.n))), .eq (.agg (RsIV.arr { op := n0, hasOp := decide (0 < s0.n), hasId := decide (0 < s1.n), status := n2, reason := n3, hasPay := decide (0 < s5.n) })), stNewQ 51 rsZ.arr z] (by kernel_rfl) (by kernel_rfl) (by kernel_rfl) (by kernel_rfl) ?_ ?_
  · as_aux_lemma =>
      refine each_5 ?_ ?_ ?_ ?_ ?_ (each_5 ?_ ?_ ?_ ?_ ?_ (each_5 ?_ ?_ ?_ ?_ ?_ (each_5 ?_ ?_ ?_ ?_ ?_ (each_5 ?_ ?_ ?_ ?_ ?_ (each_c ?_ (each_c ?_ (each_c ?_ (each_c ?_ (each_n)))))))))
      · intro w1 hg Ar seen
        have s4 := seen.sl 4 (.slice (some ⟨g, 0, none⟩) 6 sc)
        refine does_plain rfl fun K Q' hK => ?_
        go_simp; exact hK _ _ (Grow.refl _) rfl
      · intro w1 hg Ar seen
        have e0 := seen.de 0 23
        refine does_plain rfl fun K Q' hK => ?_
        go_simp; exact hK _ _ (Grow.refl _) rfl
      · intro w1 hg Ar seen
        have e1 := seen.de 1 24
        refine does_plain rfl fun K Q' hK => ?_
        have hc := cell_later hg HC0.out
        go_simp; exact hK _ _ (Grow.refl _) rfl
      · intro w1 hg Ar seen
        have e2 := seen.de 2 25
        refine does_plain rfl fun K Q' hK => ?_
        go_simp
        refine (snumber_any s0 l0 _ (HS0.out.below hg)).mono ?_
        rintro e u ⟨rfl, rfl⟩
        exact hK _ _ (Grow.refl _) (by rw [EN0.out]; rfl)
      · intro w1 hg Ar seen
        have s4 := seen.sl 4 (.slice (some ⟨g, 0, none⟩) 6 sc)
        refine does_plain rfl fun K Q' hK => ?_
        go_simp; exact hK _ _ (Grow.refl _) rfl
      · intro w1 hg Ar seen
        have e4 := seen.de 4 27
        refine does_plain rfl fun K Q' hK => ?_
        go_simp; exact hK _ _ (Grow.refl _) rfl
      · intro w1 hg Ar seen
        have e5 := seen.de 5 28
        refine does_plain rfl fun K Q' hK => ?_
        have hc := cell_later hg HC0.out
        go_simp; exact hK _ _ (Grow.refl _) rfl
      · intro w1 hg Ar seen
        have e6 := seen.de 6 29
        refine does_plain rfl fun K Q' hK => ?_
        go_simp; exact hK _ _ (Grow.refl _) rfl
      · intro w1 hg Ar seen
        have e7 := seen.de 7 30
        refine does_plain rfl fun K Q' hK => ?_
        go_simp; exact hK _ _ (Grow.refl _) rfl
      · intro w1 hg Ar seen
        have s4 := seen.sl 4 (.slice (some ⟨g, 0, none⟩) 6 sc)
        refine does_plain rfl fun K Q' hK => ?_
        go_simp; exact hK _ _ (Grow.refl _) rfl
      · intro w1 hg Ar seen
        have e9 := seen.de 9 32
        refine does_plain rfl fun K Q' hK => ?_
        go_simp; exact hK _ _ (Grow.refl _) rfl
      · intro w1 hg Ar seen
        have e10 := seen.de 10 33
        refine does_plain rfl fun K Q' hK => ?_
        have hc := cell_later hg HC1.out
        go_simp; exact hK _ _ (Grow.refl _) rfl
      · intro w1 hg Ar seen
        have e11 := seen.de 11 34
        refine does_plain rfl fun K Q' hK => ?_
        go_simp; exact hK _ _ (Grow.refl _) rfl
      · intro w1 hg Ar seen
        have e12 := seen.de 12 35
        refine does_plain rfl fun K Q' hK => ?_
        go_simp; exact hK _ _ (Grow.refl _) rfl
      · intro w1 hg Ar seen
        have s4 := seen.sl 4 (.slice (some ⟨g, 0, none⟩) 6 sc)
        refine does_plain rfl fun K Q' hK => ?_
        go_simp; exact hK _ _ (Grow.refl _) rfl
      · intro w1 hg Ar seen
        have e14 := seen.de 14 37
        refine does_plain rfl fun K Q' hK => ?_
        go_simp; exact hK _ _ (Grow.refl _) rfl
      · intro w1 hg Ar seen
        have e15 := seen.de 15 38
        refine does_plain rfl fun K Q' hK => ?_
        have hc := cell_later hg HC2.out
        go_simp; exact hK _ _ (Grow.refl _) rfl
      · intro w1 hg Ar seen
        have e16 := seen.de 16 39
        refine does_plain rfl fun K Q' hK => ?_
        go_simp
        refine (snumber_any s2 l2 _ (HS2.out.below hg)).mono ?_
        rintro e u ⟨rfl, rfl⟩
        exact hK _ _ (Grow.refl _) (by rw [EN2.out]; rfl)
      · intro w1 hg Ar seen
        have s4 := seen.sl 4 (.slice (some ⟨g, 0, none⟩) 6 sc)
        refine does_plain rfl fun K Q' hK => ?_
        go_simp; exact hK _ _ (Grow.refl _) rfl
      · intro w1 hg Ar seen
        have e18 := seen.de 18 41
        refine does_plain rfl fun K Q' hK => ?_
        go_simp; exact hK _ _ (Grow.refl _) rfl
      · intro w1 hg Ar seen
        have e19 := seen.de 19 42
        refine does_plain rfl fun K Q' hK => ?_
        have hc := cell_later hg HC3.out
        go_simp; exact hK _ _ (Grow.refl _) rfl
      · intro w1 hg Ar seen
        have e20 := seen.de 20 43
        refine does_plain rfl fun K Q' hK => ?_
        go_simp
        refine (snumber_any s3 l3 _ (HS3.out.below hg)).mono ?_
        rintro e u ⟨rfl, rfl⟩
        exact hK _ _ (Grow.refl _) (by rw [EN3.out]; rfl)
      · intro w1 hg Ar seen
        have s4 := seen.sl 4 (.slice (some ⟨g, 0, none⟩) 6 sc)
        refine does_plain rfl fun K Q' hK => ?_
        go_simp; exact hK _ _ (Grow.refl _) rfl
      · intro w1 hg Ar seen
        have e22 := seen.de 22 45
        refine does_plain rfl fun K Q' hK => ?_
        go_simp; exact hK _ _ (Grow.refl _) rfl
      · intro w1 hg Ar seen
        have e23 := seen.de 23 46
        refine does_plain rfl fun K Q' hK => ?_
        have hc := cell_later hg HC5.out
        go_simp; exact hK _ _ (Grow.refl _) rfl
      · intro w1 hg Ar seen
        have e24 := seen.de 24 47
        refine does_plain rfl fun K Q' hK => ?_
        go_simp; exact hK _ _ (Grow.refl _) rfl
      · intro w1 hg Ar seen
        have e25 := seen.de 25 48
        refine does_plain rfl fun K Q' hK => ?_
        go_simp; exact hK _ _ (Grow.refl _) rfl
      · intro w1 hg Ar seen
        have e3 := seen.de 3 26
        have e8 := seen.de 8 31
        have e13 := seen.de 13 36
        have e17 := seen.de 17 40
        have e21 := seen.de 21 44
        have e26 := seen.de 26 49
        refine does_plain rfl fun K Q' hK => ?_
        refine wp_build_obj 51 _ rfl #[(0, .int .i64 n0), (1, .bool (decide (0 < s0.n))), (2, .bool (decide (0 < s1.n))), (4, .int .i64 n2), (5, .int .i64 n3), (8, .bool (decide (0 < s5.n)))] (by simp [Act.eval, e3, e8, e13, e17, e21, e26]) _ (sBuildI _ _ _ _ _ _ _) ?_
        exact hK _ _ (Grow.refl _) rfl
      · intro w1 hg Ar seen
        refine does_plain rfl fun K Q' hK => ?_
        refine wp_alloc_obj 51 rfl rsZ.arr sZero ?_
        exact hK _ _ ((Below.refl _ _).alloc (Nat.le_refl _) _) ⟨_, rfl, block_new _ _, Nat.le_trans (Nat.le_of_eq HZW.out) hg.size⟩
  intro w1 hg
  refine upon_w' (js := [0, 1, 2, 3, 4, 5, 6, 7, 8, 9, 10, 11, 12, 13, 14, 15, 16, 17, 18, 19, 20, 21, 22, 23, 24, 25, 26, 27, 28]) (by rfl) ?_
  refine upon_e (some 23) (upon_e (some 24) (upon_e (some 25) (upon_e (some 26) (upon_e (some 27) (upon_e (some 28) (upon_e (some 29) (upon_e (some 30) (upon_e (some 31) (upon_e (some 32) (upon_e (some 33) (upon_e (some 34) (upon_e (some 35) (upon_e (some 36) (upon_e (some 37) (upon_e (some 38) (upon_e (some 39) (upon_e (some 40) (upon_e (some 41) (upon_e (some 42) (upon_e (some 43) (upon_e (some 44) (upon_e (some 45) (upon_e (some 46) (upon_e (some 47) (upon_e (some 48) (upon_e (some 49) (upon_e (some 50) (upon_v (some 6) fun v28 h28 => upon_n ?_))))))))))))))))))))))))))))
  obtain ⟨p, rfl, hp, hzp⟩ := h28
  have HP := hid hp; have HZP := hid hzp
  have hg' := hg
  unfold Grow at hg'
  rw [← HZW.out] at hg'
  have HGG := hid hg'
  have HSZ1 : Hid (z ≤ w1.heap.size) := by show _ ≤ _; rw [HZW.out]; exact hg.size
  clear hp hzp hg' hg
  go_simp
  go_upto_region 5 with (refine wpList_store_obj rfl 51 _ _ rfl p rfl (RsIV.arr { op := n0, hasOp := decide (0 < s0.n), hasId := decide (0 < s1.n), status := n2, reason := n3, hasPay := decide (0 < s5.n) }) rfl _ _ HP.out rfl sSize (sarr_one _) ?_; intro w4 hb4 hc4 hs4; have HB4 := hid hb4; have HC4 := hid hc4; clear hb4 hc4 hs4)
  have HBW : Hid (Below z W3 w4) := HGG.out.trans (HC4.out.below (B := z) (fun k hk => by rw [List.mem_singleton.1 hk]; exact HZP.out) HSZ1.out)
  have HZ4 : Hid (z ≤ w4.heap.size) := Nat.le_trans HSZ1.out HC4.out.size
  clear HP HC4 HGG HSZ1
  have hq2 := cell_of_block (j := 2) HB4.out (rx2 _)
  go_upto_if 52 with (fail)
  clear hq2
  obtain ⟨D1, hD1⟩ : ∃ D, (firstI r1).data = D := ⟨_, rfl⟩
  have HD1 := hid hD1
  clear hD1
  go_cut [] (fun wx => ∃ ids : Sl, wx.heap[p]? = some (.cells (RsIV.arr { op := n0, hasOp := decide (0 < s0.n), hasId := decide (0 < s1.n), status := n2, reason := n3, hasPay := decide (0 < s5.n), id := D1, ids := ids }) 51 (0, 0)) ∧ SlC W3 ids (D1.map B8) ∧ (∀ k ∈ ids.blk, b + 2 ≤ k) ∧ Below z W3 wx ∧ z ≤ wx.heap.size)
  case first =>
    have hbx : Below W3.heap.size W3 w4 := by rw [← HZW.out]; exact HBW.out
    by_cases hn1 : 0 < s1.n
    · obtain ⟨g1, f1, v1, ha1, hv1, -, -, -, hk1, -⟩ := HS1.out.kid hn1
      have hrow1 := HS1.out.row hn1
      obtain ⟨ho1, hf1⟩ := HA1.out v1 (List.mem_of_getElem? hv1)
      have hr1 : firstI r1 = v1.it := by
        have hm := HM1.out
        cases l1 with
        | nil => simp at hv1
        | cons x t => simp at hv1; subst hv1; rw [← hm]; rfl
      rw [Nat.zero_mul, Nat.add_zero] at hk1
      have hc1 := cell_later hbx HC1.out
      rw [ha1] at hc1
      have hk := cell_later hbx hk1
      have hfz : ∀ j, w4.frozen? ⟨p, j, none⟩ = false := fun j => frozen_of_block HB4.out
      have hq3 := cell_of_block (j := 3) HB4.out (rx3 _)
      have HB5 : Hid ((w4.setCell ⟨p, 3, none⟩ (.slice v1.ds.a v1.ds.n v1.ds.c)).heap[p]? = some (.cells (RsIV.arr { op := n0, hasOp := decide (0 < s0.n), hasId := decide (0 < s1.n), status := n2, reason := n3, hasPay := decide (0 < s5.n), id := v1.data, ids := v1.ds }) 51 (0, 0))) := block_setCell HB4.out _
      have HD : Hid (D1 = v1.data) := by show _ = _; rw [← HD1.out, hr1, ItV.it_eq]
      have HO := hid (ItV.ok_iff.1 ho1).1; have HF := hid (fun k hk => hf1 k (ItV.mem_foot.2 (.inl hk)))
      have HB6 := hid (HBW.out.setCell (p := ⟨p, 3, none⟩) HZP.out (.slice v1.ds.a v1.ds.n v1.ds.c))
      clear ha1 hv1 hk1 hrow1 ho1 hf1 hr1
      go_wp2_with fail
      go_meet
      exact ⟨v1.ds, by rw [HD.out]; exact HB5.out, by rw [HD.out]; exact HO.out, HF.out, HB6.out, Nat.le_trans HZ4.out (by simp [World.setCell])⟩
    · have HD : Hid (D1 = []) := by
        show _ = _
        have : r1 = [] := List.eq_nil_of_length_eq_zero (by rw [← HN1.out]; omega)
        rw [← HD1.out, this]; rfl
      clear hbx
      go_wp2_with fail
      go_meet
      exact ⟨{}, by rw [HD.out]; exact HB4.out, by rw [HD.out]; exact SlC.nil _, by simp [Sl.blk], HBW.out, HZ4.out⟩
  case rest =>
  clear HB4 HBW HZ4
  obtain ⟨ids, hpb, hids, hidl, hbw, hz4⟩ := hcut
  have HPB := hid hpb; have HID := hid hids; have HIL := hid hidl; have HBW := hid hbw; have HZ4 := hid hz4
  have hbx : Below W3.heap.size W3 wc := by rw [← HZW.out]; exact hbw
  have hc4 := cell_later hbx HC4.out
  clear hpb hids hidl hbw hz4 hbx
  go_upto_if 64 with (fail)
  clear hc4
  obtain ⟨M4, hM4⟩ : ∃ D : ByteArray, (⟨(firstI r4).data.toArray⟩ : ByteArray) = D := ⟨_, rfl⟩
  have HM4' := hid hM4
  clear hM4
  go_cut [] (fun wx => wx.heap[p]? = some (.cells (RsIV.arr { op := n0, hasOp := decide (0 < s0.n), hasId := decide (0 < s1.n), status := n2, reason := n3, hasPay := decide (0 < s5.n), id := D1, ids := ids, msg := M4 }) 51 (0, 0)) ∧ Below z W3 wx ∧ z ≤ wx.heap.size)
  case first =>
    have hbx : Below W3.heap.size W3 wc := by rw [← HZW.out]; exact HBW.out
    by_cases hn4 : 0 < s4.n
    · obtain ⟨g4, f4, v4, ha4, hv4, -, -, -, hk4, -⟩ := HS4.out.kid hn4
      have hrow4 := HS4.out.row hn4
      obtain ⟨ho4, hf4⟩ := HA4.out v4 (List.mem_of_getElem? hv4)
      have hr4 : firstI r4 = v4.it := by
        have hm := HM4.out
        cases l4 with
        | nil => simp at hv4
        | cons x t => simp at hv4; subst hv4; rw [← hm]; rfl
      rw [Nat.zero_mul, Nat.add_zero] at hk4
      have hc4 := cell_later hbx HC4.out
      rw [ha4] at hc4
      have hk := cell_later hbx hk4
      have hcv := run_bytes_str (P := Tryd.prog) ((ItV.ok_iff.1 ho4).1.below hbx).rdB v4.ds.c 27 9 5 Tryd.underlying27 Tryd.underlying5 Tryd.underlying9
      have hfz : ∀ j, wc.frozen? ⟨p, j, none⟩ = false := fun j => frozen_of_block HPB.out
      have hq6 := cell_of_block (j := 6) HPB.out (rx6 _)
      have HB5 : Hid ((wc.setCell ⟨p, 6, none⟩ (.string ⟨v4.data.toArray⟩)).heap[p]? = some (.cells (RsIV.arr { op := n0, hasOp := decide (0 < s0.n), hasId := decide (0 < s1.n), status := n2, reason := n3, hasPay := decide (0 < s5.n), id := D1, ids := ids, msg := ⟨v4.data.toArray⟩ }) 51 (0, 0))) := block_setCell HPB.out _
      have HD : Hid (M4 = ⟨v4.data.toArray⟩) := by show _ = _; rw [← HM4'.out, hr4, ItV.it_eq]
      have HB6 := hid (HBW.out.setCell (p := ⟨p, 6, none⟩) HZP.out (.string ⟨v4.data.toArray⟩))
      clear ha4 hv4 hk4 hrow4 ho4 hf4 hr4
      go_wp2_with fail
      go_meet
      exact ⟨by rw [HD.out]; exact HB5.out, HB6.out, Nat.le_trans HZ4.out (by simp [World.setCell])⟩
    · have HD : Hid (M4 = ⟨#[]⟩) := by
        show _ = _
        have : r4 = [] := List.eq_nil_of_length_eq_zero (by rw [← HN4.out]; omega)
        rw [← HM4'.out, this]; rfl
      clear hbx
      go_wp2_with fail
      go_meet
      exact ⟨by rw [HD.out]; exact HPB.out, HBW.out, HZ4.out⟩
  case rest =>
  clear HPB HBW HZ4
  obtain ⟨hpb, hbw, hz4⟩ := hcut
  have HPB := hid hpb; have HBW := hid hbw; have HZ4 := hid hz4
  have hq12 := cell_of_block (j := 12) HPB.out (rx12 _)
  clear hpb hbw hz4
  go_upto_if 74 with (fail)
  clear hq12
  go_cut [] (fun wx => ∃ pv : ItV, wx.heap[p]? = some (.cells (RsIV.arr { op := n0, hasOp := decide (0 < s0.n), hasId := decide (0 < s1.n), status := n2, reason := n3, hasPay := decide (0 < s5.n), id := D1, ids := ids, msg := M4, pay := pv }) 51 (0, 0)) ∧ pv.it = firstI r5 ∧ pv.ok W3 ∧ (∀ k ∈ pv.foot, b + 2 ≤ k) ∧ Below z W3 wx ∧ z ≤ wx.heap.size)
  case first =>
    have hbx : Below W3.heap.size W3 wc := by rw [← HZW.out]; exact HBW.out
    by_cases hn5 : 0 < s5.n
    · obtain ⟨g5, f5, v5, ha5, hv5, -, -, -, hk5, -⟩ := HS5.out.kid hn5
      have hrow5 := HS5.out.row hn5
      obtain ⟨ho5, hf5⟩ := HA5.out v5 (List.mem_of_getElem? hv5)
      have hr5 : firstI r5 = v5.it := by
        have hm := HM5.out
        cases l5 with
        | nil => simp at hv5
        | cons x t => simp at hv5; subst hv5; rw [← hm]; rfl
      rw [Nat.zero_mul, Nat.add_zero] at hk5
      have hc5 := cell_later hbx HC5.out
      rw [ha5] at hc5
      obtain ⟨bx, ox, vx, hax, hvx, hrx⟩ := hrow5
      rw [ha5] at hax
      simp only [Option.some.injEq, Addr.mk.injEq, and_true] at hax
      obtain ⟨rfl, rfl⟩ := hax
      rw [hv5] at hvx
      simp only [Option.some.injEq] at hvx
      subst hvx
      rw [Nat.zero_mul, Nat.add_zero] at hrx
      have HRX := hid (range_later hbx hrx)
      have HRV := hid hr5; have HO := hid ho5; have HF := hid hf5
      clear ha5 hv5 hk5 hrx ho5 hf5 hr5
      go_upto_region 11 with (first | (refine wpList_load_mid rfl 30 _ rfl g5 f5 rfl v5.arr.toList _ HRX.out Tryd.underlying30 rfl iSize ?_; simp only [Array.toArray_toList]) | (refine wpList_store_part rfl 30 _ _ rfl p 7 v5.arr rfl rfl HPB.out (show 7 + 5 ≤ 13 by decide) iSize (arr_one v5) (RsIV.arr { op := n0, hasOp := decide (0 < s0.n), hasId := decide (0 < s1.n), status := n2, reason := n3, hasPay := decide (0 < s5.n), id := D1, ids := ids, msg := M4, pay := v5 }) rfl ?_; intro w6 hb6 hc6; have HB6 := hid hb6; have HC6 := hid hc6; clear hb6 hc6))
      go_meet
      exact ⟨v5, HB6.out, HRV.out.symm, HO.out, HF.out, HBW.out.trans (HC6.out.below (B := z) (fun k hk => by rw [List.mem_singleton.1 hk]; exact HZP.out) HZ4.out), Nat.le_trans HZ4.out HC6.out.size⟩
    · have HD : Hid (firstI r5 = {}) := by
        show _ = _
        have : r5 = [] := List.eq_nil_of_length_eq_zero (by rw [← HN5.out]; omega)
        rw [this]; rfl
      clear hbx
      go_wp2_with fail
      go_meet
      exact ⟨{}, HPB.out, by rw [HD.out]; exact it_flat 0 0 0 [] {}, ItV.ok.zero _ _ _ _, (fun k hk => by have := foot_flat hk; simp [Sl.blk] at this), HBW.out, HZ4.out⟩
  case rest =>
  clear HPB HBW HZ4
  obtain ⟨pv, hpb, hpi, hpo, hpf, hbw, hz4⟩ := hcut
  have HPB := hid hpb; have HPI := hid hpi; have HPO := hid hpo; have HPF := hid hpf; have HBW := hid hbw; have HZ4 := hid hz4
  have hbx : Below W3.heap.size W3 wc := by rw [← HZW.out]; exact hbw
  have BC := hid (B3.out.below hbx)
  have HXO : Hid (RsIV.ok wc { op := n0, hasOp := decide (0 < s0.n), hasId := decide (0 < s1.n), status := n2, reason := n3, hasPay := decide (0 < s5.n), id := D1, ids := ids, msg := M4, pay := pv }) := ⟨HID.out.below hbx, HPO.out.below hbx⟩
  have HXF : Hid (∀ k ∈ RsIV.foot { op := n0, hasOp := decide (0 < s0.n), hasId := decide (0 < s1.n), status := n2, reason := n3, hasPay := decide (0 < s5.n), id := D1, ids := ids, msg := M4, pay := pv }, b + 2 ≤ k) := fun k hk => by
    rcases List.mem_append.1 hk with h' | h'
    · exact HIL.out k h'
    · exact HPF.out k h'
  clear hpb hpi hpo hpf hbw hz4 hbx
  go_wp2_with (first | (refine wpList_load_row rfl 51 _ rfl p rfl _ _ _ _ HPB.out Tryd.underlying51 rfl sSize ?_) | (refine wpList_store_obj rfl 51 _ _ rfl (b + 1) rfl _ rfl _ _ BC.out.res rfl sSize (sarr_one _) ?_; intro w10 hb10 hc10 hs10; have HB10 := hid hb10; have HC10 := hid hc10; clear hb10 hc10 hs10))
  refine bodyPost_ret (results_cell_tmp rfl _ _ (b + 1) _ _ _ _ rfl HB10.out Tryd.underlying51 rfl sSize _ rfl) rfl ?_
  rw [HRI.out]
  refine ⟨_, rfl, ?_, RsIV.ok.keep HC10.out HXO.out (fun k hk hm => by have := HXF.out k hk; have := List.mem_singleton.1 hm; omega), fun k hk => by have := HXF.out k hk; rw [HBE.out]; omega, by rw [HBE.out]; exact BC.out.done HC10.out⟩
  unfold RsIV.rq
  simp only [HPI.out, HD1.out, HM4'.out]
end Go.Proofs.YteenglgnakenmaaDoor
