/- The reference's version. -/
import Derived.Test.YtfcobmncbnkppaaRsp10
namespace Go.Proofs.Ytfcobmncbnkppaa
open Go.RowKit
set_option linter.unusedVariables false
set_option linter.unusedSimpArgs false
set_option maxRecDepth 100000
set_option maxHeartbeats 3200000
def verV (i : Itm) : Value := match parseV rVerF i with
  | .error c => .tuple #[.int .i64 0, .int .i64 0, .int .i64 c]
  | .ok r => .tuple #[.int .i64 (numV (r.getD 0 []) 0), .int .i64 (numV (r.getD 1 []) 0), .int .i64 0]
theorem verV_err {i : Itm} {c : Int} (h : parseV rVerF i = .error c) : verV i = .tuple #[.int .i64 0, .int .i64 0, .int .i64 c] := by unfold verV; rw [h]
theorem verV_ok {i : Itm} {a b : List Itm} (h : parseV rVerF i = .ok [a, b]) : verV i = .tuple #[.int .i64 (numV a 0), .int .i64 (numV b 0), .int .i64 0] := by unfold verV; rw [h]; rfl
theorem rversion_any (v : ItV) (w : World) (hv : v.ok w) : Calls Try.prog 39 #[.agg v.arr] w fun e w' => e = .returned (verV v.it) ∧ Below w.heap.size w w' := by
  obtain ⟨i, hi, hz0, hz1, hz2⟩ := info_parts fInfo
  have HV := hid hv
  clear hv
  generalize hbe : w.heap.size = b
  have HBE := hid hbe; clear hbe
  go_enter Try.func39, Try.ntmps39
  go_upto_region 1 with (fail)
  go_simp
  have hbw : Below w.heap.size w (w.alloc (.cells v.arr 27)) := (Below.refl _ _).alloc (Nat.le_refl _) _
  have hb0 := block_new w (.cells v.arr 27)
  have hsz : (w.alloc (.cells v.arr 27)).heap.size = w.heap.size + 1 := by simp
  have HV0 := hid (HV.out.below hbw)
  rw [HBE.out] at hbw hb0 hsz ⊢
  have HBW := hid hbw; have HB0 := hid hb0
  have LO : b ≤ (w.alloc (.cells v.arr 27)).heap.size := by omega
  clear hbw hb0 hsz HV
  generalize w.alloc (.cells v.arr 27) = W at *
  rcases hp : parseV rVerF v.it with c | r
  · have HE := hid (verV_err hp)
    refine wp_region_each 10 [.eq (.agg v.arr), .eq (.agg (needF 4325482 2).arr), .eq (.agg (needF 4325483 2).arr), stF rVerF, .eq (.tuple #[.slice none 0 0, .int .i64 c]), .eq (.tuple #[.slice none 0 0, .int .i64 c]), .eq (.slice none 0 0), .eq (.int .i64 c), .eq (.slice none 0 0), .eq (.int .i64 c)] (by kernel_rfl) (by kernel_rfl) (by kernel_rfl) (by kernel_rfl) ?_ ?_
    · as_aux_lemma =>
        refine each_c (o' := _) ?_ (each_c (o' := _) ?_ (each_c (o' := _) ?_ (each_c (o' := _) ?_ (each_c (o' := _) ?_ (each_c (o' := _) ?_ (each_c (o' := _) ?_ (each_c (o' := _) ?_ (each_c (o' := _) ?_ (each_c (o' := _) ?_ (each_n))))))))))
        -- 0: load 27 t1
        · intro w1 hg Ar seen
          have s1 := seen.slot 1 (v := .pointer (some ⟨b, 0, none⟩)) (by kernel_rfl) rfl
          refine does_plain rfl fun K Q' hK => ?_
          refine wp_load_row 27 _ rfl b (by simp [Act.eval, s1]) _ _ _ _ ((hg.block _ (block_lt HB0.out)).trans HB0.out) Try.underlying27 rfl iSize ?_
          exact hK _ _ (Grow.refl _) rfl
        -- 1: call fn37<locksmithref15.need> [4325482:i64, 2:i64] T[3, 3]
        · intro w1 hg Ar seen
          refine does_plain rfl fun K Q' hK => ?_
          go_simp
          refine (rneed_any _ _ _).mono ?_
          rintro e u ⟨rfl, hb⟩
          exact hK _ _ hb rfl
        -- 2: call fn37<locksmithref15.need> [4325483:i64, 2:i64] T[3, 3]
        · intro w1 hg Ar seen
          refine does_plain rfl fun K Q' hK => ?_
          go_simp
          refine (rneed_any _ _ _).mono ?_
          rintro e u ⟨rfl, hb⟩
          exact hK _ _ hb rfl
        -- 3: buildSlice 69 2 [(0, t9), (1, t10)]
        · intro w1 hg Ar seen
          obtain ⟨v1, e1, h1⟩ := seen.dep 1 (d := 9) (by kernel_rfl) (by kernel_rfl) rfl
          rcases h1 with rfl
          obtain ⟨v2, e2, h2⟩ := seen.dep 2 (d := 10) (by kernel_rfl) (by kernel_rfl) rfl
          rcases h2 with rfl
          refine does_plain rfl fun K Q' hK => ?_
          refine wp_build_flds _ 67 2 _ rfl rVerF rfl (by decide) (by decide) (by simp [Act.eval, e1, e2]; rfl) (fldCells rVerF).toArray (by simp) i Try.underlying69 hi hz0 hz1 (by kernel_rfl) ?_
          intro s hs
          exact hK _ _ ((Below.refl _ _).alloc (Nat.le_refl _) _) ⟨s, rfl, hs⟩
        -- 4: call fn36<locksmithref15.Parse> [t8, t11] T[27, 69]
        · intro w1 hg Ar seen
          obtain ⟨v0, e0, h0⟩ := seen.dep 0 (d := 8) (by kernel_rfl) (by kernel_rfl) rfl
          rcases h0 with rfl
          obtain ⟨v3, e3, h3⟩ := seen.dep 3 (d := 11) (by kernel_rfl) (by kernel_rfl) rfl
          refine does_plain rfl fun K Q' hK => ?_
          obtain ⟨sf, rfl, hsf⟩ := h3
          go_simp
          refine (refParse_any v sf rVerF _ (HV0.out.below hg) hsf (fun _ => True) (fun _ _ => trivial)).mono ?_
          intro e u hres
          obtain ⟨rfl, hb⟩ := parsedR_err hres hp
          exact hK _ _ hb rfl
        -- 5: move t12
        · intro w1 hg Ar seen
          obtain ⟨v4, e4, h4⟩ := seen.dep 4 (d := 12) (by kernel_rfl) (by kernel_rfl) rfl
          rcases h4 with rfl
          refine does_plain rfl fun K Q' hK => ?_
          go_simp; exact hK _ _ (Grow.refl _) rfl
        -- 6: extract t7 0
        · intro w1 hg Ar seen
          obtain ⟨v5, e5, h5⟩ := seen.dep 5 (d := 7) (by kernel_rfl) (by kernel_rfl) rfl
          rcases h5 with rfl
          refine does_plain rfl fun K Q' hK => ?_
          go_simp; exact hK _ _ (Grow.refl _) rfl
        -- 7: extract t7 1
        · intro w1 hg Ar seen
          obtain ⟨v5, e5, h5⟩ := seen.dep 5 (d := 7) (by kernel_rfl) (by kernel_rfl) rfl
          rcases h5 with rfl
          refine does_plain rfl fun K Q' hK => ?_
          go_simp; exact hK _ _ (Grow.refl _) rfl
        -- 8: assign t13
        · intro w1 hg Ar seen
          obtain ⟨v6, e6, h6⟩ := seen.dep 6 (d := 13) (by kernel_rfl) (by kernel_rfl) rfl
          rcases h6 with rfl
          refine does_plain rfl fun K Q' hK => ?_
          go_simp; exact hK _ _ (Grow.refl _) rfl
        -- 9: assign t14
        · intro w1 hg Ar seen
          obtain ⟨v7, e7, h7⟩ := seen.dep 7 (d := 14) (by kernel_rfl) (by kernel_rfl) rfl
          rcases h7 with rfl
          refine does_plain rfl fun K Q' hK => ?_
          go_simp; exact hK _ _ (Grow.refl _) rfl
    intro w1 hg
    refine upon_w' (js := [0, 1, 2, 3, 4, 5, 6, 7, 8, 9]) (by rfl) ?_
    refine upon_c (x := some 8) (by kernel_rfl) rfl fun v0 h0 => ?_
    rcases h0 with rfl
    refine upon_c (x := some 9) (by kernel_rfl) rfl fun v1 h1 => ?_
    rcases h1 with rfl
    refine upon_c (x := some 10) (by kernel_rfl) rfl fun v2 h2 => ?_
    rcases h2 with rfl
    refine upon_c (x := some 11) (by kernel_rfl) rfl fun v3 h3 => ?_
    refine upon_c (x := some 12) (by kernel_rfl) rfl fun v4 h4 => ?_
    rcases h4 with rfl
    refine upon_c (x := some 7) (by kernel_rfl) rfl fun v5 h5 => ?_
    rcases h5 with rfl
    refine upon_c (x := some 13) (by kernel_rfl) rfl fun v6 h6 => ?_
    rcases h6 with rfl
    refine upon_c (x := some 14) (by kernel_rfl) rfl fun v7 h7 => ?_
    rcases h7 with rfl
    refine upon_c (x := some 5) (by kernel_rfl) rfl fun v8 h8 => ?_
    rcases h8 with rfl
    refine upon_c (x := some 6) (by kernel_rfl) rfl fun v9 h9 => ?_
    rcases h9 with rfl
    refine upon_n ?_
    go_simp
    have HB1 := hid (HBW.out.trans (hg.mono LO))
    have hc := parse_code hp
    clear hg hp h3
    go_wp2_with fail
    go_ret3
    exact ⟨by rw [HE.out]; rfl, HB1.out⟩
  refine wp_region_each 10 [.eq (.agg v.arr), .eq (.agg (needF 4325482 2).arr), .eq (.agg (needF 4325483 2).arr), stF rVerF, stRowsTR (fun _ => True) 25 27 b r, stRowsTR (fun _ => True) 25 27 b r, stRowsR (fun _ => True) 25 27 b r, .eq (.int .i64 0), stRowsR (fun _ => True) 25 27 b r, .eq (.int .i64 0)] (by kernel_rfl) (by kernel_rfl) (by kernel_rfl) (by kernel_rfl) ?_ ?_
  · as_aux_lemma =>
      refine each_c (o' := _) ?_ (each_c (o' := _) ?_ (each_c (o' := _) ?_ (each_c (o' := _) ?_ (each_c (o' := _) ?_ (each_c (o' := _) ?_ (each_c (o' := _) ?_ (each_c (o' := _) ?_ (each_c (o' := _) ?_ (each_c (o' := _) ?_ (each_n))))))))))
      -- 0: load 27 t1
      · intro w1 hg Ar seen
        have s1 := seen.slot 1 (v := .pointer (some ⟨b, 0, none⟩)) (by kernel_rfl) rfl
        refine does_plain rfl fun K Q' hK => ?_
        refine wp_load_row 27 _ rfl b (by simp [Act.eval, s1]) _ _ _ _ ((hg.block _ (block_lt HB0.out)).trans HB0.out) Try.underlying27 rfl iSize ?_
        exact hK _ _ (Grow.refl _) rfl
      -- 1: call fn37<locksmithref15.need> [4325482:i64, 2:i64] T[3, 3]
      · intro w1 hg Ar seen
        refine does_plain rfl fun K Q' hK => ?_
        go_simp
        refine (rneed_any _ _ _).mono ?_
        rintro e u ⟨rfl, hb⟩
        exact hK _ _ hb rfl
      -- 2: call fn37<locksmithref15.need> [4325483:i64, 2:i64] T[3, 3]
      · intro w1 hg Ar seen
        refine does_plain rfl fun K Q' hK => ?_
        go_simp
        refine (rneed_any _ _ _).mono ?_
        rintro e u ⟨rfl, hb⟩
        exact hK _ _ hb rfl
      -- 3: buildSlice 69 2 [(0, t9), (1, t10)]
      · intro w1 hg Ar seen
        obtain ⟨v1, e1, h1⟩ := seen.dep 1 (d := 9) (by kernel_rfl) (by kernel_rfl) rfl
        rcases h1 with rfl
        obtain ⟨v2, e2, h2⟩ := seen.dep 2 (d := 10) (by kernel_rfl) (by kernel_rfl) rfl
        rcases h2 with rfl
        refine does_plain rfl fun K Q' hK => ?_
        refine wp_build_flds _ 67 2 _ rfl rVerF rfl (by decide) (by decide) (by simp [Act.eval, e1, e2]; rfl) (fldCells rVerF).toArray (by simp) i Try.underlying69 hi hz0 hz1 (by kernel_rfl) ?_
        intro s hs
        exact hK _ _ ((Below.refl _ _).alloc (Nat.le_refl _) _) ⟨s, rfl, hs⟩
      -- 4: call fn36<locksmithref15.Parse> [t8, t11] T[27, 69]
      · intro w1 hg Ar seen
        obtain ⟨v0, e0, h0⟩ := seen.dep 0 (d := 8) (by kernel_rfl) (by kernel_rfl) rfl
        rcases h0 with rfl
        obtain ⟨v3, e3, h3⟩ := seen.dep 3 (d := 11) (by kernel_rfl) (by kernel_rfl) rfl
        refine does_plain rfl fun K Q' hK => ?_
        obtain ⟨sf, rfl, hsf⟩ := h3
        go_simp
        refine (refParse_any v sf rVerF _ (HV0.out.below hg) hsf (fun _ => True) (fun _ _ => trivial)).mono ?_
        intro e u hres
        obtain ⟨so, rfl, h1, hb⟩ := parsedR_ok hres hp (Nat.le_trans LO hg.size)
        exact hK _ _ hb ⟨so, rfl, h1⟩
      -- 5: move t12
      · intro w1 hg Ar seen
        obtain ⟨v4, e4, h4⟩ := seen.dep 4 (d := 12) (by kernel_rfl) (by kernel_rfl) rfl
        refine does_plain rfl fun K Q' hK => ?_
        go_simp
        exact hK _ _ (Grow.refl _) h4
      -- 6: extract t7 0
      · intro w1 hg Ar seen
        obtain ⟨v5, e5, h5⟩ := seen.dep 5 (d := 7) (by kernel_rfl) (by kernel_rfl) rfl
        refine does_plain rfl fun K Q' hK => ?_
        obtain ⟨so, rfl, h1⟩ := h5
        go_simp
        exact hK _ _ (Grow.refl _) ⟨so, rfl, h1⟩
      -- 7: extract t7 1
      · intro w1 hg Ar seen
        obtain ⟨v5, e5, h5⟩ := seen.dep 5 (d := 7) (by kernel_rfl) (by kernel_rfl) rfl
        refine does_plain rfl fun K Q' hK => ?_
        obtain ⟨so, rfl, h1⟩ := h5
        go_simp; exact hK _ _ (Grow.refl _) rfl
      -- 8: assign t13
      · intro w1 hg Ar seen
        obtain ⟨v6, e6, h6⟩ := seen.dep 6 (d := 13) (by kernel_rfl) (by kernel_rfl) rfl
        refine does_plain rfl fun K Q' hK => ?_
        go_simp
        exact hK _ _ (Grow.refl _) h6
      -- 9: assign t14
      · intro w1 hg Ar seen
        obtain ⟨v7, e7, h7⟩ := seen.dep 7 (d := 14) (by kernel_rfl) (by kernel_rfl) rfl
        rcases h7 with rfl
        refine does_plain rfl fun K Q' hK => ?_
        go_simp; exact hK _ _ (Grow.refl _) rfl
  intro w1 hg
  refine upon_w' (js := [0, 1, 2, 3, 4, 5, 6, 7, 8, 9]) (by rfl) ?_
  refine upon_c (x := some 8) (by kernel_rfl) rfl fun v0 h0 => ?_
  rcases h0 with rfl
  refine upon_c (x := some 9) (by kernel_rfl) rfl fun v1 h1 => ?_
  rcases h1 with rfl
  refine upon_c (x := some 10) (by kernel_rfl) rfl fun v2 h2 => ?_
  rcases h2 with rfl
  refine upon_c (x := some 11) (by kernel_rfl) rfl fun v3 h3 => ?_
  refine upon_c (x := some 12) (by kernel_rfl) rfl fun v4 h4 => ?_
  refine upon_c (x := some 7) (by kernel_rfl) rfl fun v5 h5 => ?_
  refine upon_c (x := some 13) (by kernel_rfl) rfl fun v6 h6 => ?_
  refine upon_c (x := some 14) (by kernel_rfl) rfl fun v7 h7 => ?_
  rcases h7 with rfl
  refine upon_c (x := some 5) (by kernel_rfl) rfl fun v8 h8 => ?_
  refine upon_c (x := some 6) (by kernel_rfl) rfl fun v9 h9 => ?_
  rcases h9 with rfl
  refine upon_n ?_
  go_simp
  obtain ⟨so, rfl, hrow⟩ := h8
  have HB1 := hid (HBW.out.trans (hg.mono LO))
  have LO1 : b ≤ w1.heap.size := Nat.le_trans LO hg.size
  have HRW := hid hrow
  have hpr := parse_rows hp
  obtain ⟨hrl, -⟩ := hpr
  obtain ⟨z0, z1, rfl⟩ := rows2 hrl
  have HE := hid (verV_ok hp)
  obtain ⟨gv, cv, rfl⟩ := HRW.out.ok.shape (by simp)
  obtain ⟨sa, la, hma, hsa, hca, -, -⟩ := HRW.out.an (k := 0) rfl
  obtain ⟨sb, lb, hmb, hsb, hcb, -, -⟩ := HRW.out.an (k := 1) rfl
  have HMA := hid hma; have HSA := hid hsa; have HCA := hid hca; have HMB := hid hmb; have HSB := hid hsb; have HCB := hid hcb
  clear hma hsa hca hmb hsb hcb hrl hp hrow hg h3 h4 h5 h6 HRW HB0 HV0 HBW LO
  go_upto_region 4 with (fail)
  refine wp_region_each 11 [.eq (.slice (some ⟨gv, 0, none⟩) 2 cv), .eq (.pointer (some ⟨gv, 0, none⟩)), .eq (.slice sa.a sa.n sa.c), .eq (.int .i64 (numV z0 0)), .eq (.slice (some ⟨gv, 0, none⟩) 2 cv), .eq (.pointer (some ⟨gv, 1, none⟩)), .eq (.slice sb.a sb.n sb.c), .eq (.int .i64 (numV z1 0)), .eq (.int .i64 (numV z0 0)), .eq (.int .i64 (numV z1 0)), .eq (.int .i64 0)] (by kernel_rfl) (by kernel_rfl) (by kernel_rfl) (by kernel_rfl) ?_ ?_
  · as_aux_lemma =>
      refine each_c (o' := _) ?_ (each_c (o' := _) ?_ (each_c (o' := _) ?_ (each_c (o' := _) ?_ (each_c (o' := _) ?_ (each_c (o' := _) ?_ (each_c (o' := _) ?_ (each_c (o' := _) ?_ (each_c (o' := _) ?_ (each_c (o' := _) ?_ (each_c (o' := _) ?_ (each_n)))))))))))
      -- 0: move t5
      · intro w1 hg Ar seen
        have s5 := seen.slot 5 (v := .slice (some ⟨gv, 0, none⟩) 2 cv) (by kernel_rfl) rfl
        refine does_plain rfl fun K Q' hK => ?_
        go_simp; exact hK _ _ (Grow.refl _) rfl
      -- 1: indexAddr 63 t18 0:i64
      · intro w1 hg Ar seen
        obtain ⟨v0, e0, h0⟩ := seen.dep 0 (d := 18) (by kernel_rfl) (by kernel_rfl) rfl
        rcases h0 with rfl
        refine does_plain rfl fun K Q' hK => ?_
        go_simp; exact hK _ _ (Grow.refl _) rfl
      -- 2: load 25 t19
      · intro w1 hg Ar seen
        obtain ⟨v1, e1, h1⟩ := seen.dep 1 (d := 19) (by kernel_rfl) (by kernel_rfl) rfl
        rcases h1 with rfl
        refine does_plain rfl fun K Q' hK => ?_
        have hc := cell_later hg HCA.out
        go_simp; exact hK _ _ (Grow.refl _) rfl
      -- 3: call fn41<locksmithref15.number> [t20, 0:i64] T[25, 3]
      · intro w1 hg Ar seen
        obtain ⟨v2, e2, h2⟩ := seen.dep 2 (d := 20) (by kernel_rfl) (by kernel_rfl) rfl
        rcases h2 with rfl
        refine does_plain rfl fun K Q' hK => ?_
        go_simp
        refine (rnumber_any sa la 0 _ (HSA.out.below hg)).mono ?_
        rintro e u ⟨rfl, rfl⟩
        exact hK _ _ (Grow.refl _) (by rw [HMA.out]; rfl)
      -- 4: move t5
      · intro w1 hg Ar seen
        have s5 := seen.slot 5 (v := .slice (some ⟨gv, 0, none⟩) 2 cv) (by kernel_rfl) rfl
        refine does_plain rfl fun K Q' hK => ?_
        go_simp; exact hK _ _ (Grow.refl _) rfl
      -- 5: indexAddr 63 t22 1:i64
      · intro w1 hg Ar seen
        obtain ⟨v4, e4, h4⟩ := seen.dep 4 (d := 22) (by kernel_rfl) (by kernel_rfl) rfl
        rcases h4 with rfl
        refine does_plain rfl fun K Q' hK => ?_
        go_simp; exact hK _ _ (Grow.refl _) rfl
      -- 6: load 25 t23
      · intro w1 hg Ar seen
        obtain ⟨v5, e5, h5⟩ := seen.dep 5 (d := 23) (by kernel_rfl) (by kernel_rfl) rfl
        rcases h5 with rfl
        refine does_plain rfl fun K Q' hK => ?_
        have hc := cell_later hg HCB.out
        go_simp; exact hK _ _ (Grow.refl _) rfl
      -- 7: call fn41<locksmithref15.number> [t24, 0:i64] T[25, 3]
      · intro w1 hg Ar seen
        obtain ⟨v6, e6, h6⟩ := seen.dep 6 (d := 24) (by kernel_rfl) (by kernel_rfl) rfl
        rcases h6 with rfl
        refine does_plain rfl fun K Q' hK => ?_
        go_simp
        refine (rnumber_any sb lb 0 _ (HSB.out.below hg)).mono ?_
        rintro e u ⟨rfl, rfl⟩
        exact hK _ _ (Grow.refl _) (by rw [HMB.out]; rfl)
      -- 8: assign t21
      · intro w1 hg Ar seen
        obtain ⟨v3, e3, h3⟩ := seen.dep 3 (d := 21) (by kernel_rfl) (by kernel_rfl) rfl
        rcases h3 with rfl
        refine does_plain rfl fun K Q' hK => ?_
        go_simp; exact hK _ _ (Grow.refl _) rfl
      -- 9: assign t25
      · intro w1 hg Ar seen
        obtain ⟨v7, e7, h7⟩ := seen.dep 7 (d := 25) (by kernel_rfl) (by kernel_rfl) rfl
        rcases h7 with rfl
        refine does_plain rfl fun K Q' hK => ?_
        go_simp; exact hK _ _ (Grow.refl _) rfl
      -- 10: assign 0:i64
      · intro w1 hg Ar seen
        refine does_plain rfl fun K Q' hK => ?_
        go_simp; exact hK _ _ (Grow.refl _) rfl
  intro w1 hg
  refine upon_w' (js := [0, 1, 2, 3, 4, 5, 6, 7, 8, 9, 10]) (by rfl) ?_
  refine upon_c (x := some 18) (by kernel_rfl) rfl fun v0 h0 => ?_
  rcases h0 with rfl
  refine upon_c (x := some 19) (by kernel_rfl) rfl fun v1 h1 => ?_
  rcases h1 with rfl
  refine upon_c (x := some 20) (by kernel_rfl) rfl fun v2 h2 => ?_
  rcases h2 with rfl
  refine upon_c (x := some 21) (by kernel_rfl) rfl fun v3 h3 => ?_
  rcases h3 with rfl
  refine upon_c (x := some 22) (by kernel_rfl) rfl fun v4 h4 => ?_
  rcases h4 with rfl
  refine upon_c (x := some 23) (by kernel_rfl) rfl fun v5 h5 => ?_
  rcases h5 with rfl
  refine upon_c (x := some 24) (by kernel_rfl) rfl fun v6 h6 => ?_
  rcases h6 with rfl
  refine upon_c (x := some 25) (by kernel_rfl) rfl fun v7 h7 => ?_
  rcases h7 with rfl
  refine upon_c (x := some 2) (by kernel_rfl) rfl fun v8 h8 => ?_
  rcases h8 with rfl
  refine upon_c (x := some 3) (by kernel_rfl) rfl fun v9 h9 => ?_
  rcases h9 with rfl
  refine upon_c (x := some 4) (by kernel_rfl) rfl fun v10 h10 => ?_
  rcases h10 with rfl
  refine upon_n ?_
  go_simp
  have HB2 := hid (HB1.out.trans (hg.mono LO1))
  clear hg
  go_simp
  go_wp2_with fail
  go_ret3
  exact ⟨by rw [HE.out]; rfl, HB2.out⟩
end Go.Proofs.Ytfcobmncbnkppaa
