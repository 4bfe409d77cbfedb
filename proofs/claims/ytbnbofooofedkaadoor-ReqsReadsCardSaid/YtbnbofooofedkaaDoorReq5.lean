/- reqs.item. -/
import Derived.Test.YtbnbofooofedkaaDoorReq4
namespace Go.Proofs.YtbnbofooofedkaaDoor
open Go.RowKit
set_option linter.unusedVariables false
set_option linter.unusedSimpArgs false
set_option maxRecDepth 100000
set_option maxHeartbeats 1600000
/-- What item answers. -/
def ItemRead (r : Except Int RqI) (w : World) (e : Ending) (w' : World) : Prop :=
 match r with
 | .error c => e = .returned (.tuple #[.agg rqZ.arr, .int .i64 c]) ∧ (c == 0) = false ∧ Below w.heap.size w w'
 | .ok x => ∃ v : RqIV, e = .returned (.tuple #[.agg v.arr, .int .i64 0]) ∧ v.rq = x ∧ v.ok w' ∧ (∀ k ∈ v.foot, w.heap.size ≤ k) ∧ Below w.heap.size w w'
theorem qBuild0 (w : World) : (Instr.build 41 #[]).run Tryd.prog w = .ok (.agg rqZ.arr) w := by kernel_rfl
theorem qBuild3 (op : Int) (has : Bool) (p : ItV) (w : World) : (Instr.build 41 #[(0, .int .i64 op), (1, .bool has), (3, .agg p.arr)]).run Tryd.prog w = .ok (.agg (RqIV.arr { op := op, has := has, pay := p })) w := by kernel_rfl
theorem item_any (v : ItV) (w : World) (hv : v.ok w) : Calls Tryd.prog 25 #[.agg v.arr] w (ItemRead (readItem v.it) w) := by
 obtain ⟨i, hi, hz0, hz1, hz2⟩ := info_parts fInfo
 have HV := hid hv
 clear hv
 generalize hbe : w.heap.size = b
 have HBE := hid hbe; clear hbe
 go_enter Tryd.func25, Tryd.ntmps25
 go_upto_region 1 with (refine wpList_alloc_obj rfl 41 rfl _ qZero ?_)
 go_simp
 have B0 := hid (Bx2.start (T := 27) (T' := 41) (cs := v.arr) (zs := rqZ.arr) (w := w) HBE.out)
 rw [HBE.out]
 have HV0 := hid (HV.out.below (((Below.refl _ w).alloc (Nat.le_refl _) (.cells v.arr 27)).alloc (by simp) (.cells rqZ.arr 41)))
 generalize (w.alloc (.cells v.arr 27)).alloc (.cells rqZ.arr 41) = W at *
 clear HV
 have HRI : Hid (readItem v.it = match parseV itemF v.it with
  | .error c => .error c
  | .ok r => .ok { op := numV (r.getD 0 []) 0, has := !(r.getD 1 []).isEmpty, id := (firstI (r.getD 1 [])).data, pay := firstI (r.getD 2 []) }) := rfl
 cases hp : parseV itemF v.it with
 | error c =>
  refine wp_region_each 11 [.eq (.agg v.arr), .eq (.agg (needF 4325468 5).arr), .eq (.agg (maybeF 4325523 8).arr), .eq (.agg (needF 4325497 1).arr), stF itemF, .eq (.tuple #[.slice none 0 0, .int .i64 c]), .eq (.tuple #[.slice none 0 0, .int .i64 c]), .eq (.slice none 0 0), .eq (.int .i64 c), .eq (.slice none 0 0), .eq (.int .i64 c)] (by kernel_rfl) (by kernel_rfl) (by kernel_rfl) (by kernel_rfl) ?_ ?_
  ·as_aux_lemma =>
    refine each_5 ?_ ?_ ?_ ?_ ?_ (each_5 ?_ ?_ ?_ ?_ ?_ (each_c ?_ (each_n)))
    ·intro w1 hg Ar seen
     have s1 := seen.sl 1 (.pointer (some ⟨b, 0, none⟩))
     refine does_plain rfl fun K Q' hK => ?_
     refine wp_load_row 27 _ rfl b (by simp [Act.eval, s1]) _ _ _ _ ((hg.block _ (block_lt B0.out.box)).trans B0.out.box) Tryd.underlying27 rfl iSize ?_
     exact hK _ _ (Grow.refl _) rfl
    ·intro w1 hg Ar seen
     refine does_plain rfl fun K Q' hK => ?_
     go_simp
     refine (qneed_any _ _ _).mono ?_
     rintro e u ⟨rfl, hb⟩
     exact hK _ _ hb rfl
    ·intro w1 hg Ar seen
     refine does_plain rfl fun K Q' hK => ?_
     go_simp
     refine (qmaybe_any _ _ _).mono ?_
     rintro e u ⟨rfl, hb⟩
     exact hK _ _ hb rfl
    ·intro w1 hg Ar seen
     refine does_plain rfl fun K Q' hK => ?_
     go_simp
     refine (qneed_any _ _ _).mono ?_
     rintro e u ⟨rfl, hb⟩
     exact hK _ _ hb rfl
    ·intro w1 hg Ar seen
     have e1 := seen.de 1 9
     have e2 := seen.de 2 10
     have e3 := seen.de 3 11
     refine does_plain rfl fun K Q' hK => ?_
     refine wp_build_flds _ 52 3 _ rfl itemF rfl (by decide) (by decide) (by simp [Act.eval, e1, e2, e3]; rfl) (fldCells itemF).toArray (by simp) i Tryd.underlying54 hi hz0 hz1 (by kernel_rfl) ?_
     intro s hs
     exact hK _ _ ((Below.refl _ _).alloc (Nat.le_refl _) _) ⟨s, rfl, hs⟩
    ·intro w1 hg Ar seen
     have e0 := seen.de 0 8
     obtain ⟨v4, e4, h4⟩ := seen.dp 4 12
     refine does_plain rfl fun K Q' hK => ?_
     obtain ⟨sf, rfl, hsf⟩ := h4
     go_simp
     refine (parse_any v sf itemF _ (HV0.out.below hg) hsf).mono ?_
     intro e u hres
     obtain ⟨rfl, hb⟩ := parsed_err hres hp
     exact hK _ _ hb rfl
    ·intro w1 hg Ar seen
     have e5 := seen.de 5 13
     refine does_plain rfl fun K Q' hK => ?_
     go_simp; exact hK _ _ (Grow.refl _) rfl
    ·intro w1 hg Ar seen
     have e6 := seen.de 6 7
     refine does_plain rfl fun K Q' hK => ?_
     go_simp; exact hK _ _ (Grow.refl _) rfl
    ·intro w1 hg Ar seen
     have e6 := seen.de 6 7
     refine does_plain rfl fun K Q' hK => ?_
     go_simp; exact hK _ _ (Grow.refl _) rfl
    ·intro w1 hg Ar seen
     have e7 := seen.de 7 14
     refine does_plain rfl fun K Q' hK => ?_
     go_simp; exact hK _ _ (Grow.refl _) rfl
    ·intro w1 hg Ar seen
     have e8 := seen.de 8 15
     refine does_plain rfl fun K Q' hK => ?_
     go_simp; exact hK _ _ (Grow.refl _) rfl
  intro w1 hg
  refine upon_w' (js := [0, 1, 2, 3, 4, 5, 6, 7, 8, 9, 10]) (by rfl) ?_
  refine upon_e (some 8) (upon_e (some 9) (upon_e (some 10) (upon_e (some 11) (upon_v (some 12) fun v4 h4 => upon_e (some 13) (upon_e (some 7) (upon_e (some 14) (upon_e (some 15) (upon_e (some 4) (upon_e (some 5) (upon_n ?_))))))))))
  go_simp
  rw [hp] at HRI
  have B2 := hid (B0.out.below hg)
  have hc := parse_code hp
  have HC := hid hc
  clear hg hp B0 HV0 h4
  go_wp2_with (first | (refine wpList_build_obj rfl 41 _ rfl #[] rfl _ (qBuild0 _) ?_) | (refine wpList_store_obj rfl 41 _ _ rfl (b + 1) rfl rqZ.arr rfl _ _ B2.out.res rfl qSize (qarr_one rqZ) ?_; intro w10 hb10 hc10 hs10; have HB10 := hid hb10; have HC10 := hid hc10; clear hb10 hc10 hs10))
  refine bodyPost_ret (results_cell_tmp rfl _ _ (b + 1) _ _ _ _ rfl HB10.out Tryd.underlying41 rfl qSize _ rfl) rfl ?_
  rw [HRI.out]
  exact ⟨rfl, HC.out, by rw [HBE.out]; exact B2.out.done HC10.out⟩
 | ok r =>
  refine wp_region_each 11 [.eq (.agg v.arr), .eq (.agg (needF 4325468 5).arr), .eq (.agg (maybeF 4325523 8).arr), .eq (.agg (needF 4325497 1).arr), stF itemF, stRowsT 25 27 (b + 2) (b + 2) r, stRowsT 25 27 (b + 2) (b + 2) r, stRows 25 27 (b + 2) (b + 2) r, .eq (.int .i64 0), stRows 25 27 (b + 2) (b + 2) r, .eq (.int .i64 0)] (by kernel_rfl) (by kernel_rfl) (by kernel_rfl) (by kernel_rfl) ?_ ?_
  ·as_aux_lemma =>
    refine each_5 ?_ ?_ ?_ ?_ ?_ (each_5 ?_ ?_ ?_ ?_ ?_ (each_c ?_ (each_n)))
    ·intro w1 hg Ar seen
     have s1 := seen.sl 1 (.pointer (some ⟨b, 0, none⟩))
     refine does_plain rfl fun K Q' hK => ?_
     refine wp_load_row 27 _ rfl b (by simp [Act.eval, s1]) _ _ _ _ ((hg.block _ (block_lt B0.out.box)).trans B0.out.box) Tryd.underlying27 rfl iSize ?_
     exact hK _ _ (Grow.refl _) rfl
    ·intro w1 hg Ar seen
     refine does_plain rfl fun K Q' hK => ?_
     go_simp
     refine (qneed_any _ _ _).mono ?_
     rintro e u ⟨rfl, hb⟩
     exact hK _ _ hb rfl
    ·intro w1 hg Ar seen
     refine does_plain rfl fun K Q' hK => ?_
     go_simp
     refine (qmaybe_any _ _ _).mono ?_
     rintro e u ⟨rfl, hb⟩
     exact hK _ _ hb rfl
    ·intro w1 hg Ar seen
     refine does_plain rfl fun K Q' hK => ?_
     go_simp
     refine (qneed_any _ _ _).mono ?_
     rintro e u ⟨rfl, hb⟩
     exact hK _ _ hb rfl
    ·intro w1 hg Ar seen
     have e1 := seen.de 1 9
     have e2 := seen.de 2 10
     have e3 := seen.de 3 11
     refine does_plain rfl fun K Q' hK => ?_
     refine wp_build_flds _ 52 3 _ rfl itemF rfl (by decide) (by decide) (by simp [Act.eval, e1, e2, e3]; rfl) (fldCells itemF).toArray (by simp) i Tryd.underlying54 hi hz0 hz1 (by kernel_rfl) ?_
     intro s hs
     exact hK _ _ ((Below.refl _ _).alloc (Nat.le_refl _) _) ⟨s, rfl, hs⟩
    ·intro w1 hg Ar seen
     have e0 := seen.de 0 8
     obtain ⟨v4, e4, h4⟩ := seen.dp 4 12
     refine does_plain rfl fun K Q' hK => ?_
     obtain ⟨sf, rfl, hsf⟩ := h4
     go_simp
     refine (parse_any v sf itemF _ (HV0.out.below hg) hsf).mono ?_
     intro e u hres
     obtain ⟨so, rfl, h1, hb⟩ := parsed_ok hres hp (Nat.le_trans B0.out.size hg.size)
     exact hK _ _ hb ⟨so, rfl, h1⟩
    ·intro w1 hg Ar seen
     obtain ⟨v5, e5, h5⟩ := seen.dp 5 13
     refine does_plain rfl fun K Q' hK => ?_
     go_simp
     exact hK _ _ (Grow.refl _) h5
    ·intro w1 hg Ar seen
     obtain ⟨v6, e6, h6⟩ := seen.dp 6 7
     refine does_plain rfl fun K Q' hK => ?_
     obtain ⟨so, rfl, h1⟩ := h6
     go_simp
     exact hK _ _ (Grow.refl _) ⟨so, rfl, h1⟩
    ·intro w1 hg Ar seen
     obtain ⟨v6, e6, h6⟩ := seen.dp 6 7
     refine does_plain rfl fun K Q' hK => ?_
     obtain ⟨so, rfl, h1⟩ := h6
     go_simp; exact hK _ _ (Grow.refl _) rfl
    ·intro w1 hg Ar seen
     obtain ⟨v7, e7, h7⟩ := seen.dp 7 14
     refine does_plain rfl fun K Q' hK => ?_
     go_simp
     exact hK _ _ (Grow.refl _) h7
    ·intro w1 hg Ar seen
     have e8 := seen.de 8 15
     refine does_plain rfl fun K Q' hK => ?_
     go_simp; exact hK _ _ (Grow.refl _) rfl
  intro w1 hg
  refine upon_w' (js := [0, 1, 2, 3, 4, 5, 6, 7, 8, 9, 10]) (by rfl) ?_
  refine upon_e (some 8) (upon_e (some 9) (upon_e (some 10) (upon_e (some 11) (upon_v (some 12) fun v4 h4 => upon_v (some 13) fun v5 h5 => upon_v (some 7) fun v6 h6 => upon_v (some 14) fun v7 h7 => upon_e (some 15) (upon_v (some 4) fun v9 h9 => upon_e (some 5) (upon_n ?_))))))
  go_simp
  rw [hp] at HRI
  obtain ⟨so, rfl, sls, rv, hrows, hrr, hsn⟩ := h9
  clear h4 h5 h6 h7
  obtain ⟨hrl, hneed⟩ := parse_rows hp
  obtain ⟨r0, r1, r2, rfl⟩ := rows3 hrl
  obtain ⟨x0, t0, hx0⟩ := hneed 0 _ rfl rfl
  obtain ⟨x2, t2, hx2⟩ := hneed 2 _ rfl rfl
  simp only [List.getElem?_cons_zero, List.getElem?_cons_succ, Option.some.injEq] at hx0 hx2
  subst hx0; subst hx2
  obtain ⟨s0, l0, g, g0, v0, ha0, hm0, hs0, hga, hc0, hn0, hv0, hr0, ho0, hf0, -⟩ := hrows.head hrr hsn (k := 0) rfl
  obtain ⟨s1, l1, g', hm1, hs1, hga', hc1, hn1, hall1⟩ := hrows.any hrr hsn (k := 1) rfl
  obtain ⟨s2, l2, g'', g2, v2, ha2, hm2, hs2, hga'', hc2, hn2, hv2, hr2, ho2, hf2, -⟩ := hrows.head hrr hsn (k := 2) rfl
  have hson : so.n = 3 := by have := hrows.rlen hrr; simpa using this
  rw [hga] at hga' hga''
  simp only [Option.some.injEq, Addr.mk.injEq, and_true] at hga' hga''
  subst hga'; subst hga''
  have B2 := hid (B0.out.below hg)
  obtain ⟨sa, sn, sc⟩ := so
  simp only at hga hson
  subst hga; subst hson
  have hr2' := hr2
  have HC0 := hid hc0; have HC1 := hid hc1; have HS0 := hid hs0; have HM0 := hid hm0; have HN2 := hid hn2; have HR2 := hid hr2; have HM1 := hid hm1
  rw [ha2] at hc2
  have HC2 := hid hc2
  have HF2 := hid hf2; have HX2 := hid hv2; have HN1 := hid hn1; have HS1 := hid hs1; have HAL := hid hall1
  clear hc0 hc1 hc2 hs0 hm0 hn2 hr2 hm1 hf2 hv2 hn1 hs1 hall1 hr2' ha0 hn0 hv0 hr0 ho0 hf0 ha2 hm2 hs2 hrows hrr hsn hrl hneed hp hg B0 HV0
  go_upto_region 4 with (fail)
  have HX2O := hid ho2
  clear ho2
  obtain ⟨z, hzw⟩ : ∃ z, z = w1.heap.size := ⟨_, rfl⟩
  have HZW := hid hzw
  have HBZ : Hid (b + 2 ≤ z) := by show _ ≤ _; rw [hzw]; exact B2.out.size
  clear hzw
  by_cases hz : s1.n = 0
  ·have HZ : Hid (¬ (0 < s1.n)) := by show ¬ _; omega
   have HR1 : Hid (r1 = []) := List.eq_nil_of_length_eq_zero (by rw [← HN1.out]; exact hz)
   clear hz
   refine wp_region_each 16 [.eq (.slice (some ⟨g, 0, none⟩) 3 sc), .eq (.pointer (some ⟨g, 0, none⟩)), .eq (.slice s0.a s0.n s0.c), .eq (.int .i64 x0.int), .eq (.slice (some ⟨g, 0, none⟩) 3 sc), .eq (.pointer (some ⟨g, 1, none⟩)), .eq (.slice s1.a s1.n s1.c), .eq (.int .i64 (s1.n : Int)), .eq (.bool false), .eq (.slice (some ⟨g, 0, none⟩) 3 sc), .eq (.pointer (some ⟨g, 2, none⟩)), .eq (.slice (some ⟨g2, 0, none⟩) s2.n s2.c), .eq (.pointer (some ⟨g2, 0, none⟩)), .eq (.agg v2.arr), .eq (.agg (RqIV.arr { op := x0.int, has := false, pay := v2 })), stNewQ 41 rqZ.arr z] (by kernel_rfl) (by kernel_rfl) (by kernel_rfl) (by kernel_rfl) ?_ ?_
   ·as_aux_lemma =>
     refine each_5 ?_ ?_ ?_ ?_ ?_ (each_5 ?_ ?_ ?_ ?_ ?_ (each_5 ?_ ?_ ?_ ?_ ?_ (each_c ?_ (each_n))))
     ·intro w1 hg Ar seen
      have s4 := seen.sl 4 (.slice (some ⟨g, 0, none⟩) 3 sc)
      refine does_plain rfl fun K Q' hK => ?_
      go_simp; exact hK _ _ (Grow.refl _) rfl
     ·intro w1 hg Ar seen
      have e0 := seen.de 0 20
      refine does_plain rfl fun K Q' hK => ?_
      go_simp; exact hK _ _ (Grow.refl _) rfl
     ·intro w1 hg Ar seen
      have e1 := seen.de 1 21
      refine does_plain rfl fun K Q' hK => ?_
      have hc := cell_later hg HC0.out
      go_simp; exact hK _ _ (Grow.refl _) rfl
     ·intro w1 hg Ar seen
      have e2 := seen.de 2 22
      refine does_plain rfl fun K Q' hK => ?_
      go_simp
      refine (qnumber_any s0 l0 0 _ (HS0.out.below hg)).mono ?_
      rintro e u ⟨rfl, rfl⟩
      exact hK _ _ (Grow.refl _) (by rw [HM0.out]; rfl)
     ·intro w1 hg Ar seen
      have s4 := seen.sl 4 (.slice (some ⟨g, 0, none⟩) 3 sc)
      refine does_plain rfl fun K Q' hK => ?_
      go_simp; exact hK _ _ (Grow.refl _) rfl
     ·intro w1 hg Ar seen
      have e4 := seen.de 4 24
      refine does_plain rfl fun K Q' hK => ?_
      go_simp; exact hK _ _ (Grow.refl _) rfl
     ·intro w1 hg Ar seen
      have e5 := seen.de 5 25
      refine does_plain rfl fun K Q' hK => ?_
      have hc := cell_later hg HC1.out
      go_simp; exact hK _ _ (Grow.refl _) rfl
     ·intro w1 hg Ar seen
      have e6 := seen.de 6 26
      refine does_plain rfl fun K Q' hK => ?_
      go_simp; exact hK _ _ (Grow.refl _) rfl
     ·intro w1 hg Ar seen
      have e7 := seen.de 7 27
      refine does_plain rfl fun K Q' hK => ?_
      have hz := HZ.out
      go_simp; exact hK _ _ (Grow.refl _) rfl
     ·intro w1 hg Ar seen
      have s4 := seen.sl 4 (.slice (some ⟨g, 0, none⟩) 3 sc)
      refine does_plain rfl fun K Q' hK => ?_
      go_simp; exact hK _ _ (Grow.refl _) rfl
     ·intro w1 hg Ar seen
      have e9 := seen.de 9 29
      refine does_plain rfl fun K Q' hK => ?_
      go_simp; exact hK _ _ (Grow.refl _) rfl
     ·intro w1 hg Ar seen
      have e10 := seen.de 10 30
      refine does_plain rfl fun K Q' hK => ?_
      have hc := cell_later hg HC2.out
      go_simp; exact hK _ _ (Grow.refl _) rfl
     ·intro w1 hg Ar seen
      have e11 := seen.de 11 31
      refine does_plain rfl fun K Q' hK => ?_
      have hn := Nat.lt_of_lt_of_le Nat.zero_lt_one HN2.out
      go_simp; exact hK _ _ (Grow.refl _) rfl
     ·intro w1 hg Ar seen
      have e12 := seen.de 12 32
      refine does_plain rfl fun K Q' hK => ?_
      refine wp_load_mid 27 _ rfl g2 0 (by simp [Act.eval, e12]) v2.arr.toList _ (range_later hg HR2.out) Tryd.underlying27 rfl iSize ?_
      exact hK _ _ (Grow.refl _) rfl
     ·intro w1 hg Ar seen
      have e3 := seen.de 3 23
      have e8 := seen.de 8 28
      have e13 := seen.de 13 33
      refine does_plain rfl fun K Q' hK => ?_
      refine wp_build_obj 41 _ rfl #[(0, .int .i64 x0.int), (1, .bool false), (3, .agg v2.arr)] (by simp [Act.eval, e3, e8, e13]) _ (qBuild3 _ _ _ _) ?_
      exact hK _ _ (Grow.refl _) rfl
     ·intro w1 hg Ar seen
      refine does_plain rfl fun K Q' hK => ?_
      refine wp_alloc_obj 41 rfl rqZ.arr qZero ?_
      exact hK _ _ ((Below.refl _ _).alloc (Nat.le_refl _) _) ⟨_, rfl, block_new _ _, Nat.le_trans (Nat.le_of_eq HZW.out) hg.size⟩
   intro w1 hg
   refine upon_w' (js := [0, 1, 2, 3, 4, 5, 6, 7, 8, 9, 10, 11, 12, 13, 14, 15]) (by rfl) ?_
   refine upon_e (some 20) (upon_e (some 21) (upon_e (some 22) (upon_e (some 23) (upon_e (some 24) (upon_e (some 25) (upon_e (some 26) (upon_e (some 27) (upon_e (some 28) (upon_e (some 29) (upon_e (some 30) (upon_e (some 31) (upon_e (some 32) (upon_e (some 33) (upon_e (some 34) (upon_v (some 6) fun v15 h15 => upon_n ?_)))))))))))))))
   obtain ⟨p, rfl, hp, hbp⟩ := h15
   have HP := hid hp; have HBP := hid hbp
   have HPL : Hid (∀ k ∈ v2.foot, k < p) := fun k hk => by have := HX2O.out.lt k hk; have := HZW.out; omega
   have B3 := hid (B2.out.below hg)
   have HO2 := hid (HX2O.out.below hg)
   clear hp hbp B2
   go_simp
   go_upto_region 5 with (refine wpList_store_obj rfl 41 _ _ rfl p rfl (RqIV.arr { op := x0.int, has := false, pay := v2 }) rfl _ _ HP.out rfl qSize (qarr_one _) ?_; intro w5 hb5 hc5 hs5; have HB5 := hid hb5; have HC5 := hid hc5; clear hb5 hc5 hs5)
   have B5 := hid (B3.out.chg HC5.out (fun k hk => by rw [List.mem_singleton.1 hk]; exact Nat.le_trans HBZ.out HBP.out))
   have HO5 : Hid (RqIV.ok w5 { op := x0.int, has := false, pay := v2 }) := ⟨SlC.nil _, ItV.ok.keep HC5.out HO2.out (fun k hk hm => by have := List.mem_singleton.1 hm; have := HPL.out k hk; omega)⟩
   clear B3 HO2 HC5
   have c1 := cell_of_block (j := 1) HB5.out (xr1 _)
   go_wp2_with (first | (refine wpList_load_row rfl 41 _ rfl p rfl _ _ _ _ HB5.out Tryd.underlying41 rfl qSize ?_) | (refine wpList_store_obj rfl 41 _ _ rfl (b + 1) rfl _ rfl _ _ B5.out.res rfl qSize (qarr_one _) ?_; intro w10 hb10 hc10 hs10; have HB10 := hid hb10; have HC10 := hid hc10; clear hb10 hc10 hs10))
   refine bodyPost_ret (results_cell_tmp rfl _ _ (b + 1) _ _ _ _ rfl HB10.out Tryd.underlying41 rfl qSize _ rfl) rfl ?_
   rw [HRI.out]
   refine ⟨_, rfl, ?_, RqIV.ok.keep HC10.out HO5.out (fun k hk hm => ?_), fun k hk => ?_, by rw [HBE.out]; exact B5.out.done HC10.out⟩
   ·unfold RqIV.rq
    simp only [List.getD_cons_zero, List.getD_cons_succ, HR1.out, firstI, numV, List.headD_cons, HX2.out]
    rfl
   ·have := List.mem_singleton.1 hm
    have := HF2.out k (by simpa [RqIV.foot, Sl.blk] using hk)
    omega
   ·have := HF2.out k (by simpa [RqIV.foot, Sl.blk] using hk)
    rw [HBE.out]; omega
  ·have hz1' : 0 < s1.n := by omega
   have HZ := hid hz1'
   obtain ⟨g1, f1, v1, ha1, hv1, -, -, -, hk3, -⟩ := HS1.out.kid hz1'
   rw [ha1] at HC1
   obtain ⟨ho1, hf1⟩ := HAL.out v1 (List.mem_of_getElem? hv1)
   obtain ⟨t1, hr1⟩ : ∃ t1, r1 = v1.it :: t1 := by
    have hm := HM1.out
    cases l1 with
    | nil => simp at hv1
    | cons x t => simp at hv1; subst hv1; exact ⟨_, hm.symm⟩
   rw [Nat.zero_mul, Nat.add_zero] at hk3
   have HK3 := hid hk3; have HR1 := hid hr1; have HO1 := hid ho1; have HF1 := hid hf1
   clear hk3 hr1 ho1 hf1 hv1 ha1 hz hz1'
   refine wp_region_each 16 [.eq (.slice (some ⟨g, 0, none⟩) 3 sc), .eq (.pointer (some ⟨g, 0, none⟩)), .eq (.slice s0.a s0.n s0.c), .eq (.int .i64 x0.int), .eq (.slice (some ⟨g, 0, none⟩) 3 sc), .eq (.pointer (some ⟨g, 1, none⟩)), .eq (.slice (some ⟨g1, f1, none⟩) s1.n s1.c), .eq (.int .i64 (s1.n : Int)), .eq (.bool true), .eq (.slice (some ⟨g, 0, none⟩) 3 sc), .eq (.pointer (some ⟨g, 2, none⟩)), .eq (.slice (some ⟨g2, 0, none⟩) s2.n s2.c), .eq (.pointer (some ⟨g2, 0, none⟩)), .eq (.agg v2.arr), .eq (.agg (RqIV.arr { op := x0.int, has := true, pay := v2 })), stNewQ 41 rqZ.arr z] (by kernel_rfl) (by kernel_rfl) (by kernel_rfl) (by kernel_rfl) ?_ ?_
   ·as_aux_lemma =>
     refine each_5 ?_ ?_ ?_ ?_ ?_ (each_5 ?_ ?_ ?_ ?_ ?_ (each_5 ?_ ?_ ?_ ?_ ?_ (each_c ?_ (each_n))))
     ·intro w1 hg Ar seen
      have s4 := seen.sl 4 (.slice (some ⟨g, 0, none⟩) 3 sc)
      refine does_plain rfl fun K Q' hK => ?_
      go_simp; exact hK _ _ (Grow.refl _) rfl
     ·intro w1 hg Ar seen
      have e0 := seen.de 0 20
      refine does_plain rfl fun K Q' hK => ?_
      go_simp; exact hK _ _ (Grow.refl _) rfl
     ·intro w1 hg Ar seen
      have e1 := seen.de 1 21
      refine does_plain rfl fun K Q' hK => ?_
      have hc := cell_later hg HC0.out
      go_simp; exact hK _ _ (Grow.refl _) rfl
     ·intro w1 hg Ar seen
      have e2 := seen.de 2 22
      refine does_plain rfl fun K Q' hK => ?_
      go_simp
      refine (qnumber_any s0 l0 0 _ (HS0.out.below hg)).mono ?_
      rintro e u ⟨rfl, rfl⟩
      exact hK _ _ (Grow.refl _) (by rw [HM0.out]; rfl)
     ·intro w1 hg Ar seen
      have s4 := seen.sl 4 (.slice (some ⟨g, 0, none⟩) 3 sc)
      refine does_plain rfl fun K Q' hK => ?_
      go_simp; exact hK _ _ (Grow.refl _) rfl
     ·intro w1 hg Ar seen
      have e4 := seen.de 4 24
      refine does_plain rfl fun K Q' hK => ?_
      go_simp; exact hK _ _ (Grow.refl _) rfl
     ·intro w1 hg Ar seen
      have e5 := seen.de 5 25
      refine does_plain rfl fun K Q' hK => ?_
      have hc := cell_later hg HC1.out
      go_simp; exact hK _ _ (Grow.refl _) rfl
     ·intro w1 hg Ar seen
      have e6 := seen.de 6 26
      refine does_plain rfl fun K Q' hK => ?_
      go_simp; exact hK _ _ (Grow.refl _) rfl
     ·intro w1 hg Ar seen
      have e7 := seen.de 7 27
      refine does_plain rfl fun K Q' hK => ?_
      have hz := HZ.out
      go_simp; exact hK _ _ (Grow.refl _) rfl
     ·intro w1 hg Ar seen
      have s4 := seen.sl 4 (.slice (some ⟨g, 0, none⟩) 3 sc)
      refine does_plain rfl fun K Q' hK => ?_
      go_simp; exact hK _ _ (Grow.refl _) rfl
     ·intro w1 hg Ar seen
      have e9 := seen.de 9 29
      refine does_plain rfl fun K Q' hK => ?_
      go_simp; exact hK _ _ (Grow.refl _) rfl
     ·intro w1 hg Ar seen
      have e10 := seen.de 10 30
      refine does_plain rfl fun K Q' hK => ?_
      have hc := cell_later hg HC2.out
      go_simp; exact hK _ _ (Grow.refl _) rfl
     ·intro w1 hg Ar seen
      have e11 := seen.de 11 31
      refine does_plain rfl fun K Q' hK => ?_
      have hn := Nat.lt_of_lt_of_le Nat.zero_lt_one HN2.out
      go_simp; exact hK _ _ (Grow.refl _) rfl
     ·intro w1 hg Ar seen
      have e12 := seen.de 12 32
      refine does_plain rfl fun K Q' hK => ?_
      refine wp_load_mid 27 _ rfl g2 0 (by simp [Act.eval, e12]) v2.arr.toList _ (range_later hg HR2.out) Tryd.underlying27 rfl iSize ?_
      exact hK _ _ (Grow.refl _) rfl
     ·intro w1 hg Ar seen
      have e3 := seen.de 3 23
      have e8 := seen.de 8 28
      have e13 := seen.de 13 33
      refine does_plain rfl fun K Q' hK => ?_
      refine wp_build_obj 41 _ rfl #[(0, .int .i64 x0.int), (1, .bool true), (3, .agg v2.arr)] (by simp [Act.eval, e3, e8, e13]) _ (qBuild3 _ _ _ _) ?_
      exact hK _ _ (Grow.refl _) rfl
     ·intro w1 hg Ar seen
      refine does_plain rfl fun K Q' hK => ?_
      refine wp_alloc_obj 41 rfl rqZ.arr qZero ?_
      exact hK _ _ ((Below.refl _ _).alloc (Nat.le_refl _) _) ⟨_, rfl, block_new _ _, Nat.le_trans (Nat.le_of_eq HZW.out) hg.size⟩
   intro w1 hg
   refine upon_w' (js := [0, 1, 2, 3, 4, 5, 6, 7, 8, 9, 10, 11, 12, 13, 14, 15]) (by rfl) ?_
   refine upon_e (some 20) (upon_e (some 21) (upon_e (some 22) (upon_e (some 23) (upon_e (some 24) (upon_e (some 25) (upon_e (some 26) (upon_e (some 27) (upon_e (some 28) (upon_e (some 29) (upon_e (some 30) (upon_e (some 31) (upon_e (some 32) (upon_e (some 33) (upon_e (some 34) (upon_v (some 6) fun v15 h15 => upon_n ?_)))))))))))))))
   obtain ⟨p, rfl, hp, hbp⟩ := h15
   have HP := hid hp; have HBP := hid hbp
   have HPL : Hid (∀ k ∈ v2.foot, k < p) := fun k hk => by have := HX2O.out.lt k hk; have := HZW.out; omega
   have B3 := hid (B2.out.below hg)
   have HO2 := hid (HX2O.out.below hg)
   clear hp hbp B2
   go_simp
   go_upto_region 5 with (refine wpList_store_obj rfl 41 _ _ rfl p rfl (RqIV.arr { op := x0.int, has := true, pay := v2 }) rfl _ _ HP.out rfl qSize (qarr_one _) ?_; intro w5 hb5 hc5 hs5; have HB5 := hid hb5; have HC5 := hid hc5; clear hb5 hc5 hs5)
   have hg' := hg
   unfold Grow at hg'
   rw [← HZW.out] at hg'
   have hbb := hg'.trans (HC5.out.below (B := z) (fun k hk => by rw [List.mem_singleton.1 hk]; exact HBP.out) (by rw [HZW.out]; exact hg.size))
   rw [HZW.out] at hbb
   clear hg'
   have HPL1 : Hid (∀ k ∈ v1.foot, k < p) := fun k hk => by have := HO1.out.lt k hk; have := HZW.out; have := HBP.out; omega
   have B5 := hid (B3.out.chg HC5.out (fun k hk => by rw [List.mem_singleton.1 hk]; exact Nat.le_trans HBZ.out HBP.out))
   have HO5 := hid (ItV.ok.keep HC5.out HO2.out (fun k hk hm => by have := List.mem_singleton.1 hm; have := HPL.out k hk; omega))
   have HO15 := hid (HO1.out.below hbb)
   have hc1 := cell_later hbb HC1.out
   have hk3 := cell_later hbb HK3.out
   have hq1 := cell_of_block (j := 1) HB5.out (xr1 _)
   have hq2 := cell_of_block (j := 2) HB5.out (xr2 _)
   have hfz : ∀ j, w5.frozen? ⟨p, j, none⟩ = false := fun j => frozen_of_block HB5.out
   have hz1 := HZ.out
   clear hbb HC5 hg HO1 HO2 B3
   go_upto_region 7 with (fail)
   clear hc1 hk3 hq1 hq2 hfz hz1
   have HB6 : Hid ((w5.setCell ⟨p, 2, none⟩ (.slice v1.ds.a v1.ds.n v1.ds.c)).heap[p]? = some (.cells (RqIV.arr { op := x0.int, has := true, id := v1.data, ids := v1.ds, pay := v2 }) 41 (0, 0))) := block_setCell HB5.out _
   have hcb : Chg [p] w5 (w5.setCell ⟨p, 2, none⟩ (.slice v1.ds.a v1.ds.n v1.ds.c)) := (Chg.refl [p] w5).setCell (.inl (by simp)) _
   have B6 := hid (B5.out.chg hcb (fun k hk => by rw [List.mem_singleton.1 hk]; exact Nat.le_trans HBZ.out HBP.out))
   have HO6 : Hid (RqIV.ok (w5.setCell ⟨p, 2, none⟩ (.slice v1.ds.a v1.ds.n v1.ds.c)) { op := x0.int, has := true, id := v1.data, ids := v1.ds, pay := v2 }) :=
    RqIV.ok.keep (w := w5) hcb ⟨(ItV.ok_iff.1 HO15.out).1, HO5.out⟩ (fun k hk hm => by
     have := List.mem_singleton.1 hm
     rcases List.mem_append.1 hk with h' | h'
     ·have := HPL1.out k (ItV.mem_foot.2 (.inl h')); omega
     ·have := HPL.out k h'; omega)
   clear hcb B5 HB5 HO5 HO15
   generalize w5.setCell ⟨p, 2, none⟩ (.slice v1.ds.a v1.ds.n v1.ds.c) = w6 at *
   go_wp2_with (first | (refine wpList_load_row rfl 41 _ rfl p rfl _ _ _ _ HB6.out Tryd.underlying41 rfl qSize ?_) | (refine wpList_store_obj rfl 41 _ _ rfl (b + 1) rfl _ rfl _ _ B6.out.res rfl qSize (qarr_one _) ?_; intro w10 hb10 hc10 hs10; have HB10 := hid hb10; have HC10 := hid hc10; clear hb10 hc10 hs10))
   refine bodyPost_ret (results_cell_tmp rfl _ _ (b + 1) _ _ _ _ rfl HB10.out Tryd.underlying41 rfl qSize _ rfl) rfl ?_
   rw [HRI.out]
   have hlow : ∀ k ∈ RqIV.foot { op := x0.int, has := true, id := v1.data, ids := v1.ds, pay := v2 }, b + 2 ≤ k := fun k hk => by
    rcases List.mem_append.1 hk with h' | h'
    ·exact HF1.out k (ItV.mem_foot.2 (.inl h'))
    ·exact HF2.out k h'
   refine ⟨_, rfl, ?_, RqIV.ok.keep HC10.out HO6.out (fun k hk hm => ?_), fun k hk => ?_, by rw [HBE.out]; exact B6.out.done HC10.out⟩
   ·unfold RqIV.rq
    have hv1 : v1.it.data = v1.data := by rw [ItV.it_eq]
    simp only [List.getD_cons_zero, List.getD_cons_succ, HR1.out, firstI, numV, List.headD_cons, HX2.out, hv1]
    rfl
   ·have := List.mem_singleton.1 hm
    have := hlow k hk
    omega
   ·have := hlow k hk
    rw [HBE.out]; omega
end Go.Proofs.YtbnbofooofedkaaDoor
