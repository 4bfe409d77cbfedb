/- reqs.Read. -/
import Derived.Test.YtbnbofooofedkaaDoorReq5
namespace Go.Proofs.YtbnbofooofedkaaDoor
open Go.RowKit
set_option linter.unusedVariables false
set_option linter.unusedSimpArgs false
set_option maxRecDepth 100000
set_option maxHeartbeats 3200000
theorem vBuild0 (w : World) : (Instr.build 32 #[]).run Tryd.prog w = .ok (.agg rvZ.arr) w := by kernel_rfl
theorem vBuild4 (a b c d : Int) (w : World) : (Instr.build 32 #[(0, .int .i64 a), (1, .int .i64 b), (2, .int .i64 c), (3, .int .i64 d)]).run Tryd.prog w = .ok (.agg (RqV.arr { major := a, minor := b, max := c, opt := d })) w := by kernel_rfl
/-- What Read answers. -/
def ReqRead (r : Except Int Rq) (w : World) (e : Ending) (w' : World) : Prop :=
 match r with
 | .error c => e = .returned (.tuple #[.agg rvZ.arr, .int .i64 c]) ∧ Below w.heap.size w w'
 | .ok q => ∃ v : RqV, e = .returned (.tuple #[.agg v.arr, .int .i64 0]) ∧ v.rq = q ∧ v.ok w' ∧ Below w.heap.size w w'
theorem readItems_app {l r : List Itm} {a : List RqI} (h : readItems l = .ok a) : readItems (l ++ r) = match readItems r with
  | .error c => .error c
  | .ok b => .ok (a ++ b) := by
 induction l generalizing a with
 | nil =>
  obtain rfl : [] = a := by injection h
  simp only [List.nil_append]
  cases readItems r <;> rfl
 | cons x t ih =>
  rw [readItems] at h
  rw [List.cons_append, readItems]
  cases hx : readItem x with
  | error c => rw [hx] at h; cases h
  | ok y =>
   rw [hx] at h
   cases ht : readItems t with
   | error c => rw [ht] at h; cases h
   | ok b =>
    rw [ht] at h
    obtain rfl : y :: b = a := by injection h
    simp only [ih ht]
    cases readItems r <;> rfl
theorem readItems_one {l : List Itm} {a : List RqI} {k : Nat} {x : Itm} (h : readItems (l.take k) = .ok a) (hx : l[k]? = some x) : (∀ y, readItem x = .ok y → readItems (l.take (k + 1)) = .ok (a ++ [y])) ∧ (∀ c, readItem x = .error c → readItems l = .error c) := by
 constructor
 ·intro y hy
  rw [List.take_add_one, hx, readItems_app h]
  simp [readItems, hy]
 ·intro c hc
  rw [← List.take_append_drop k l, readItems_app h, List.drop_eq_getElem_cons (List.getElem?_eq_some_iff.1 hx).1, (List.getElem?_eq_some_iff.1 hx).2]
  simp [readItems, hc]
/-- readV, once the rows are told apart. -/
theorem readV_tag {i : Itm} (h : i.tag ≠ 4325496) : readV i = .error 4 := by unfold readV; rw [if_pos h]
theorem readV_m {i : Itm} {c : Int} (h : i.tag = 4325496) (h1 : parseV msgF i = .error c) : readV i = .error c := by unfold readV; rw [if_neg (by simp [h]), h1]
theorem readV_h {i : Itm} {c : Int} {m : List (List Itm)} (h : i.tag = 4325496) (h1 : parseV msgF i = .ok m) (h2 : parseV headF (firstI (m.getD 0 [])) = .error c) : readV i = .error c := by
 unfold readV; rw [if_neg (by simp [h]), h1]; simp only [h2]
theorem readV_v {i : Itm} {c : Int} {m h' : List (List Itm)} (h : i.tag = 4325496) (h1 : parseV msgF i = .ok m) (h2 : parseV headF (firstI (m.getD 0 [])) = .ok h') (h3 : parseV verF (firstI (h'.getD 0 [])) = .error c) : readV i = .error c := by
 unfold readV; rw [if_neg (by simp [h]), h1]; simp only [h2, h3]
theorem readV_i {i : Itm} {c : Int} {m h' v : List (List Itm)} (h : i.tag = 4325496) (h1 : parseV msgF i = .ok m) (h2 : parseV headF (firstI (m.getD 0 [])) = .ok h') (h3 : parseV verF (firstI (h'.getD 0 [])) = .ok v) (h4 : readItems (m.getD 1 []) = .error c) : readV i = .error c := by
 unfold readV; rw [if_neg (by simp [h]), h1]; simp only [h2, h3, h4]
theorem readV_q {i : Itm} {m h' v : List (List Itm)} {l : List RqI} {q : Rq} (h : i.tag = 4325496) (h1 : parseV msgF i = .ok m) (h2 : parseV headF (firstI (m.getD 0 [])) = .ok h') (h3 : parseV verF (firstI (h'.getD 0 [])) = .ok v) (h4 : readItems (m.getD 1 []) = .ok l)
  (hq : q = { major := numV (v.getD 0 []) 0, minor := numV (v.getD 1 []) 0, max := numV (h'.getD 1 []) 0, opt := numV (h'.getD 2 []) 2, items := l }) :
  readV i = if (!(h'.getD 1 []).isEmpty && decide (q.max < 1)) || numV (h'.getD 4 []) 0 != (q.items.length : Int) || !rightV q then .error 4 else .ok q := by
 subst hq
 unfold readV; rw [if_neg (by simp [h]), h1]; simp only [h2, h3, h4]
theorem wpList_build_rq {P : Program} {ops : Array Oper} {rest : List Oper} {o : Oper} {a : Act} {w : World} {Q : Exit → Act → World → Prop} (hg : o.guard = none) (T E : TypeId) (x : Operand) (ho : o.op = .buildSlice T 1 #[(0, x)]) (v : RqIV) (hx : a.eval x = .agg v.arr)
  (i : TypeInfo) (hu : P.underlying T = some (.slice E)) (hi : P.info? E = some i) (hz : i.zero = some (.agg rqZ.arr)) (hs : i.size = 8)
  (h : wpList P ops Q rest (a.put o.dst (.slice (some ⟨w.heap.size, 0, none⟩) 1 1)) (w.alloc (.cells v.arr E))) : wpList P ops Q (o :: rest) a w := by
 refine wpList_buildSlice hg T E 1 _ ho v.arr i _ hu hi hz (by rw [hs]; decide) (by rw [hs]; decide) ?_ h
 rw [hs, show ((#[(0, x)] : Array (Nat × Operand)).map fun (i, x) => (i, a.eval x)).toList = [(0, Value.agg v.arr)] from by simp [hx]]
 kernel_rfl
theorem read_any (v : ItV) (w : World) (hv : v.ok w) : Calls Tryd.prog 8 #[.agg v.arr] w (ReqRead (readV v.it) w) := by
 obtain ⟨i, hi, hz0, hz1, hz2⟩ := info_parts fInfo
 obtain ⟨iq, hiq, hy0, hy1, hy2⟩ := info_parts qInfo
 have HV := hid hv
 clear hv
 generalize hbe : w.heap.size = b
 have HBE := hid hbe; clear hbe
 have HTG : Hid (v.it.tag = v.tag) := by show _ = _; rw [ItV.it_eq]
 go_enter Tryd.func8, Tryd.ntmps8
 go_upto_region 1 with (refine wpList_alloc_obj rfl 32 rfl _ vZero ?_)
 go_simp
 have B0 := hid (Bx2.start (T := 27) (T' := 32) (cs := v.arr) (zs := rvZ.arr) (w := w) HBE.out)
 rw [HBE.out]
 have HV0 := hid (HV.out.below (((Below.refl _ w).alloc (Nat.le_refl _) (.cells v.arr 27)).alloc (by simp) (.cells rvZ.arr 32)))
 generalize (w.alloc (.cells v.arr 27)).alloc (.cells rvZ.arr 32) = W at *
 clear HV
 have c0 := cell_of_block (j := 0) B0.out.box (ar0 v)
 by_cases ht : v.tag = 4325496
 rotate_left
 ·have hne : (v.tag == 4325496) = false := by simpa using ht
  have HE := hid (readV_tag (i := v.it) (by rw [HTG.out]; exact ht))
  go_wp2_with (first | (refine wpList_build_obj rfl 32 _ rfl #[] rfl _ (vBuild0 _) ?_) | (refine wpList_store_obj rfl 32 _ _ rfl (b + 1) rfl rvZ.arr rfl _ _ B0.out.res rfl vSize (varr_one _) ?_; intro w10 hb10 hc10 hs10; have HB10 := hid hb10; have HC10 := hid hc10; clear hb10 hc10 hs10))
  refine bodyPost_ret (results_cell_tmp rfl _ _ (b + 1) _ _ _ _ rfl HB10.out Tryd.underlying32 rfl vSize _ rfl) rfl ?_
  rw [HE.out]
  exact ⟨rfl, by rw [HBE.out]; exact B0.out.done HC10.out⟩
 have HT : Hid (v.it.tag = 4325496) := HTG.out.trans ht
 go_upto_region 3 with (fail)
 clear c0 ht
 rcases hp1 : parseV msgF v.it with c | m
 ·have HE := hid (readV_m HT.out hp1)
  refine wp_region_each 10 [.eq (.agg v.arr), .eq (.agg (needF 4325495 1).arr), .eq (.agg (manyF 4325391 1).arr), stF msgF, .eq (.tuple #[.slice none 0 0, .int .i64 c]), .eq (.tuple #[.slice none 0 0, .int .i64 c]), .eq (.slice none 0 0), .eq (.int .i64 c), .eq (.slice none 0 0), .eq (.int .i64 c)] (by kernel_rfl) (by kernel_rfl) (by kernel_rfl) (by kernel_rfl) ?_ ?_
  ·as_aux_lemma =>
    refine each_5 ?_ ?_ ?_ ?_ ?_ (each_5 ?_ ?_ ?_ ?_ ?_ (each_n))
    ·intro w1 hg Ar seen
     have s1 := seen.sl 1 (.pointer (some ⟨b, 0, none⟩))
     refine does_plain rfl fun K Q' hK => ?_
     refine wp_load_row 27 _ rfl b (by simp [Act.eval, s1]) _ _ _ _ ((hg.block _ (block_lt B0.out.box)).trans B0.out.box) Tryd.underlying27 rfl iSize ?_
     exact hK _ _ (Grow.refl _) rfl
    ·intro w1 hg Ar seen
     refine does_plain rfl fun K Q' hK => ?_
     go_simp
     refine (qneed_any _ _ _).mono ?_
     rintro e u ⟨rfl, hb⟩
     exact hK _ _ hb rfl
    ·intro w1 hg Ar seen
     refine does_plain rfl fun K Q' hK => ?_
     go_simp
     refine (qmany_any _ _ _).mono ?_
     rintro e u ⟨rfl, hb⟩
     exact hK _ _ hb rfl
    ·intro w1 hg Ar seen
     have e1 := seen.de 1 19
     have e2 := seen.de 2 20
     refine does_plain rfl fun K Q' hK => ?_
     refine wp_build_flds _ 52 2 _ rfl msgF rfl (by decide) (by decide) (by simp [Act.eval, e1, e2]; rfl) (fldCells msgF).toArray (by simp) i Tryd.underlying54 hi hz0 hz1 (by kernel_rfl) ?_
     intro s hs
     exact hK _ _ ((Below.refl _ _).alloc (Nat.le_refl _) _) ⟨s, rfl, hs⟩
    ·intro w1 hg Ar seen
     have e0 := seen.de 0 18
     obtain ⟨v3, e3, h3⟩ := seen.dp 3 21
     refine does_plain rfl fun K Q' hK => ?_
     obtain ⟨sf, rfl, hsf⟩ := h3
     go_simp
     refine (parse_any v sf msgF _ (HV0.out.below hg) hsf).mono ?_
     intro e u hres
     obtain ⟨rfl, hb⟩ := parsed_err hres hp1
     exact hK _ _ hb rfl
    ·intro w1 hg Ar seen
     have e4 := seen.de 4 22
     refine does_plain rfl fun K Q' hK => ?_
     go_simp; exact hK _ _ (Grow.refl _) rfl
    ·intro w1 hg Ar seen
     have e5 := seen.de 5 17
     refine does_plain rfl fun K Q' hK => ?_
     go_simp; exact hK _ _ (Grow.refl _) rfl
    ·intro w1 hg Ar seen
     have e5 := seen.de 5 17
     refine does_plain rfl fun K Q' hK => ?_
     go_simp; exact hK _ _ (Grow.refl _) rfl
    ·intro w1 hg Ar seen
     have e6 := seen.de 6 23
     refine does_plain rfl fun K Q' hK => ?_
     go_simp; exact hK _ _ (Grow.refl _) rfl
    ·intro w1 hg Ar seen
     have e7 := seen.de 7 24
     refine does_plain rfl fun K Q' hK => ?_
     go_simp; exact hK _ _ (Grow.refl _) rfl
  intro w1 hg
  refine upon_w' (js := [0, 1, 2, 3, 4, 5, 6, 7, 8, 9]) (by rfl) ?_
  refine upon_e (some 18) (upon_e (some 19) (upon_e (some 20) (upon_v (some 21) fun v3 h3 => upon_e (some 22) (upon_e (some 17) (upon_e (some 23) (upon_e (some 24) (upon_e (some 4) (upon_e (some 5) (upon_n ?_)))))))))
  go_simp
  have B1 := hid (B0.out.below hg)
  have hc := parse_code hp1
  have HC := hid hc
  clear hg hp1 B0 h3
  go_wp2_with (first | (refine wpList_build_obj rfl 32 _ rfl #[] rfl _ (vBuild0 _) ?_) | (refine wpList_store_obj rfl 32 _ _ rfl (b + 1) rfl rvZ.arr rfl _ _ B1.out.res rfl vSize (varr_one _) ?_; intro w10 hb10 hc10 hs10; have HB10 := hid hb10; have HC10 := hid hc10; clear hb10 hc10 hs10))
  refine bodyPost_ret (results_cell_tmp rfl _ _ (b + 1) _ _ _ _ rfl HB10.out Tryd.underlying32 rfl vSize _ rfl) rfl ?_
  rw [HE.out]
  exact ⟨rfl, by rw [HBE.out]; exact B1.out.done HC10.out⟩
 refine wp_region_each 10 [.eq (.agg v.arr), .eq (.agg (needF 4325495 1).arr), .eq (.agg (manyF 4325391 1).arr), stF msgF, stRowsT 25 27 (b + 2) (b + 2) m, stRowsT 25 27 (b + 2) (b + 2) m, stRows 25 27 (b + 2) (b + 2) m, .eq (.int .i64 0), stRows 25 27 (b + 2) (b + 2) m, .eq (.int .i64 0)] (by kernel_rfl) (by kernel_rfl) (by kernel_rfl) (by kernel_rfl) ?_ ?_
 ·as_aux_lemma =>
   refine each_5 ?_ ?_ ?_ ?_ ?_ (each_5 ?_ ?_ ?_ ?_ ?_ (each_n))
   ·intro w1 hg Ar seen
    have s1 := seen.sl 1 (.pointer (some ⟨b, 0, none⟩))
    refine does_plain rfl fun K Q' hK => ?_
    refine wp_load_row 27 _ rfl b (by simp [Act.eval, s1]) _ _ _ _ ((hg.block _ (block_lt B0.out.box)).trans B0.out.box) Tryd.underlying27 rfl iSize ?_
    exact hK _ _ (Grow.refl _) rfl
   ·intro w1 hg Ar seen
    refine does_plain rfl fun K Q' hK => ?_
    go_simp
    refine (qneed_any _ _ _).mono ?_
    rintro e u ⟨rfl, hb⟩
    exact hK _ _ hb rfl
   ·intro w1 hg Ar seen
    refine does_plain rfl fun K Q' hK => ?_
    go_simp
    refine (qmany_any _ _ _).mono ?_
    rintro e u ⟨rfl, hb⟩
    exact hK _ _ hb rfl
   ·intro w1 hg Ar seen
    have e1 := seen.de 1 19
    have e2 := seen.de 2 20
    refine does_plain rfl fun K Q' hK => ?_
    refine wp_build_flds _ 52 2 _ rfl msgF rfl (by decide) (by decide) (by simp [Act.eval, e1, e2]; rfl) (fldCells msgF).toArray (by simp) i Tryd.underlying54 hi hz0 hz1 (by kernel_rfl) ?_
    intro s hs
    exact hK _ _ ((Below.refl _ _).alloc (Nat.le_refl _) _) ⟨s, rfl, hs⟩
   ·intro w1 hg Ar seen
    have e0 := seen.de 0 18
    obtain ⟨v3, e3, h3⟩ := seen.dp 3 21
    refine does_plain rfl fun K Q' hK => ?_
    obtain ⟨sf, rfl, hsf⟩ := h3
    go_simp
    refine (parse_any v sf msgF _ (HV0.out.below hg) hsf).mono ?_
    intro e u hres
    obtain ⟨so, rfl, h1, hb⟩ := parsed_ok hres hp1 (Nat.le_trans B0.out.size hg.size)
    exact hK _ _ hb ⟨so, rfl, h1⟩
   ·intro w1 hg Ar seen
    obtain ⟨v4, e4, h4⟩ := seen.dp 4 22
    refine does_plain rfl fun K Q' hK => ?_
    go_simp
    exact hK _ _ (Grow.refl _) h4
   ·intro w1 hg Ar seen
    obtain ⟨v5, e5, h5⟩ := seen.dp 5 17
    refine does_plain rfl fun K Q' hK => ?_
    obtain ⟨so, rfl, h1⟩ := h5
    go_simp
    exact hK _ _ (Grow.refl _) ⟨so, rfl, h1⟩
   ·intro w1 hg Ar seen
    obtain ⟨v5, e5, h5⟩ := seen.dp 5 17
    refine does_plain rfl fun K Q' hK => ?_
    obtain ⟨so, rfl, h1⟩ := h5
    go_simp; exact hK _ _ (Grow.refl _) rfl
   ·intro w1 hg Ar seen
    obtain ⟨v6, e6, h6⟩ := seen.dp 6 23
    refine does_plain rfl fun K Q' hK => ?_
    go_simp
    exact hK _ _ (Grow.refl _) h6
   ·intro w1 hg Ar seen
    have e7 := seen.de 7 24
    refine does_plain rfl fun K Q' hK => ?_
    go_simp; exact hK _ _ (Grow.refl _) rfl
 intro w1 hg
 refine upon_w' (js := [0, 1, 2, 3, 4, 5, 6, 7, 8, 9]) (by rfl) ?_
 refine upon_e (some 18) (upon_e (some 19) (upon_e (some 20) (upon_v (some 21) fun v3 h3 => upon_v (some 22) fun v4 h4 => upon_v (some 17) fun v5 h5 => upon_v (some 23) fun v6 h6 => upon_e (some 24) (upon_v (some 4) fun v8 h8 => upon_e (some 5) (upon_n ?_)))))
 go_simp
 obtain ⟨so, rfl, hrow⟩ := h8
 clear h3 h4 h5 h6
 have B1 := hid (B0.out.below hg)
 have HRW := hid hrow
 clear hrow hg B0
 have hpr := parse_rows hp1
 obtain ⟨hrl, hneed⟩ := hpr
 obtain ⟨m0, m1, rfl⟩ := rows2 hrl
 obtain ⟨x0, t0, hx0⟩ := hneed 0 _ rfl rfl
 simp only [List.getElem?_cons_zero, Option.some.injEq] at hx0
 subst hx0
 obtain ⟨gm, cm, rfl⟩ := HRW.out.shape (by simp)
 have HM := HRW
 clear hrl hneed HRW
 obtain ⟨s0, l0, g0, vh, -, -, hc0, ha0, hn0, rfl, hr0, ho0, -⟩ := HM.out.hd (k := 0) rfl
 rw [ha0] at hc0
 have HC0 := hid hc0; have HR0 := hid hr0; have HO0 := hid ho0; have HN0 := hid hn0
 clear hc0 ha0 hr0 ho0 hn0
 go_upto_region 6 with (fail)
 rcases hp2 : parseV headF vh.it with c | h
 ·have HE := hid (readV_h HT.out hp1 hp2)
  refine wp_region_each 17 [.eq (.slice (some ⟨gm, 0, none⟩) 2 cm), .eq (.pointer (some ⟨gm, 0, none⟩)), .eq (.slice (some ⟨g0, 0, none⟩) s0.n s0.c), .eq (.pointer (some ⟨g0, 0, none⟩)), .eq (.agg vh.arr), .eq (.agg (needF 4325481 1).arr), .eq (.agg (maybeF 4325456 2).arr), .eq (.agg (maybeF 4325390 5).arr), .eq (.agg (maybeF 4325392 6).arr), .eq (.agg (needF 4325389 2).arr), stF headF, .eq (.tuple #[.slice none 0 0, .int .i64 c]), .eq (.tuple #[.slice none 0 0, .int .i64 c]), .eq (.slice none 0 0), .eq (.int .i64 c), .eq (.slice none 0 0), .eq (.int .i64 c)] (by kernel_rfl) (by kernel_rfl) (by kernel_rfl) (by kernel_rfl) ?_ ?_
  ·as_aux_lemma =>
    refine each_5 ?_ ?_ ?_ ?_ ?_ (each_5 ?_ ?_ ?_ ?_ ?_ (each_5 ?_ ?_ ?_ ?_ ?_ (each_c ?_ (each_c ?_ (each_n)))))
    ·intro w1 hg Ar seen
     have s4 := seen.sl 4 (.slice (some ⟨gm, 0, none⟩) 2 cm)
     refine does_plain rfl fun K Q' hK => ?_
     go_simp; exact hK _ _ (Grow.refl _) rfl
    ·intro w1 hg Ar seen
     have e0 := seen.de 0 30
     refine does_plain rfl fun K Q' hK => ?_
     go_simp; exact hK _ _ (Grow.refl _) rfl
    ·intro w1 hg Ar seen
     have e1 := seen.de 1 31
     refine does_plain rfl fun K Q' hK => ?_
     have hc := cell_later hg HC0.out
     go_simp; exact hK _ _ (Grow.refl _) rfl
    ·intro w1 hg Ar seen
     have e2 := seen.de 2 32
     refine does_plain rfl fun K Q' hK => ?_
     have hn := HN0.out
     go_simp; exact hK _ _ (Grow.refl _) rfl
    ·intro w1 hg Ar seen
     have e3 := seen.de 3 33
     refine does_plain rfl fun K Q' hK => ?_
     refine wp_load_mid 27 _ rfl g0 0 (by simp [Act.eval, e3]) vh.arr.toList _ (range_later hg HR0.out) Tryd.underlying27 rfl iSize ?_
     exact hK _ _ (Grow.refl _) rfl
    ·intro w1 hg Ar seen
     refine does_plain rfl fun K Q' hK => ?_
     go_simp
     refine (qneed_any _ _ _).mono ?_
     rintro e u ⟨rfl, hb⟩
     exact hK _ _ hb rfl
    ·intro w1 hg Ar seen
     refine does_plain rfl fun K Q' hK => ?_
     go_simp
     refine (qmaybe_any _ _ _).mono ?_
     rintro e u ⟨rfl, hb⟩
     exact hK _ _ hb rfl
    ·intro w1 hg Ar seen
     refine does_plain rfl fun K Q' hK => ?_
     go_simp
     refine (qmaybe_any _ _ _).mono ?_
     rintro e u ⟨rfl, hb⟩
     exact hK _ _ hb rfl
    ·intro w1 hg Ar seen
     refine does_plain rfl fun K Q' hK => ?_
     go_simp
     refine (qmaybe_any _ _ _).mono ?_
     rintro e u ⟨rfl, hb⟩
     exact hK _ _ hb rfl
    ·intro w1 hg Ar seen
     refine does_plain rfl fun K Q' hK => ?_
     go_simp
     refine (qneed_any _ _ _).mono ?_
     rintro e u ⟨rfl, hb⟩
     exact hK _ _ hb rfl
    ·intro w1 hg Ar seen
     have e5 := seen.de 5 35
     have e6 := seen.de 6 36
     have e7 := seen.de 7 37
     have e8 := seen.de 8 38
     have e9 := seen.de 9 39
     refine does_plain rfl fun K Q' hK => ?_
     refine wp_build_flds _ 52 5 _ rfl headF rfl (by decide) (by decide) (by simp [Act.eval, e5, e6, e7, e8, e9]; rfl) (fldCells headF).toArray (by simp) i Tryd.underlying54 hi hz0 hz1 (by kernel_rfl) ?_
     intro s hs
     exact hK _ _ ((Below.refl _ _).alloc (Nat.le_refl _) _) ⟨s, rfl, hs⟩
    ·intro w1 hg Ar seen
     have e4 := seen.de 4 34
     obtain ⟨v10, e10, h10⟩ := seen.dp 10 40
     refine does_plain rfl fun K Q' hK => ?_
     obtain ⟨sf, rfl, hsf⟩ := h10
     go_simp
     refine (parse_any vh sf headF _ (HO0.out.below hg) hsf).mono ?_
     intro e u hres
     obtain ⟨rfl, hb⟩ := parsed_err hres hp2
     exact hK _ _ hb rfl
    ·intro w1 hg Ar seen
     have e11 := seen.de 11 41
     refine does_plain rfl fun K Q' hK => ?_
     go_simp; exact hK _ _ (Grow.refl _) rfl
    ·intro w1 hg Ar seen
     have e12 := seen.de 12 29
     refine does_plain rfl fun K Q' hK => ?_
     go_simp; exact hK _ _ (Grow.refl _) rfl
    ·intro w1 hg Ar seen
     have e12 := seen.de 12 29
     refine does_plain rfl fun K Q' hK => ?_
     go_simp; exact hK _ _ (Grow.refl _) rfl
    ·intro w1 hg Ar seen
     have e13 := seen.de 13 42
     refine does_plain rfl fun K Q' hK => ?_
     go_simp; exact hK _ _ (Grow.refl _) rfl
    ·intro w1 hg Ar seen
     have e14 := seen.de 14 43
     refine does_plain rfl fun K Q' hK => ?_
     go_simp; exact hK _ _ (Grow.refl _) rfl
  intro w1 hg
  refine upon_w' (js := [0, 1, 2, 3, 4, 5, 6, 7, 8, 9, 10, 11, 12, 13, 14, 15, 16]) (by rfl) ?_
  refine upon_e (some 30) (upon_e (some 31) (upon_e (some 32) (upon_e (some 33) (upon_e (some 34) (upon_e (some 35) (upon_e (some 36) (upon_e (some 37) (upon_e (some 38) (upon_e (some 39) (upon_v (some 40) fun v10 h10 => upon_e (some 41) (upon_e (some 29) (upon_e (some 42) (upon_e (some 43) (upon_e (some 6) (upon_e (some 5) (upon_n ?_))))))))))))))))
  go_simp
  have B2 := hid (B1.out.below hg)
  have hc := parse_code hp2
  have HC := hid hc
  clear hg hp2 B1 h10
  go_wp2_with (first | (refine wpList_build_obj rfl 32 _ rfl #[] rfl _ (vBuild0 _) ?_) | (refine wpList_store_obj rfl 32 _ _ rfl (b + 1) rfl rvZ.arr rfl _ _ B2.out.res rfl vSize (varr_one _) ?_; intro w10 hb10 hc10 hs10; have HB10 := hid hb10; have HC10 := hid hc10; clear hb10 hc10 hs10))
  refine bodyPost_ret (results_cell_tmp rfl _ _ (b + 1) _ _ _ _ rfl HB10.out Tryd.underlying32 rfl vSize _ rfl) rfl ?_
  rw [HE.out]
  exact ⟨rfl, by rw [HBE.out]; exact B2.out.done HC10.out⟩
 refine wp_region_each 17 [.eq (.slice (some ⟨gm, 0, none⟩) 2 cm), .eq (.pointer (some ⟨gm, 0, none⟩)), .eq (.slice (some ⟨g0, 0, none⟩) s0.n s0.c), .eq (.pointer (some ⟨g0, 0, none⟩)), .eq (.agg vh.arr), .eq (.agg (needF 4325481 1).arr), .eq (.agg (maybeF 4325456 2).arr), .eq (.agg (maybeF 4325390 5).arr), .eq (.agg (maybeF 4325392 6).arr), .eq (.agg (needF 4325389 2).arr), stF headF, stRowsT 25 27 (b + 2) (b + 2) h, stRowsT 25 27 (b + 2) (b + 2) h, stRows 25 27 (b + 2) (b + 2) h, .eq (.int .i64 0), stRows 25 27 (b + 2) (b + 2) h, .eq (.int .i64 0)] (by kernel_rfl) (by kernel_rfl) (by kernel_rfl) (by kernel_rfl) ?_ ?_
 ·as_aux_lemma =>
   refine each_5 ?_ ?_ ?_ ?_ ?_ (each_5 ?_ ?_ ?_ ?_ ?_ (each_5 ?_ ?_ ?_ ?_ ?_ (each_c ?_ (each_c ?_ (each_n)))))
   ·intro w1 hg Ar seen
    have s4 := seen.sl 4 (.slice (some ⟨gm, 0, none⟩) 2 cm)
    refine does_plain rfl fun K Q' hK => ?_
    go_simp; exact hK _ _ (Grow.refl _) rfl
   ·intro w1 hg Ar seen
    have e0 := seen.de 0 30
    refine does_plain rfl fun K Q' hK => ?_
    go_simp; exact hK _ _ (Grow.refl _) rfl
   ·intro w1 hg Ar seen
    have e1 := seen.de 1 31
    refine does_plain rfl fun K Q' hK => ?_
    have hc := cell_later hg HC0.out
    go_simp; exact hK _ _ (Grow.refl _) rfl
   ·intro w1 hg Ar seen
    have e2 := seen.de 2 32
    refine does_plain rfl fun K Q' hK => ?_
    have hn := HN0.out
    go_simp; exact hK _ _ (Grow.refl _) rfl
   ·intro w1 hg Ar seen
    have e3 := seen.de 3 33
    refine does_plain rfl fun K Q' hK => ?_
    refine wp_load_mid 27 _ rfl g0 0 (by simp [Act.eval, e3]) vh.arr.toList _ (range_later hg HR0.out) Tryd.underlying27 rfl iSize ?_
    exact hK _ _ (Grow.refl _) rfl
   ·intro w1 hg Ar seen
    refine does_plain rfl fun K Q' hK => ?_
    go_simp
    refine (qneed_any _ _ _).mono ?_
    rintro e u ⟨rfl, hb⟩
    exact hK _ _ hb rfl
   ·intro w1 hg Ar seen
    refine does_plain rfl fun K Q' hK => ?_
    go_simp
    refine (qmaybe_any _ _ _).mono ?_
    rintro e u ⟨rfl, hb⟩
    exact hK _ _ hb rfl
   ·intro w1 hg Ar seen
    refine does_plain rfl fun K Q' hK => ?_
    go_simp
    refine (qmaybe_any _ _ _).mono ?_
    rintro e u ⟨rfl, hb⟩
    exact hK _ _ hb rfl
   ·intro w1 hg Ar seen
    refine does_plain rfl fun K Q' hK => ?_
    go_simp
    refine (qmaybe_any _ _ _).mono ?_
    rintro e u ⟨rfl, hb⟩
    exact hK _ _ hb rfl
   ·intro w1 hg Ar seen
    refine does_plain rfl fun K Q' hK => ?_
    go_simp
    refine (qneed_any _ _ _).mono ?_
    rintro e u ⟨rfl, hb⟩
    exact hK _ _ hb rfl
   ·intro w1 hg Ar seen
    have e5 := seen.de 5 35
    have e6 := seen.de 6 36
    have e7 := seen.de 7 37
    have e8 := seen.de 8 38
    have e9 := seen.de 9 39
    refine does_plain rfl fun K Q' hK => ?_
    refine wp_build_flds _ 52 5 _ rfl headF rfl (by decide) (by decide) (by simp [Act.eval, e5, e6, e7, e8, e9]; rfl) (fldCells headF).toArray (by simp) i Tryd.underlying54 hi hz0 hz1 (by kernel_rfl) ?_
    intro s hs
    exact hK _ _ ((Below.refl _ _).alloc (Nat.le_refl _) _) ⟨s, rfl, hs⟩
   ·intro w1 hg Ar seen
    have e4 := seen.de 4 34
    obtain ⟨v10, e10, h10⟩ := seen.dp 10 40
    refine does_plain rfl fun K Q' hK => ?_
    obtain ⟨sf, rfl, hsf⟩ := h10
    go_simp
    refine (parse_any vh sf headF _ (HO0.out.below hg) hsf).mono ?_
    intro e u hres
    obtain ⟨so, rfl, h1, hb⟩ := parsed_ok hres hp2 (Nat.le_trans B1.out.size hg.size)
    exact hK _ _ hb ⟨so, rfl, h1⟩
   ·intro w1 hg Ar seen
    obtain ⟨v11, e11, h11⟩ := seen.dp 11 41
    refine does_plain rfl fun K Q' hK => ?_
    go_simp
    exact hK _ _ (Grow.refl _) h11
   ·intro w1 hg Ar seen
    obtain ⟨v12, e12, h12⟩ := seen.dp 12 29
    refine does_plain rfl fun K Q' hK => ?_
    obtain ⟨so, rfl, h1⟩ := h12
    go_simp
    exact hK _ _ (Grow.refl _) ⟨so, rfl, h1⟩
   ·intro w1 hg Ar seen
    obtain ⟨v12, e12, h12⟩ := seen.dp 12 29
    refine does_plain rfl fun K Q' hK => ?_
    obtain ⟨so, rfl, h1⟩ := h12
    go_simp; exact hK _ _ (Grow.refl _) rfl
   ·intro w1 hg Ar seen
    obtain ⟨v13, e13, h13⟩ := seen.dp 13 42
    refine does_plain rfl fun K Q' hK => ?_
    go_simp
    exact hK _ _ (Grow.refl _) h13
   ·intro w1 hg Ar seen
    have e14 := seen.de 14 43
    refine does_plain rfl fun K Q' hK => ?_
    go_simp; exact hK _ _ (Grow.refl _) rfl
 intro w1 hg
 refine upon_w' (js := [0, 1, 2, 3, 4, 5, 6, 7, 8, 9, 10, 11, 12, 13, 14, 15, 16]) (by rfl) ?_
 refine upon_e (some 30) (upon_e (some 31) (upon_e (some 32) (upon_e (some 33) (upon_e (some 34) (upon_e (some 35) (upon_e (some 36) (upon_e (some 37) (upon_e (some 38) (upon_e (some 39) (upon_v (some 40) fun v10 h10 => upon_v (some 41) fun v11 h11 => upon_v (some 29) fun v12 h12 => upon_v (some 42) fun v13 h13 => upon_e (some 43) (upon_v (some 6) fun v15 h15 => upon_e (some 5) (upon_n ?_))))))))))))
 go_simp
 obtain ⟨so, rfl, hrow⟩ := h15
 clear h10 h11 h12 h13
 have B2 := hid (B1.out.below hg)
 have HM2 := hid (HM.out.below hg)
 have HRW := hid hrow
 clear hrow hg B1 HM
 have hpr := parse_rows hp2
 obtain ⟨hrl, hneed⟩ := hpr
 obtain ⟨y0, y1, y2, y3, y4, rfl⟩ := rows5 hrl
 obtain ⟨x0, u0, hx0⟩ := hneed 0 _ rfl rfl
 simp only [List.getElem?_cons_zero, Option.some.injEq] at hx0
 subst hx0
 obtain ⟨gh, ch, rfl⟩ := HRW.out.shape (by simp)
 have HH := HRW
 clear hrl hneed HRW HC0 HR0 HO0 HN0
 obtain ⟨s0, l0, g0, vv, -, -, hc0, ha0, hn0, rfl, hr0, ho0, -⟩ := HH.out.hd (k := 0) rfl
 rw [ha0] at hc0
 have HC0 := hid hc0; have HR0 := hid hr0; have HO0 := hid ho0; have HN0 := hid hn0
 clear hc0 ha0 hr0 ho0 hn0
 go_upto_region 9 with (fail)
 rcases hp3 : parseV verF vv.it with c | n
 ·have HE := hid (readV_v HT.out hp1 hp2 hp3)
  refine wp_region_each 14 [.eq (.slice (some ⟨gh, 0, none⟩) 5 ch), .eq (.pointer (some ⟨gh, 0, none⟩)), .eq (.slice (some ⟨g0, 0, none⟩) s0.n s0.c), .eq (.pointer (some ⟨g0, 0, none⟩)), .eq (.agg vv.arr), .eq (.agg (needF 4325482 2).arr), .eq (.agg (needF 4325483 2).arr), stF verF, .eq (.tuple #[.slice none 0 0, .int .i64 c]), .eq (.tuple #[.slice none 0 0, .int .i64 c]), .eq (.slice none 0 0), .eq (.int .i64 c), .eq (.slice none 0 0), .eq (.int .i64 c)] (by kernel_rfl) (by kernel_rfl) (by kernel_rfl) (by kernel_rfl) ?_ ?_
  ·as_aux_lemma =>
    refine each_5 ?_ ?_ ?_ ?_ ?_ (each_5 ?_ ?_ ?_ ?_ ?_ (each_c ?_ (each_c ?_ (each_c ?_ (each_c ?_ (each_n))))))
    ·intro w1 hg Ar seen
     have s6 := seen.sl 6 (.slice (some ⟨gh, 0, none⟩) 5 ch)
     refine does_plain rfl fun K Q' hK => ?_
     go_simp; exact hK _ _ (Grow.refl _) rfl
    ·intro w1 hg Ar seen
     have e0 := seen.de 0 49
     refine does_plain rfl fun K Q' hK => ?_
     go_simp; exact hK _ _ (Grow.refl _) rfl
    ·intro w1 hg Ar seen
     have e1 := seen.de 1 50
     refine does_plain rfl fun K Q' hK => ?_
     have hc := cell_later hg HC0.out
     go_simp; exact hK _ _ (Grow.refl _) rfl
    ·intro w1 hg Ar seen
     have e2 := seen.de 2 51
     refine does_plain rfl fun K Q' hK => ?_
     have hn := HN0.out
     go_simp; exact hK _ _ (Grow.refl _) rfl
    ·intro w1 hg Ar seen
     have e3 := seen.de 3 52
     refine does_plain rfl fun K Q' hK => ?_
     refine wp_load_mid 27 _ rfl g0 0 (by simp [Act.eval, e3]) vv.arr.toList _ (range_later hg HR0.out) Tryd.underlying27 rfl iSize ?_
     exact hK _ _ (Grow.refl _) rfl
    ·intro w1 hg Ar seen
     refine does_plain rfl fun K Q' hK => ?_
     go_simp
     refine (qneed_any _ _ _).mono ?_
     rintro e u ⟨rfl, hb⟩
     exact hK _ _ hb rfl
    ·intro w1 hg Ar seen
     refine does_plain rfl fun K Q' hK => ?_
     go_simp
     refine (qneed_any _ _ _).mono ?_
     rintro e u ⟨rfl, hb⟩
     exact hK _ _ hb rfl
    ·intro w1 hg Ar seen
     have e5 := seen.de 5 54
     have e6 := seen.de 6 55
     refine does_plain rfl fun K Q' hK => ?_
     refine wp_build_flds _ 52 2 _ rfl verF rfl (by decide) (by decide) (by simp [Act.eval, e5, e6]; rfl) (fldCells verF).toArray (by simp) i Tryd.underlying54 hi hz0 hz1 (by kernel_rfl) ?_
     intro s hs
     exact hK _ _ ((Below.refl _ _).alloc (Nat.le_refl _) _) ⟨s, rfl, hs⟩
    ·intro w1 hg Ar seen
     have e4 := seen.de 4 53
     obtain ⟨v7, e7, h7⟩ := seen.dp 7 56
     refine does_plain rfl fun K Q' hK => ?_
     obtain ⟨sf, rfl, hsf⟩ := h7
     go_simp
     refine (parse_any vv sf verF _ (HO0.out.below hg) hsf).mono ?_
     intro e u hres
     obtain ⟨rfl, hb⟩ := parsed_err hres hp3
     exact hK _ _ hb rfl
    ·intro w1 hg Ar seen
     have e8 := seen.de 8 57
     refine does_plain rfl fun K Q' hK => ?_
     go_simp; exact hK _ _ (Grow.refl _) rfl
    ·intro w1 hg Ar seen
     have e9 := seen.de 9 48
     refine does_plain rfl fun K Q' hK => ?_
     go_simp; exact hK _ _ (Grow.refl _) rfl
    ·intro w1 hg Ar seen
     have e9 := seen.de 9 48
     refine does_plain rfl fun K Q' hK => ?_
     go_simp; exact hK _ _ (Grow.refl _) rfl
    ·intro w1 hg Ar seen
     have e10 := seen.de 10 58
     refine does_plain rfl fun K Q' hK => ?_
     go_simp; exact hK _ _ (Grow.refl _) rfl
    ·intro w1 hg Ar seen
     have e11 := seen.de 11 59
     refine does_plain rfl fun K Q' hK => ?_
     go_simp; exact hK _ _ (Grow.refl _) rfl
  intro w1 hg
  refine upon_w' (js := [0, 1, 2, 3, 4, 5, 6, 7, 8, 9, 10, 11, 12, 13]) (by rfl) ?_
  refine upon_e (some 49) (upon_e (some 50) (upon_e (some 51) (upon_e (some 52) (upon_e (some 53) (upon_e (some 54) (upon_e (some 55) (upon_v (some 56) fun v7 h7 => upon_e (some 57) (upon_e (some 48) (upon_e (some 58) (upon_e (some 59) (upon_e (some 7) (upon_e (some 5) (upon_n ?_)))))))))))))
  go_simp
  have B3 := hid (B2.out.below hg)
  have hc := parse_code hp3
  have HC := hid hc
  clear hg hp3 B2 h7
  go_wp2_with (first | (refine wpList_build_obj rfl 32 _ rfl #[] rfl _ (vBuild0 _) ?_) | (refine wpList_store_obj rfl 32 _ _ rfl (b + 1) rfl rvZ.arr rfl _ _ B3.out.res rfl vSize (varr_one _) ?_; intro w10 hb10 hc10 hs10; have HB10 := hid hb10; have HC10 := hid hc10; clear hb10 hc10 hs10))
  refine bodyPost_ret (results_cell_tmp rfl _ _ (b + 1) _ _ _ _ rfl HB10.out Tryd.underlying32 rfl vSize _ rfl) rfl ?_
  rw [HE.out]
  exact ⟨rfl, by rw [HBE.out]; exact B3.out.done HC10.out⟩
 refine wp_region_each 14 [.eq (.slice (some ⟨gh, 0, none⟩) 5 ch), .eq (.pointer (some ⟨gh, 0, none⟩)), .eq (.slice (some ⟨g0, 0, none⟩) s0.n s0.c), .eq (.pointer (some ⟨g0, 0, none⟩)), .eq (.agg vv.arr), .eq (.agg (needF 4325482 2).arr), .eq (.agg (needF 4325483 2).arr), stF verF, stRowsT 25 27 (b + 2) (b + 2) n, stRowsT 25 27 (b + 2) (b + 2) n, stRows 25 27 (b + 2) (b + 2) n, .eq (.int .i64 0), stRows 25 27 (b + 2) (b + 2) n, .eq (.int .i64 0)] (by kernel_rfl) (by kernel_rfl) (by kernel_rfl) (by kernel_rfl) ?_ ?_
 ·as_aux_lemma =>
   refine each_5 ?_ ?_ ?_ ?_ ?_ (each_5 ?_ ?_ ?_ ?_ ?_ (each_c ?_ (each_c ?_ (each_c ?_ (each_c ?_ (each_n))))))
   ·intro w1 hg Ar seen
    have s6 := seen.sl 6 (.slice (some ⟨gh, 0, none⟩) 5 ch)
    refine does_plain rfl fun K Q' hK => ?_
    go_simp; exact hK _ _ (Grow.refl _) rfl
   ·intro w1 hg Ar seen
    have e0 := seen.de 0 49
    refine does_plain rfl fun K Q' hK => ?_
    go_simp; exact hK _ _ (Grow.refl _) rfl
   ·intro w1 hg Ar seen
    have e1 := seen.de 1 50
    refine does_plain rfl fun K Q' hK => ?_
    have hc := cell_later hg HC0.out
    go_simp; exact hK _ _ (Grow.refl _) rfl
   ·intro w1 hg Ar seen
    have e2 := seen.de 2 51
    refine does_plain rfl fun K Q' hK => ?_
    have hn := HN0.out
    go_simp; exact hK _ _ (Grow.refl _) rfl
   ·intro w1 hg Ar seen
    have e3 := seen.de 3 52
    refine does_plain rfl fun K Q' hK => ?_
    refine wp_load_mid 27 _ rfl g0 0 (by simp [Act.eval, e3]) vv.arr.toList _ (range_later hg HR0.out) Tryd.underlying27 rfl iSize ?_
    exact hK _ _ (Grow.refl _) rfl
   ·intro w1 hg Ar seen
    refine does_plain rfl fun K Q' hK => ?_
    go_simp
    refine (qneed_any _ _ _).mono ?_
    rintro e u ⟨rfl, hb⟩
    exact hK _ _ hb rfl
   ·intro w1 hg Ar seen
    refine does_plain rfl fun K Q' hK => ?_
    go_simp
    refine (qneed_any _ _ _).mono ?_
    rintro e u ⟨rfl, hb⟩
    exact hK _ _ hb rfl
   ·intro w1 hg Ar seen
    have e5 := seen.de 5 54
    have e6 := seen.de 6 55
    refine does_plain rfl fun K Q' hK => ?_
    refine wp_build_flds _ 52 2 _ rfl verF rfl (by decide) (by decide) (by simp [Act.eval, e5, e6]; rfl) (fldCells verF).toArray (by simp) i Tryd.underlying54 hi hz0 hz1 (by kernel_rfl) ?_
    intro s hs
    exact hK _ _ ((Below.refl _ _).alloc (Nat.le_refl _) _) ⟨s, rfl, hs⟩
   ·intro w1 hg Ar seen
    have e4 := seen.de 4 53
    obtain ⟨v7, e7, h7⟩ := seen.dp 7 56
    refine does_plain rfl fun K Q' hK => ?_
    obtain ⟨sf, rfl, hsf⟩ := h7
    go_simp
    refine (parse_any vv sf verF _ (HO0.out.below hg) hsf).mono ?_
    intro e u hres
    obtain ⟨so, rfl, h1, hb⟩ := parsed_ok hres hp3 (Nat.le_trans B2.out.size hg.size)
    exact hK _ _ hb ⟨so, rfl, h1⟩
   ·intro w1 hg Ar seen
    obtain ⟨v8, e8, h8⟩ := seen.dp 8 57
    refine does_plain rfl fun K Q' hK => ?_
    go_simp
    exact hK _ _ (Grow.refl _) h8
   ·intro w1 hg Ar seen
    obtain ⟨v9, e9, h9⟩ := seen.dp 9 48
    refine does_plain rfl fun K Q' hK => ?_
    obtain ⟨so, rfl, h1⟩ := h9
    go_simp
    exact hK _ _ (Grow.refl _) ⟨so, rfl, h1⟩
   ·intro w1 hg Ar seen
    obtain ⟨v9, e9, h9⟩ := seen.dp 9 48
    refine does_plain rfl fun K Q' hK => ?_
    obtain ⟨so, rfl, h1⟩ := h9
    go_simp; exact hK _ _ (Grow.refl _) rfl
   ·intro w1 hg Ar seen
    obtain ⟨v10, e10, h10⟩ := seen.dp 10 58
    refine does_plain rfl fun K Q' hK => ?_
    go_simp
    exact hK _ _ (Grow.refl _) h10
   ·intro w1 hg Ar seen
    have e11 := seen.de 11 59
    refine does_plain rfl fun K Q' hK => ?_
    go_simp; exact hK _ _ (Grow.refl _) rfl
 intro w1 hg
 refine upon_w' (js := [0, 1, 2, 3, 4, 5, 6, 7, 8, 9, 10, 11, 12, 13]) (by rfl) ?_
 refine upon_e (some 49) (upon_e (some 50) (upon_e (some 51) (upon_e (some 52) (upon_e (some 53) (upon_e (some 54) (upon_e (some 55) (upon_v (some 56) fun v7 h7 => upon_v (some 57) fun v8 h8 => upon_v (some 48) fun v9 h9 => upon_v (some 58) fun v10 h10 => upon_e (some 59) (upon_v (some 7) fun v12 h12 => upon_e (some 5) (upon_n ?_)))))))))
 go_simp
 obtain ⟨so, rfl, hrow⟩ := h12
 clear h7 h8 h9 h10
 have B3 := hid (B2.out.below hg)
 have HM3 := hid (HM2.out.below hg)
 have HH3 := hid (HH.out.below hg)
 have HRW := hid hrow
 clear hrow hg B2 HM2 HH
 have hpr := parse_rows hp3
 obtain ⟨hrl, hneed⟩ := hpr
 obtain ⟨z0, z1, rfl⟩ := rows2 hrl
 obtain ⟨gv, cv, rfl⟩ := HRW.out.shape (by simp)
 have HN3 := HRW
 clear hrl hneed HRW HC0 HR0 HO0 HN0
 obtain ⟨sa, la, hma, hsa, hca, -, -⟩ := HN3.out.an (k := 0) rfl
 obtain ⟨sb, lb, hmb, hsb, hcb, -, -⟩ := HN3.out.an (k := 1) rfl
 obtain ⟨sc, lc, hmc, hsc, hcc, hnc, -⟩ := HH3.out.an (k := 1) rfl
 obtain ⟨sd, ld, hmd, hsd, hcd, -, -⟩ := HH3.out.an (k := 2) rfl
 obtain ⟨se, le, hme, hse, hce, -, -⟩ := HH3.out.an (k := 4) rfl
 obtain ⟨s1, l1, hm1, hs1, hc1, hn1, hall1⟩ := HM3.out.an (k := 1) rfl
 have HMA := hid hma; have HSA := hid hsa; have HCA := hid hca; have HMB := hid hmb; have HSB := hid hsb; have HCB := hid hcb
 have HMC := hid hmc; have HSC := hid hsc; have HCC := hid hcc; have HNC := hid hnc; have HMD := hid hmd; have HSD := hid hsd; have HCD := hid hcd
 have HME := hid hme; have HSE := hid hse; have HCE := hid hce
 have HM1 := hid hm1; have HS1 := hid hs1; have HC1 := hid hc1; have HN1 := hid hn1; have HA1 := hid hall1
 clear hma hsa hca hmb hsb hcb hmc hsc hcc hnc hmd hsd hcd hme hse hce hm1 hs1 hc1 hn1 hall1 HM3 HH3 HN3
 have HRV := hid (fun (l : List RqI) (q : Rq) => readV_q (l := l) (q := q) HT.out hp1 hp2 hp3)
 have HRE := hid (fun (c : Int) => readV_i (c := c) HT.out hp1 hp2 hp3)
 simp only [List.getD_cons_zero, List.getD_cons_succ] at HRV HRE
 clear hp1 hp2 hp3 HTG HT
 go_upto_region 12 with (fail)
 obtain ⟨W3, hw3⟩ : ∃ W, W = w1 := ⟨_, rfl⟩
 subst hw3
 obtain ⟨z, hzw⟩ : ∃ z, z = W3.heap.size := ⟨_, rfl⟩
 have HZW := hid hzw
 have HBZ : Hid (b + 2 ≤ z) := by show _ ≤ _; rw [hzw]; exact B3.out.size
 clear hzw
 obtain ⟨n0, hq⟩ : ∃ n, numV z0 0 = n := ⟨_, rfl⟩
 have En0 : Hid (numV (la.map ItV.it) 0 = n0) := by show _ = _; rw [HMA.out]; exact hq
 rw [hq] at HRV
 clear hq
 obtain ⟨n1, hq⟩ : ∃ n, numV z1 0 = n := ⟨_, rfl⟩
 have En1 : Hid (numV (lb.map ItV.it) 0 = n1) := by show _ = _; rw [HMB.out]; exact hq
 rw [hq] at HRV
 clear hq
 obtain ⟨n2, hq⟩ : ∃ n, numV y1 0 = n := ⟨_, rfl⟩
 have En2 : Hid (numV (lc.map ItV.it) 0 = n2) := by show _ = _; rw [HMC.out]; exact hq
 rw [hq] at HRV
 clear hq
 obtain ⟨n3, hq⟩ : ∃ n, numV y2 2 = n := ⟨_, rfl⟩
 have En3 : Hid (numV (ld.map ItV.it) 2 = n3) := by show _ = _; rw [HMD.out]; exact hq
 rw [hq] at HRV
 clear hq
 obtain ⟨n4, hq⟩ : ∃ n, numV y4 0 = n := ⟨_, rfl⟩
 have En4 : Hid (numV (le.map ItV.it) 0 = n4) := by show _ = _; rw [HME.out]; exact hq
 rw [hq] at HRV
 clear hq
 refine wp_region_each 18 [.eq (.slice (some ⟨gv, 0, none⟩) 2 cv), .eq (.pointer (some ⟨gv, 0, none⟩)), .eq (.slice sa.a sa.n sa.c), .eq (.int .i64 n0), .eq (.slice (some ⟨gv, 0, none⟩) 2 cv), .eq (.pointer (some ⟨gv, 1, none⟩)), .eq (.slice sb.a sb.n sb.c), .eq (.int .i64 n1), .eq (.slice (some ⟨gh, 0, none⟩) 5 ch), .eq (.pointer (some ⟨gh, 1, none⟩)), .eq (.slice sc.a sc.n sc.c), .eq (.int .i64 n2), .eq (.slice (some ⟨gh, 0, none⟩) 5 ch), .eq (.pointer (some ⟨gh, 2, none⟩)), .eq (.slice sd.a sd.n sd.c), .eq (.int .i64 n3), .eq (.agg (RqV.arr { major := n0, minor := n1, max := n2, opt := n3 })), stNewQ 32 rvZ.arr z] (by kernel_rfl) (by kernel_rfl) (by kernel_rfl) (by kernel_rfl) ?_ ?_
 ·as_aux_lemma =>
   refine each_5 ?_ ?_ ?_ ?_ ?_ (each_5 ?_ ?_ ?_ ?_ ?_ (each_5 ?_ ?_ ?_ ?_ ?_ (each_c ?_ (each_c ?_ (each_c ?_ (each_n))))))
   ·intro w1 hg Ar seen
    have s7 := seen.sl 7 (.slice (some ⟨gv, 0, none⟩) 2 cv)
    refine does_plain rfl fun K Q' hK => ?_
    go_simp; exact hK _ _ (Grow.refl _) rfl
   ·intro w1 hg Ar seen
    have e0 := seen.de 0 64
    refine does_plain rfl fun K Q' hK => ?_
    go_simp; exact hK _ _ (Grow.refl _) rfl
   ·intro w1 hg Ar seen
    have e1 := seen.de 1 65
    refine does_plain rfl fun K Q' hK => ?_
    have hc := cell_later hg HCA.out
    go_simp; exact hK _ _ (Grow.refl _) rfl
   ·intro w1 hg Ar seen
    have e2 := seen.de 2 66
    refine does_plain rfl fun K Q' hK => ?_
    go_simp
    refine (qnumber_any sa la 0 _ (HSA.out.below hg)).mono ?_
    rintro e u ⟨rfl, rfl⟩
    exact hK _ _ (Grow.refl _) (by rw [En0.out]; rfl)
   ·intro w1 hg Ar seen
    have s7 := seen.sl 7 (.slice (some ⟨gv, 0, none⟩) 2 cv)
    refine does_plain rfl fun K Q' hK => ?_
    go_simp; exact hK _ _ (Grow.refl _) rfl
   ·intro w1 hg Ar seen
    have e4 := seen.de 4 68
    refine does_plain rfl fun K Q' hK => ?_
    go_simp; exact hK _ _ (Grow.refl _) rfl
   ·intro w1 hg Ar seen
    have e5 := seen.de 5 69
    refine does_plain rfl fun K Q' hK => ?_
    have hc := cell_later hg HCB.out
    go_simp; exact hK _ _ (Grow.refl _) rfl
   ·intro w1 hg Ar seen
    have e6 := seen.de 6 70
    refine does_plain rfl fun K Q' hK => ?_
    go_simp
    refine (qnumber_any sb lb 0 _ (HSB.out.below hg)).mono ?_
    rintro e u ⟨rfl, rfl⟩
    exact hK _ _ (Grow.refl _) (by rw [En1.out]; rfl)
   ·intro w1 hg Ar seen
    have s6 := seen.sl 6 (.slice (some ⟨gh, 0, none⟩) 5 ch)
    refine does_plain rfl fun K Q' hK => ?_
    go_simp; exact hK _ _ (Grow.refl _) rfl
   ·intro w1 hg Ar seen
    have e8 := seen.de 8 72
    refine does_plain rfl fun K Q' hK => ?_
    go_simp; exact hK _ _ (Grow.refl _) rfl
   ·intro w1 hg Ar seen
    have e9 := seen.de 9 73
    refine does_plain rfl fun K Q' hK => ?_
    have hc := cell_later hg HCC.out
    go_simp; exact hK _ _ (Grow.refl _) rfl
   ·intro w1 hg Ar seen
    have e10 := seen.de 10 74
    refine does_plain rfl fun K Q' hK => ?_
    go_simp
    refine (qnumber_any sc lc 0 _ (HSC.out.below hg)).mono ?_
    rintro e u ⟨rfl, rfl⟩
    exact hK _ _ (Grow.refl _) (by rw [En2.out]; rfl)
   ·intro w1 hg Ar seen
    have s6 := seen.sl 6 (.slice (some ⟨gh, 0, none⟩) 5 ch)
    refine does_plain rfl fun K Q' hK => ?_
    go_simp; exact hK _ _ (Grow.refl _) rfl
   ·intro w1 hg Ar seen
    have e12 := seen.de 12 76
    refine does_plain rfl fun K Q' hK => ?_
    go_simp; exact hK _ _ (Grow.refl _) rfl
   ·intro w1 hg Ar seen
    have e13 := seen.de 13 77
    refine does_plain rfl fun K Q' hK => ?_
    have hc := cell_later hg HCD.out
    go_simp; exact hK _ _ (Grow.refl _) rfl
   ·intro w1 hg Ar seen
    have e14 := seen.de 14 78
    refine does_plain rfl fun K Q' hK => ?_
    go_simp
    refine (qnumber_any sd ld 2 _ (HSD.out.below hg)).mono ?_
    rintro e u ⟨rfl, rfl⟩
    exact hK _ _ (Grow.refl _) (by rw [En3.out]; rfl)
   ·intro w1 hg Ar seen
    have e3 := seen.de 3 67
    have e7 := seen.de 7 71
    have e11 := seen.de 11 75
    have e15 := seen.de 15 79
    refine does_plain rfl fun K Q' hK => ?_
    refine wp_build_obj 32 _ rfl #[(0, .int .i64 n0), (1, .int .i64 n1), (2, .int .i64 n2), (3, .int .i64 n3)] (by simp [Act.eval, e3, e7, e11, e15]) _ (vBuild4 _ _ _ _ _) ?_
    exact hK _ _ (Grow.refl _) rfl
   ·intro w1 hg Ar seen
    refine does_plain rfl fun K Q' hK => ?_
    refine wp_alloc_obj 32 rfl rvZ.arr vZero ?_
    exact hK _ _ ((Below.refl _ _).alloc (Nat.le_refl _) _) ⟨_, rfl, block_new _ _, Nat.le_trans (Nat.le_of_eq HZW.out) hg.size⟩
 intro w1 hg
 refine upon_w' (js := [0, 1, 2, 3, 4, 5, 6, 7, 8, 9, 10, 11, 12, 13, 14, 15, 16, 17]) (by rfl) ?_
 refine upon_e (some 64) (upon_e (some 65) (upon_e (some 66) (upon_e (some 67) (upon_e (some 68) (upon_e (some 69) (upon_e (some 70) (upon_e (some 71) (upon_e (some 72) (upon_e (some 73) (upon_e (some 74) (upon_e (some 75) (upon_e (some 76) (upon_e (some 77) (upon_e (some 78) (upon_e (some 79) (upon_e (some 80) (upon_v (some 8) fun v17 h17 => upon_n ?_)))))))))))))))))
 obtain ⟨p, rfl, hp, hzp⟩ := h17
 have HP := hid hp; have HZP := hid hzp
 have hg' := hg
 unfold Grow at hg'
 rw [← HZW.out] at hg'
 have HGG := hid hg'
 have HSZ1 : Hid (z ≤ w1.heap.size) := by show _ ≤ _; rw [HZW.out]; exact hg.size
 clear hp hzp hg' hg
 go_simp
 go_upto_region 13 with (refine wpList_store_obj rfl 32 _ _ rfl p rfl (RqV.arr { major := n0, minor := n1, max := n2, opt := n3 }) rfl _ _ HP.out rfl vSize (varr_one _) ?_; intro w4 hb4 hc4 hs4; have HB4 := hid hb4; have HC4 := hid hc4; have HS4 := hid hs4; clear hb4 hc4 hs4)
 have hbel := HGG.out.trans (HC4.out.below (B := z) (fun k hk => by rw [List.mem_singleton.1 hk]; exact HZP.out) HSZ1.out)
 have HBW := hid hbel
 have hps : p < w4.heap.size := block_lt HB4.out
 obtain ⟨z4, hz4⟩ : ∃ z, z = w4.heap.size := ⟨_, rfl⟩
 have HZ4 := hid hz4
 have HPZ : Hid (p < z4) := by show p < z4; rw [hz4]; exact hps
 rw [HZW.out] at hbel
 have hc := cell_later hbel HC1.out
 clear hbel hps hz4 HP HC4 HGG HSZ1 HCA HCB HCD HSA HSB HSC HSD HMA HMB HMD HMC HME En0 En1 En2 En3 HS4 HC1
 obtain ⟨ka, kn, kc⟩ := s1
 simp only at hc
 have hnn : kn ≤ 1099511627776 := HS1.out.sm
 have HKN : Hid (l1.length = kn) := HS1.out.klen
 clear HN1
 go_wp2_with fail
 clear hc
 go_loopw [85] (fun y wr => ∃ (k : Nat) (s : Sl) (lq : List RqIV), k ≤ kn ∧ y = .int .i64 k ∧ s.n = k ∧ readItems (m1.take k) = .ok (lq.map RqIV.rq) ∧ Below z W3 wr ∧ z4 ≤ wr.heap.size ∧ OwnRq 41 wr z4 s lq ∧ (∀ x ∈ lq, ∀ k ∈ x.foot, k ≠ p ∧ k ≠ b + 1) ∧ wr.heap[p]? = some (.cells (RqV.arr { major := n0, minor := n1, max := n2, opt := n3, its := s, items := lq }) 32 (0, 0))) (fun y _ => kn - (intOf y).toNat)
 case atStart => exact ⟨0, {}, [], Nat.zero_le _, rfl, rfl, rfl, HBW.out, by rw [HZ4.out]; exact Nat.le_refl _, OwnRq.nil _ _ _, by simp, HB4.out⟩
 case round =>
  clear HBW HB4
  obtain ⟨k, s, lq, hk, rfl, hsk, hri, hbw, hzw, ho, hpf, hpb⟩ := hrel
  have HBW := hid hbw; have HZW4 := hid hzw; have HO := hid ho; have HPF := hid hpf; have HPB := hid hpb; have HRI := hid hri; have HSK := hid hsk
  clear hbw hzw ho hpf hpb hri hsk
  have hbr : Below W3.heap.size W3 wr := by rw [← HZW.out]; exact HBW.out
  have HBR := hid hbr
  clear hbr
  by_cases hlt : k < kn
  ·obtain ⟨bx, ox, x, hax, hx, hrow⟩ := (HS1.out.below HBR.out).row (k := k) hlt
   simp only at hax
   subst hax
   have HXM : Hid (m1[k]? = some x.it) := by
    show _ = _
    rw [← HM1.out, List.getElem?_map, hx]; rfl
   have HX := hid (((HA1.out x (List.mem_of_getElem? hx)).1).below HBR.out)
   have HR := hid hrow
   clear hx hrow
   go_upto_region 16 with (first | (refine wpList_load_mid rfl 27 _ rfl bx (ox + k * 5) rfl x.arr.toList _ HR.out Tryd.underlying27 rfl iSize ?_; simp only [Array.toArray_toList]) | (refine wpList_alloc_obj rfl 27 rfl _ iZero ?_) | (refine wpList_store_obj rfl 27 _ _ rfl wr.heap.size rfl _ rfl _ _ (block_new wr _) rfl iSize (arr_one x) ?_; intro w5 hb5 hc5 hs5; have HB5 := hid hb5; have HC5 := hid hc5; have HS5 := hid hs5; clear hb5 hc5 hs5))
   have hbel : Below wr.heap.size wr w5 := ((Below.refl _ wr).alloc (Nat.le_refl _) _).trans (HC5.out.below (fun k hk => by rw [List.mem_singleton.1 hk]; exact Nat.le_refl _) (by simp))
   have HBL5 := hid hbel
   have HX5 := hid (HX.out.below hbel)
   clear hbel HC5 HS5 HR HX
   obtain ⟨c, hcw⟩ : ∃ c, c = wr.heap.size := ⟨_, rfl⟩
   rw [← hcw] at HB5 HBL5 ⊢
   have HCW := hid hcw
   clear hcw
   go_wp2_with (refine wpList_load_row rfl 27 _ rfl c rfl _ _ _ _ HB5.out Tryd.underlying27 rfl iSize ?_)
   refine (item_any x _ HX5.out).mono ?_
   intro e w6 hres
   have hc5 : c ≤ w5.heap.size := by rw [HCW.out]; exact HBL5.out.size
   have HC5 := hid hc5
   clear hc5 HB5
   cases hrx : readItem x.it with
   | error cc =>
    rw [hrx] at hres
    obtain ⟨rfl, hcz, hb6⟩ := hres
    have HE := hid (HRE.out cc ((readItems_one HRI.out HXM.out).2 cc hrx))
    have HBL6 := hid (HBL5.out.trans (hb6.mono HC5.out))
    have HCZ := hid hcz
    have H6 := hid (Nat.le_trans HC5.out hb6.size)
    clear hb6 hrx HX5 hcz
    go_upto_region 17 with (first | (refine wpList_alloc_obj rfl 41 rfl _ qZero ?_) | (refine wpList_store_obj rfl 41 _ _ rfl w6.heap.size rfl rqZ.arr rfl _ _ (block_new w6 _) rfl qSize (qarr_one rqZ) ?_; intro w7 hb7 hc7 hs7; have HB7 := hid hb7; have HC7 := hid hc7; clear hb7 hc7 hs7))
    have hbel7 := HBL6.out.trans (((Below.refl _ w6).alloc H6.out _).trans (HC7.out.below (B := c) (fun k hk => by rw [List.mem_singleton.1 hk]; exact H6.out) (by simp; exact Nat.le_succ_of_le H6.out)))
    rw [HCW.out] at hbel7
    have B7 := hid ((B3.out.below HBR.out).below hbel7)
    have hcz := HCZ.out
    clear hbel7 HBL6 HBL5 HC7 HB7 HCZ
    go_wp2_with (first | (refine wpList_build_obj rfl 32 _ rfl #[] rfl _ (vBuild0 _) ?_) | (refine wpList_store_obj rfl 32 _ _ rfl (b + 1) rfl rvZ.arr rfl _ _ B7.out.res rfl vSize (varr_one _) ?_; intro w10 hb10 hc10 hs10; have HB10 := hid hb10; have HC10 := hid hc10; clear hb10 hc10 hs10))
    refine bodyPost_ret (results_cell_tmp rfl _ _ (b + 1) _ _ _ _ rfl HB10.out Tryd.underlying32 rfl vSize _ rfl) rfl ?_
    rw [HE.out]
    exact ⟨rfl, by rw [HBE.out]; exact B7.out.done HC10.out⟩
   | ok yy =>
    rw [hrx] at hres
    obtain ⟨v', rfl, hvq, hvo, hvf, hb6⟩ := hres
    have HRN := hid ((readItems_one HRI.out HXM.out).1 yy hrx)
    have HBL6 := hid (HBL5.out.trans (hb6.mono HC5.out))
    have H6 := hid (Nat.le_trans HC5.out hb6.size)
    have HVQ := hid hvq; have HVO := hid hvo; have HVF := hid hvf
    clear hb6 hrx HX5 hvq hvo hvf
    go_upto_region 17 with (first | (refine wpList_alloc_obj rfl 41 rfl _ qZero ?_) | (refine wpList_store_obj rfl 41 _ _ rfl w6.heap.size rfl v'.arr rfl _ _ (block_new w6 _) rfl qSize (qarr_one v') ?_; intro w7 hb7 hc7 hs7; have HB7 := hid hb7; have HC7 := hid hc7; clear hb7 hc7 hs7))
    have hbe7 := (((Below.refl w6.heap.size w6).alloc (Nat.le_refl _) (.cells rqZ.arr 41)).trans (HC7.out.below (B := w6.heap.size) (fun k hk => by rw [List.mem_singleton.1 hk]; exact Nat.le_refl _) (by simp)))
    have hbel7 := HBL6.out.trans (hbe7.mono H6.out)
    have HVO7 := hid (HVO.out.below hbe7)
    have hz7 : c ≤ w7.heap.size := Nat.le_trans H6.out hbe7.size
    rw [HCW.out] at hbel7 hz7
    have HO7 := hid (HO.out.below hbel7)
    have HPB7 := hid ((hbel7.block _ (block_lt HPB.out)).trans HPB.out)
    have HBL7 := hid hbel7
    have HZ7 := hid hz7
    obtain ⟨q, hqw⟩ : ∃ q, q = w6.heap.size := ⟨_, rfl⟩
    rw [← hqw] at HB7 ⊢
    have HRLT : Hid (∀ k, s.v.ownBlock = some k → k < c) := fun k hk => by rw [HCW.out]; exact (HO.out.own.lt k hk).2
    have HPC : Hid (p < c) := by show p < c; rw [HCW.out]; exact block_lt HPB.out
    have H65 : Hid (c ≤ w5.heap.size) := HC5
    clear hbel7 hz7 hbe7 HBL6 HBL5 HC7 HVO HO hqw HPB
    go_upto_region 19 with (fail)
    have hc4 := cell_of_block (j := 4) HPB7.out (qr4 _)
    simp only at hc4
    go_upto_region 20 with (first | (refine wpList_load_row rfl 41 _ rfl q rfl _ _ _ _ HB7.out Tryd.underlying41 rfl qSize ?_) | (refine wpList_build_rq rfl 30 41 _ rfl v' rfl iq Tryd.underlying30 hiq hy0 hy1 ?_) | (at_builtin; go_must (refine wpList_append_c rfl _ _ 30 rfl z4 41 iq _ 8 112 Tryd.underlying30 hiq hy0 hy1 hy2 rfl (by decide) (.slice s.a s.n s.c) s.n _ rfl (HO7.out.below ((Below.refl _ _).alloc (Nat.le_refl _) (.cells v'.arr 41))).own _ 1 _ v'.cells rfl (RdC.new _ _ _ _ v'.cells (by simp [RqIV.cells]) 8 rfl _ rfl) (by have := rq_one [v']; simpa [rqCells] using this) (fun hx => by cases hx) (by unfold maxLen; have := HSK.out; omega) (by have := HSK.out; omega) (by have := HZW4.out; have := HZ7.out; simp; omega) ?_); intro a' c' w8 hown hgw hfr; have HO8 := hid hown; have HG8 := hid hgw; have HF8 := hid hfr; have hch : Chg s.v.ownBlock.toList w7 w8 := ((Chg.refl _ w7).alloc _).grown hgw (fun k hk => .inl (by rw [hk]; simp)); have hpb8 := (hch.block p (block_lt HPB7.out) (HO7.out.ahead HPZ.out)).trans HPB7.out; have HPB8 := hid hpb8; have hq4 := cell_of_block (j := 4) hpb8 (qr4 _); have hfz : ∀ j, w8.frozen? ⟨p, j, none⟩ = false := (fun j => frozen_of_block HPB8.out); clear hown hgw hfr hch hpb8))
    clear hq4 hfz hc4
    have ho8 : OwnRq 41 w8 z4 ⟨a', s.n + 1, c'⟩ (lq ++ [v']) :=
     HO7.out.app ((Below.refl _ _).alloc (Nat.le_refl _) _) v' HVO7.out (fun k hk he => by have := HRLT.out k he; have := HVF.out k hk; have := H65.out; omega) (by rw [rq_app]; simpa [rqCells] using HO8.out) HG8.out HF8.out
    have hch : Chg s.v.ownBlock.toList w7 w8 := ((Chg.refl _ w7).alloc _).grown HG8.out (fun k hk => .inl (by rw [hk]; simp))
    have hcb : Chg [p] w8 (w8.setCell ⟨p, 4, none⟩ (.slice a' (s.n + 1) c')) := (Chg.refl [p] w8).setCell (.inl (by simp)) _
    have hnf : ∀ x ∈ lq ++ [v'], ∀ k ∈ x.foot, k ≠ p ∧ k ≠ b + 1 := fun x hx k hm => by
     rcases List.mem_append.1 hx with h' | h'
     ·exact HPF.out x h' k hm
     ·rw [List.mem_singleton.1 h'] at hm
      have := HVF.out k hm; have := H65.out; have := HPC.out; have := HZP.out; have := HBZ.out; omega
    have ho9 := ho8.chg hcb (fun k hk hm => by have := List.mem_singleton.1 hm; subst this; exact ho8.ahead HPZ.out (by rw [hk]; simp)) (fun x hx k hk hm => by have := List.mem_singleton.1 hm; exact (hnf x hx k hk).1 this)
    have hpb9 : (w8.setCell ⟨p, 4, none⟩ (.slice a' (s.n + 1) c')).heap[p]? = some (.cells (RqV.arr { major := n0, minor := n1, max := n2, opt := n3, its := ⟨a', s.n + 1, c'⟩, items := lq ++ [v'] }) 32 (0, 0)) := block_setCell HPB8.out _
    have hz4 : z ≤ z4 := Nat.le_of_lt (Nat.lt_of_le_of_lt HZP.out HPZ.out)
    have hbw9 : Below z W3 (w8.setCell ⟨p, 4, none⟩ (.slice a' (s.n + 1) c')) :=
     (HBW.out.trans (HBL7.out.mono (Nat.le_trans hz4 HZW4.out))).trans ((hch.below (B := z) (fun k hk => by
      rcases Nat.lt_or_ge k z4 with h' | h'
      ·exact absurd hk (HO7.out.ahead h')
      ·omega) (Nat.le_trans hz4 (Nat.le_trans HZW4.out (by rw [← HCW.out]; rw [HCW.out]; exact HZ7.out)))).trans (hcb.below (B := z) (fun k hk => by rw [List.mem_singleton.1 hk]; exact HZP.out) (Nat.le_trans hz4 (Nat.le_trans HZW4.out (Nat.le_trans HZ7.out hch.size)))))
    have hz9 : z4 ≤ (w8.setCell ⟨p, 4, none⟩ (.slice a' (s.n + 1) c')).heap.size := Nat.le_trans HZW4.out (Nat.le_trans HZ7.out (Nat.le_trans hch.size hcb.size))
    have hrn : readItems (m1.take (k + 1)) = .ok ((lq ++ [v']).map RqIV.rq) := by rw [HRN.out, List.map_append, List.map_cons, List.map_nil, HVQ.out]
    have H9 := hid (And.intro hrn (And.intro hbw9 (And.intro hz9 (And.intro ho9 (And.intro hnf hpb9)))))
    clear ho8 hch hcb hnf ho9 hpb9 hz4 hbw9 hz9 hrn
    go_wp2_with fail
    go_roundw
    case rel =>
     have hsk := HSK.out
     first
      | exact ⟨k + 1, ⟨a', s.n + 1, c'⟩, lq ++ [v'], by omega, by go_num, by simp; omega, H9.out⟩
      | ((repeat apply Exists.intro); exact ⟨⟨k + 1, ⟨a', s.n + 1, c'⟩, lq ++ [v'], by omega, by go_num, by simp; omega, H9.out⟩, rfl⟩)
    case measure => simp [intOf]; omega
  ·obtain rfl : k = kn := by omega
   have HRI2 : Hid (readItems m1 = .ok (lq.map RqIV.rq)) := by
    have := HRI.out
    rwa [List.take_of_length_le (by rw [← HM1.out, List.length_map]; have := HKN.out; omega)] at this
   have HEQ := hid (HRV.out (lq.map RqIV.rq) (RqV.rq { major := n0, minor := n1, max := n2, opt := n3, its := s, items := lq }) HRI2.out rfl)
   have HB := hid (B3.out.below HBR.out)
   have hcc := cell_later HBR.out HCC.out
   have HCC' := hid hcc
   have HCE' := hid (cell_later HBR.out HCE.out)
   have HSE' := hid (HSE.out.below HBR.out)
   have HQO : Hid (RqV.ok wr { major := n0, minor := n1, max := n2, opt := n3, its := s, items := lq }) := ⟨HO.out.sl (by rw [HSK.out]; exact hnn), HO.out.ok⟩
   have HQL : Hid ((RqV.rq { major := n0, minor := n1, max := n2, opt := n3, its := s, items := lq }).items.length = s.n) := by show (lq.map RqIV.rq).length = s.n; rw [List.length_map]; exact HO.out.len
   rw [HQL.out] at HEQ
   have HSB : Hid (∀ k ∈ s.blk, z4 ≤ k) := blk_own HO.out.own
   clear hcc HRI HRI2 HRV HRE HCC HCE HSE HS1 HA1 HM1 HBR HBW HO HQL HKN
   go_upto_region 21 with (fail)
   by_cases hg1 : 0 < sc.n
   ·have hy1 : y1.isEmpty = false := by cases y1 with
     | nil => have := HNC.out; simp at this; omega
     | cons _ _ => rfl
    have HY1 := hid hy1
    clear hy1
    by_cases hlt1 : n2 < 1
    ·have HE : Hid (readV v.it = .error 4) := by
      show _ = _
      rw [HEQ.out, HY1.out, if_pos]
      show (!false && decide (n2 < 1) || _ || _) = true
      simp [hlt1]
     have HG1 := hid hg1; have HLT := hid hlt1
     clear hg1 hlt1
     refine wp_region_each 25 [.eq (.slice (some ⟨gh, 0, none⟩) 5 ch), .eq (.pointer (some ⟨gh, 1, none⟩)), .eq (.slice sc.a sc.n sc.c), .eq (.int .i64 (sc.n : Int)), .eq (.bool true), .eq (.bool true), .eq (.pointer (some ⟨p, 2, none⟩)), .eq (.int .i64 n2), .eq (.bool true), .eq (.bool true), .eq (.bool true), .eq undef, .eq undef, .eq undef, .eq undef, .eq undef, .eq undef, .eq undef, .eq undef, .eq (.bool true), .eq (.bool true), .eq undef, .eq undef, .eq undef, .eq (.bool true)] (by kernel_rfl) (by kernel_rfl) (by kernel_rfl) (by kernel_rfl) ?_ ?_
     ·as_aux_lemma =>
       refine each_5 ?_ ?_ ?_ ?_ ?_ (each_5 ?_ ?_ ?_ ?_ ?_ (each_5 ?_ ?_ ?_ ?_ ?_ (each_5 ?_ ?_ ?_ ?_ ?_ (each_5 ?_ ?_ ?_ ?_ ?_ (each_n)))))
       ·intro w1 hg Ar seen
        have s6 := seen.sl 6 (.slice (some ⟨gh, 0, none⟩) 5 ch)
        refine does_plain rfl fun K Q' hK => ?_
        go_simp; exact hK _ _ (Grow.refl _) rfl
       ·intro w1 hg Ar seen
        have e0 := seen.de 0 105
        refine does_plain rfl fun K Q' hK => ?_
        go_simp; exact hK _ _ (Grow.refl _) rfl
       ·intro w1 hg Ar seen
        have e1 := seen.de 1 106
        refine does_plain rfl fun K Q' hK => ?_
        have hc := cell_later hg HCC'.out
        go_simp; exact hK _ _ (Grow.refl _) rfl
       ·intro w1 hg Ar seen
        have e2 := seen.de 2 107
        refine does_plain rfl fun K Q' hK => ?_
        go_simp; exact hK _ _ (Grow.refl _) rfl
       ·intro w1 hg Ar seen
        have e3 := seen.de 3 108
        refine does_plain rfl fun K Q' hK => ?_
        have hz := HG1.out
        go_simp; exact hK _ _ (Grow.refl _) rfl
       ·intro w1 hg Ar seen
        have e4 := seen.de 4 109
        refine does_plain rfl fun K Q' hK => ?_
        go_simp; exact hK _ _ (Grow.refl _) rfl
       ·intro w1 hg Ar seen
        have e5 := seen.de 5 110
        have s8 := seen.sl 8 (.pointer (some ⟨p, 0, none⟩))
        refine does_on rfl (by kernel_rfl) e5 fun K Q' hK => ?_
        clear e5
        go_simp; exact hK _ _ (Grow.refl _) rfl
       ·intro w1 hg Ar seen
        have e6 := seen.de 6 111
        have e5 := seen.de 5 110
        refine does_on rfl (by kernel_rfl) e5 fun K Q' hK => ?_
        clear e5
        have hc := cell_of_block (j := 2) ((hg.block _ (block_lt HPB.out)).trans HPB.out) (qr2 _)
        go_simp; exact hK _ _ (Grow.refl _) rfl
       ·intro w1 hg Ar seen
        have e7 := seen.de 7 112
        have e5 := seen.de 5 110
        refine does_on rfl (by kernel_rfl) e5 fun K Q' hK => ?_
        clear e5
        have hz := HLT.out
        go_simp; exact hK _ _ (Grow.refl _) rfl
       ·intro w1 hg Ar seen
        have e5 := seen.de 5 110
        have e8 := seen.de 8 113
        refine does_plain rfl fun K Q' hK => ?_
        go_simp; exact hK _ _ (Grow.refl _) rfl
       ·intro w1 hg Ar seen
        have e9 := seen.de 9 114
        refine does_plain rfl fun K Q' hK => ?_
        go_simp; exact hK _ _ (Grow.refl _) rfl
       ·intro w1 hg Ar seen
        have e10 := seen.de 10 115
        exact does_off rfl (by kernel_rfl) e10 ne_tf (Grow.refl _) rfl
       ·intro w1 hg Ar seen
        have e10 := seen.de 10 115
        exact does_off rfl (by kernel_rfl) e10 ne_tf (Grow.refl _) rfl
       ·intro w1 hg Ar seen
        have e10 := seen.de 10 115
        exact does_off rfl (by kernel_rfl) e10 ne_tf (Grow.refl _) rfl
       ·intro w1 hg Ar seen
        have e10 := seen.de 10 115
        exact does_off rfl (by kernel_rfl) e10 ne_tf (Grow.refl _) rfl
       ·intro w1 hg Ar seen
        have e10 := seen.de 10 115
        exact does_off rfl (by kernel_rfl) e10 ne_tf (Grow.refl _) rfl
       ·intro w1 hg Ar seen
        have e10 := seen.de 10 115
        exact does_off rfl (by kernel_rfl) e10 ne_tf (Grow.refl _) rfl
       ·intro w1 hg Ar seen
        have e10 := seen.de 10 115
        exact does_off rfl (by kernel_rfl) e10 ne_tf (Grow.refl _) rfl
       ·intro w1 hg Ar seen
        have e10 := seen.de 10 115
        exact does_off rfl (by kernel_rfl) e10 ne_tf (Grow.refl _) rfl
       ·intro w1 hg Ar seen
        have e10 := seen.de 10 115
        have e18 := seen.de 18 123
        refine does_plain rfl fun K Q' hK => ?_
        go_simp; exact hK _ _ (Grow.refl _) rfl
       ·intro w1 hg Ar seen
        have e19 := seen.de 19 124
        refine does_plain rfl fun K Q' hK => ?_
        go_simp; exact hK _ _ (Grow.refl _) rfl
       ·intro w1 hg Ar seen
        have e20 := seen.de 20 125
        exact does_off rfl (by kernel_rfl) e20 ne_tf (Grow.refl _) rfl
       ·intro w1 hg Ar seen
        have e20 := seen.de 20 125
        exact does_off rfl (by kernel_rfl) e20 ne_tf (Grow.refl _) rfl
       ·intro w1 hg Ar seen
        have e20 := seen.de 20 125
        exact does_off rfl (by kernel_rfl) e20 ne_tf (Grow.refl _) rfl
       ·intro w1 hg Ar seen
        have e20 := seen.de 20 125
        have e23 := seen.de 23 128
        refine does_plain rfl fun K Q' hK => ?_
        go_simp; exact hK _ _ (Grow.refl _) rfl
     intro w1 hg
     refine upon_w' (js := [0, 1, 2, 3, 4, 5, 6, 7, 8, 9, 10, 11, 12, 13, 14, 15, 16, 17, 18, 19, 20, 21, 22, 23, 24]) (by rfl) ?_
     refine upon_e (some 105) (upon_e (some 106) (upon_e (some 107) (upon_e (some 108) (upon_e (some 109) (upon_e (some 110) (upon_e (some 111) (upon_e (some 112) (upon_e (some 113) (upon_e (some 114) (upon_e (some 115) (upon_e (some 116) (upon_e (some 117) (upon_e (some 118) (upon_e (some 119) (upon_e (some 120) (upon_e (some 121) (upon_e (some 122) (upon_e (some 123) (upon_e (some 124) (upon_e (some 125) (upon_e (some 126) (upon_e (some 127) (upon_e (some 128) (upon_e (some 129) (upon_n ?_)))))))))))))))))))))))))
     go_simp
     have HB2 := hid (HB.out.below hg)
     clear hg
     go_wp2_with (first | (refine wpList_build_obj rfl 32 _ rfl #[] rfl _ (vBuild0 _) ?_) | (refine wpList_store_obj rfl 32 _ _ rfl (b + 1) rfl rvZ.arr rfl _ _ HB2.out.res rfl vSize (varr_one _) ?_; intro w10 hb10 hc10 hs10; have HB10 := hid hb10; have HC10 := hid hc10; clear hb10 hc10 hs10))
     refine bodyPost_ret (results_cell_tmp rfl _ _ (b + 1) _ _ _ _ rfl HB10.out Tryd.underlying32 rfl vSize _ rfl) rfl ?_
     rw [HE.out]
     exact ⟨rfl, by rw [HBE.out]; exact HB2.out.done HC10.out⟩
    ·have HG1 := hid hg1; have HLT := hid hlt1
     clear hg1
     by_cases hne : n4 = (s.n : Int)
     ·cases hR : rightV (RqV.rq { major := n0, minor := n1, max := n2, opt := n3, its := s, items := lq }) with
      | true =>
       have HE : Hid (readV v.it = .ok (RqV.rq { major := n0, minor := n1, max := n2, opt := n3, its := s, items := lq })) := by
        show _ = _
        rw [HEQ.out, HY1.out, hR, if_neg]
        show ¬ ((!false && decide (n2 < 1)) || (n4 != (s.n : Int)) || !true) = true
        simp [hne, hlt1]
       have HNE := hid hne; have HRR := hid hR
       clear hne hR hlt1
       refine wp_region_each 25 [.eq (.slice (some ⟨gh, 0, none⟩) 5 ch), .eq (.pointer (some ⟨gh, 1, none⟩)), .eq (.slice sc.a sc.n sc.c), .eq (.int .i64 (sc.n : Int)), .eq (.bool true), .eq (.bool true), .eq (.pointer (some ⟨p, 2, none⟩)), .eq (.int .i64 n2), .eq (.bool false), .eq (.bool false), .eq (.bool false), .eq (.slice (some ⟨gh, 0, none⟩) 5 ch), .eq (.pointer (some ⟨gh, 4, none⟩)), .eq (.slice se.a se.n se.c), .eq (.int .i64 n4), .eq (.pointer (some ⟨p, 4, none⟩)), .eq (.slice s.a s.n s.c), .eq (.int .i64 (s.n : Int)), .eq (.bool false), .eq (.bool false), .eq (.bool false), .eq (.agg (RqV.arr { major := n0, minor := n1, max := n2, opt := n3, its := s, items := lq })), .eq (.bool true), .eq (.bool false), .eq (.bool false)] (by kernel_rfl) (by kernel_rfl) (by kernel_rfl) (by kernel_rfl) ?_ ?_
       ·as_aux_lemma =>
         refine each_5 ?_ ?_ ?_ ?_ ?_ (each_5 ?_ ?_ ?_ ?_ ?_ (each_5 ?_ ?_ ?_ ?_ ?_ (each_5 ?_ ?_ ?_ ?_ ?_ (each_5 ?_ ?_ ?_ ?_ ?_ (each_n)))))
         ·intro w1 hg Ar seen
          have s6 := seen.sl 6 (.slice (some ⟨gh, 0, none⟩) 5 ch)
          refine does_plain rfl fun K Q' hK => ?_
          go_simp; exact hK _ _ (Grow.refl _) rfl
         ·intro w1 hg Ar seen
          have e0 := seen.de 0 105
          refine does_plain rfl fun K Q' hK => ?_
          go_simp; exact hK _ _ (Grow.refl _) rfl
         ·intro w1 hg Ar seen
          have e1 := seen.de 1 106
          refine does_plain rfl fun K Q' hK => ?_
          have hc := cell_later hg HCC'.out
          go_simp; exact hK _ _ (Grow.refl _) rfl
         ·intro w1 hg Ar seen
          have e2 := seen.de 2 107
          refine does_plain rfl fun K Q' hK => ?_
          go_simp; exact hK _ _ (Grow.refl _) rfl
         ·intro w1 hg Ar seen
          have e3 := seen.de 3 108
          refine does_plain rfl fun K Q' hK => ?_
          have hz := HG1.out
          go_simp; exact hK _ _ (Grow.refl _) rfl
         ·intro w1 hg Ar seen
          have e4 := seen.de 4 109
          refine does_plain rfl fun K Q' hK => ?_
          go_simp; exact hK _ _ (Grow.refl _) rfl
         ·intro w1 hg Ar seen
          have e5 := seen.de 5 110
          have s8 := seen.sl 8 (.pointer (some ⟨p, 0, none⟩))
          refine does_on rfl (by kernel_rfl) e5 fun K Q' hK => ?_
          clear e5
          go_simp; exact hK _ _ (Grow.refl _) rfl
         ·intro w1 hg Ar seen
          have e6 := seen.de 6 111
          have e5 := seen.de 5 110
          refine does_on rfl (by kernel_rfl) e5 fun K Q' hK => ?_
          clear e5
          have hc := cell_of_block (j := 2) ((hg.block _ (block_lt HPB.out)).trans HPB.out) (qr2 _)
          go_simp; exact hK _ _ (Grow.refl _) rfl
         ·intro w1 hg Ar seen
          have e7 := seen.de 7 112
          have e5 := seen.de 5 110
          refine does_on rfl (by kernel_rfl) e5 fun K Q' hK => ?_
          clear e5
          have hz := HLT.out
          go_simp; exact hK _ _ (Grow.refl _) rfl
         ·intro w1 hg Ar seen
          have e5 := seen.de 5 110
          have e8 := seen.de 8 113
          refine does_plain rfl fun K Q' hK => ?_
          go_simp; exact hK _ _ (Grow.refl _) rfl
         ·intro w1 hg Ar seen
          have e9 := seen.de 9 114
          refine does_plain rfl fun K Q' hK => ?_
          go_simp; exact hK _ _ (Grow.refl _) rfl
         ·intro w1 hg Ar seen
          have e10 := seen.de 10 115
          have s6 := seen.sl 6 (.slice (some ⟨gh, 0, none⟩) 5 ch)
          refine does_on rfl (by kernel_rfl) e10 fun K Q' hK => ?_
          clear e10
          go_simp; exact hK _ _ (Grow.refl _) rfl
         ·intro w1 hg Ar seen
          have e11 := seen.de 11 116
          have e10 := seen.de 10 115
          refine does_on rfl (by kernel_rfl) e10 fun K Q' hK => ?_
          clear e10
          go_simp; exact hK _ _ (Grow.refl _) rfl
         ·intro w1 hg Ar seen
          have e12 := seen.de 12 117
          have e10 := seen.de 10 115
          refine does_on rfl (by kernel_rfl) e10 fun K Q' hK => ?_
          clear e10
          have hc := cell_later hg HCE'.out
          go_simp; exact hK _ _ (Grow.refl _) rfl
         ·intro w1 hg Ar seen
          have e13 := seen.de 13 118
          have e10 := seen.de 10 115
          refine does_on rfl (by kernel_rfl) e10 fun K Q' hK => ?_
          clear e10
          go_simp
          refine (qnumber_any se le 0 _ (HSE'.out.below hg)).mono ?_
          rintro e u ⟨rfl, rfl⟩
          exact hK _ _ (Grow.refl _) (by rw [En4.out]; rfl)
         ·intro w1 hg Ar seen
          have e10 := seen.de 10 115
          have s8 := seen.sl 8 (.pointer (some ⟨p, 0, none⟩))
          refine does_on rfl (by kernel_rfl) e10 fun K Q' hK => ?_
          clear e10
          go_simp; exact hK _ _ (Grow.refl _) rfl
         ·intro w1 hg Ar seen
          have e15 := seen.de 15 120
          have e10 := seen.de 10 115
          refine does_on rfl (by kernel_rfl) e10 fun K Q' hK => ?_
          clear e10
          have hc := cell_of_block (j := 4) ((hg.block _ (block_lt HPB.out)).trans HPB.out) (qr4 _)
          go_simp; exact hK _ _ (Grow.refl _) rfl
         ·intro w1 hg Ar seen
          have e16 := seen.de 16 121
          have e10 := seen.de 10 115
          refine does_on rfl (by kernel_rfl) e10 fun K Q' hK => ?_
          clear e10
          go_simp; exact hK _ _ (Grow.refl _) rfl
         ·intro w1 hg Ar seen
          have e14 := seen.de 14 119
          have e17 := seen.de 17 122
          have e10 := seen.de 10 115
          refine does_on rfl (by kernel_rfl) e10 fun K Q' hK => ?_
          clear e10
          have hz := HNE.out
          go_simp; exact hK _ _ (Grow.refl _) rfl
         ·intro w1 hg Ar seen
          have e10 := seen.de 10 115
          have e18 := seen.de 18 123
          refine does_plain rfl fun K Q' hK => ?_
          go_simp; exact hK _ _ (Grow.refl _) rfl
         ·intro w1 hg Ar seen
          have e19 := seen.de 19 124
          refine does_plain rfl fun K Q' hK => ?_
          go_simp; exact hK _ _ (Grow.refl _) rfl
         ·intro w1 hg Ar seen
          have e20 := seen.de 20 125
          have s8 := seen.sl 8 (.pointer (some ⟨p, 0, none⟩))
          refine does_on rfl (by kernel_rfl) e20 fun K Q' hK => ?_
          clear e20
          refine wp_load_row 32 _ rfl p (by simp [Act.eval, s8]) _ _ _ _ ((hg.block _ (block_lt HPB.out)).trans HPB.out) Tryd.underlying32 rfl vSize ?_
          exact hK _ _ (Grow.refl _) rfl
         ·intro w1 hg Ar seen
          have e21 := seen.de 21 126
          have e20 := seen.de 20 125
          refine does_on rfl (by kernel_rfl) e20 fun K Q' hK => ?_
          clear e20
          go_simp
          refine (Right_any _ _ (HQO.out.below hg)).mono ?_
          rintro e u ⟨rfl, hb⟩
          exact hK _ _ hb (by rw [HRR.out]; rfl)
         ·intro w1 hg Ar seen
          have e22 := seen.de 22 127
          have e20 := seen.de 20 125
          refine does_on rfl (by kernel_rfl) e20 fun K Q' hK => ?_
          clear e20
          go_simp; exact hK _ _ (Grow.refl _) rfl
         ·intro w1 hg Ar seen
          have e20 := seen.de 20 125
          have e23 := seen.de 23 128
          refine does_plain rfl fun K Q' hK => ?_
          go_simp; exact hK _ _ (Grow.refl _) rfl
       intro w1 hg
       refine upon_w' (js := [0, 1, 2, 3, 4, 5, 6, 7, 8, 9, 10, 11, 12, 13, 14, 15, 16, 17, 18, 19, 20, 21, 22, 23, 24]) (by rfl) ?_
       refine upon_e (some 105) (upon_e (some 106) (upon_e (some 107) (upon_e (some 108) (upon_e (some 109) (upon_e (some 110) (upon_e (some 111) (upon_e (some 112) (upon_e (some 113) (upon_e (some 114) (upon_e (some 115) (upon_e (some 116) (upon_e (some 117) (upon_e (some 118) (upon_e (some 119) (upon_e (some 120) (upon_e (some 121) (upon_e (some 122) (upon_e (some 123) (upon_e (some 124) (upon_e (some 125) (upon_e (some 126) (upon_e (some 127) (upon_e (some 128) (upon_e (some 129) (upon_n ?_)))))))))))))))))))))))))
       go_simp
       have HB2 := hid (HB.out.below hg)
       have HQO2 := hid (HQO.out.below hg)
       have HPB2 := hid ((hg.block _ (block_lt HPB.out)).trans HPB.out)
       clear hg
       go_wp2_with (first | (refine wpList_load_row rfl 32 _ rfl p rfl _ _ _ _ HPB2.out Tryd.underlying32 rfl vSize ?_) | (refine wpList_store_obj rfl 32 _ _ rfl (b + 1) rfl (RqV.arr { major := n0, minor := n1, max := n2, opt := n3, its := s, items := lq }) rfl _ _ HB2.out.res rfl vSize (varr_one _) ?_; intro w10 hb10 hc10 hs10; have HB10 := hid hb10; have HC10 := hid hc10; clear hb10 hc10 hs10))
       refine bodyPost_ret (results_cell_tmp rfl _ _ (b + 1) _ _ _ _ rfl HB10.out Tryd.underlying32 rfl vSize _ rfl) rfl ?_
       rw [HE.out]
       refine ⟨_, rfl, rfl, ⟨HQO2.out.its.keep HC10.out (fun k hk hm => by have := List.mem_singleton.1 hm; have := HSB.out k hk; have := HPZ.out; have := HZP.out; have := HBZ.out; omega), fun x hx => RqIV.ok.keep HC10.out (HQO2.out.each x hx) (fun k hk hm => (HPF.out x hx k hk).2 (List.mem_singleton.1 hm))⟩, by rw [HBE.out]; exact HB2.out.done HC10.out⟩
      | false =>
       have HE : Hid (readV v.it = .error 4) := by
        show _ = _
        rw [HEQ.out, hR, if_pos]
        simp
       have HNE := hid hne; have HRR := hid hR
       clear hne hR hlt1
       refine wp_region_each 25 [.eq (.slice (some ⟨gh, 0, none⟩) 5 ch), .eq (.pointer (some ⟨gh, 1, none⟩)), .eq (.slice sc.a sc.n sc.c), .eq (.int .i64 (sc.n : Int)), .eq (.bool true), .eq (.bool true), .eq (.pointer (some ⟨p, 2, none⟩)), .eq (.int .i64 n2), .eq (.bool false), .eq (.bool false), .eq (.bool false), .eq (.slice (some ⟨gh, 0, none⟩) 5 ch), .eq (.pointer (some ⟨gh, 4, none⟩)), .eq (.slice se.a se.n se.c), .eq (.int .i64 n4), .eq (.pointer (some ⟨p, 4, none⟩)), .eq (.slice s.a s.n s.c), .eq (.int .i64 (s.n : Int)), .eq (.bool false), .eq (.bool false), .eq (.bool false), .eq (.agg (RqV.arr { major := n0, minor := n1, max := n2, opt := n3, its := s, items := lq })), .eq (.bool false), .eq (.bool true), .eq (.bool true)] (by kernel_rfl) (by kernel_rfl) (by kernel_rfl) (by kernel_rfl) ?_ ?_
       ·as_aux_lemma =>
         refine each_5 ?_ ?_ ?_ ?_ ?_ (each_5 ?_ ?_ ?_ ?_ ?_ (each_5 ?_ ?_ ?_ ?_ ?_ (each_5 ?_ ?_ ?_ ?_ ?_ (each_5 ?_ ?_ ?_ ?_ ?_ (each_n)))))
         ·intro w1 hg Ar seen
          have s6 := seen.sl 6 (.slice (some ⟨gh, 0, none⟩) 5 ch)
          refine does_plain rfl fun K Q' hK => ?_
          go_simp; exact hK _ _ (Grow.refl _) rfl
         ·intro w1 hg Ar seen
          have e0 := seen.de 0 105
          refine does_plain rfl fun K Q' hK => ?_
          go_simp; exact hK _ _ (Grow.refl _) rfl
         ·intro w1 hg Ar seen
          have e1 := seen.de 1 106
          refine does_plain rfl fun K Q' hK => ?_
          have hc := cell_later hg HCC'.out
          go_simp; exact hK _ _ (Grow.refl _) rfl
         ·intro w1 hg Ar seen
          have e2 := seen.de 2 107
          refine does_plain rfl fun K Q' hK => ?_
          go_simp; exact hK _ _ (Grow.refl _) rfl
         ·intro w1 hg Ar seen
          have e3 := seen.de 3 108
          refine does_plain rfl fun K Q' hK => ?_
          have hz := HG1.out
          go_simp; exact hK _ _ (Grow.refl _) rfl
         ·intro w1 hg Ar seen
          have e4 := seen.de 4 109
          refine does_plain rfl fun K Q' hK => ?_
          go_simp; exact hK _ _ (Grow.refl _) rfl
         ·intro w1 hg Ar seen
          have e5 := seen.de 5 110
          have s8 := seen.sl 8 (.pointer (some ⟨p, 0, none⟩))
          refine does_on rfl (by kernel_rfl) e5 fun K Q' hK => ?_
          clear e5
          go_simp; exact hK _ _ (Grow.refl _) rfl
         ·intro w1 hg Ar seen
          have e6 := seen.de 6 111
          have e5 := seen.de 5 110
          refine does_on rfl (by kernel_rfl) e5 fun K Q' hK => ?_
          clear e5
          have hc := cell_of_block (j := 2) ((hg.block _ (block_lt HPB.out)).trans HPB.out) (qr2 _)
          go_simp; exact hK _ _ (Grow.refl _) rfl
         ·intro w1 hg Ar seen
          have e7 := seen.de 7 112
          have e5 := seen.de 5 110
          refine does_on rfl (by kernel_rfl) e5 fun K Q' hK => ?_
          clear e5
          have hz := HLT.out
          go_simp; exact hK _ _ (Grow.refl _) rfl
         ·intro w1 hg Ar seen
          have e5 := seen.de 5 110
          have e8 := seen.de 8 113
          refine does_plain rfl fun K Q' hK => ?_
          go_simp; exact hK _ _ (Grow.refl _) rfl
         ·intro w1 hg Ar seen
          have e9 := seen.de 9 114
          refine does_plain rfl fun K Q' hK => ?_
          go_simp; exact hK _ _ (Grow.refl _) rfl
         ·intro w1 hg Ar seen
          have e10 := seen.de 10 115
          have s6 := seen.sl 6 (.slice (some ⟨gh, 0, none⟩) 5 ch)
          refine does_on rfl (by kernel_rfl) e10 fun K Q' hK => ?_
          clear e10
          go_simp; exact hK _ _ (Grow.refl _) rfl
         ·intro w1 hg Ar seen
          have e11 := seen.de 11 116
          have e10 := seen.de 10 115
          refine does_on rfl (by kernel_rfl) e10 fun K Q' hK => ?_
          clear e10
          go_simp; exact hK _ _ (Grow.refl _) rfl
         ·intro w1 hg Ar seen
          have e12 := seen.de 12 117
          have e10 := seen.de 10 115
          refine does_on rfl (by kernel_rfl) e10 fun K Q' hK => ?_
          clear e10
          have hc := cell_later hg HCE'.out
          go_simp; exact hK _ _ (Grow.refl _) rfl
         ·intro w1 hg Ar seen
          have e13 := seen.de 13 118
          have e10 := seen.de 10 115
          refine does_on rfl (by kernel_rfl) e10 fun K Q' hK => ?_
          clear e10
          go_simp
          refine (qnumber_any se le 0 _ (HSE'.out.below hg)).mono ?_
          rintro e u ⟨rfl, rfl⟩
          exact hK _ _ (Grow.refl _) (by rw [En4.out]; rfl)
         ·intro w1 hg Ar seen
          have e10 := seen.de 10 115
          have s8 := seen.sl 8 (.pointer (some ⟨p, 0, none⟩))
          refine does_on rfl (by kernel_rfl) e10 fun K Q' hK => ?_
          clear e10
          go_simp; exact hK _ _ (Grow.refl _) rfl
         ·intro w1 hg Ar seen
          have e15 := seen.de 15 120
          have e10 := seen.de 10 115
          refine does_on rfl (by kernel_rfl) e10 fun K Q' hK => ?_
          clear e10
          have hc := cell_of_block (j := 4) ((hg.block _ (block_lt HPB.out)).trans HPB.out) (qr4 _)
          go_simp; exact hK _ _ (Grow.refl _) rfl
         ·intro w1 hg Ar seen
          have e16 := seen.de 16 121
          have e10 := seen.de 10 115
          refine does_on rfl (by kernel_rfl) e10 fun K Q' hK => ?_
          clear e10
          go_simp; exact hK _ _ (Grow.refl _) rfl
         ·intro w1 hg Ar seen
          have e14 := seen.de 14 119
          have e17 := seen.de 17 122
          have e10 := seen.de 10 115
          refine does_on rfl (by kernel_rfl) e10 fun K Q' hK => ?_
          clear e10
          have hz := HNE.out
          go_simp; exact hK _ _ (Grow.refl _) rfl
         ·intro w1 hg Ar seen
          have e10 := seen.de 10 115
          have e18 := seen.de 18 123
          refine does_plain rfl fun K Q' hK => ?_
          go_simp; exact hK _ _ (Grow.refl _) rfl
         ·intro w1 hg Ar seen
          have e19 := seen.de 19 124
          refine does_plain rfl fun K Q' hK => ?_
          go_simp; exact hK _ _ (Grow.refl _) rfl
         ·intro w1 hg Ar seen
          have e20 := seen.de 20 125
          have s8 := seen.sl 8 (.pointer (some ⟨p, 0, none⟩))
          refine does_on rfl (by kernel_rfl) e20 fun K Q' hK => ?_
          clear e20
          refine wp_load_row 32 _ rfl p (by simp [Act.eval, s8]) _ _ _ _ ((hg.block _ (block_lt HPB.out)).trans HPB.out) Tryd.underlying32 rfl vSize ?_
          exact hK _ _ (Grow.refl _) rfl
         ·intro w1 hg Ar seen
          have e21 := seen.de 21 126
          have e20 := seen.de 20 125
          refine does_on rfl (by kernel_rfl) e20 fun K Q' hK => ?_
          clear e20
          go_simp
          refine (Right_any _ _ (HQO.out.below hg)).mono ?_
          rintro e u ⟨rfl, hb⟩
          exact hK _ _ hb (by rw [HRR.out]; rfl)
         ·intro w1 hg Ar seen
          have e22 := seen.de 22 127
          have e20 := seen.de 20 125
          refine does_on rfl (by kernel_rfl) e20 fun K Q' hK => ?_
          clear e20
          go_simp; exact hK _ _ (Grow.refl _) rfl
         ·intro w1 hg Ar seen
          have e20 := seen.de 20 125
          have e23 := seen.de 23 128
          refine does_plain rfl fun K Q' hK => ?_
          go_simp; exact hK _ _ (Grow.refl _) rfl
       intro w1 hg
       refine upon_w' (js := [0, 1, 2, 3, 4, 5, 6, 7, 8, 9, 10, 11, 12, 13, 14, 15, 16, 17, 18, 19, 20, 21, 22, 23, 24]) (by rfl) ?_
       refine upon_e (some 105) (upon_e (some 106) (upon_e (some 107) (upon_e (some 108) (upon_e (some 109) (upon_e (some 110) (upon_e (some 111) (upon_e (some 112) (upon_e (some 113) (upon_e (some 114) (upon_e (some 115) (upon_e (some 116) (upon_e (some 117) (upon_e (some 118) (upon_e (some 119) (upon_e (some 120) (upon_e (some 121) (upon_e (some 122) (upon_e (some 123) (upon_e (some 124) (upon_e (some 125) (upon_e (some 126) (upon_e (some 127) (upon_e (some 128) (upon_e (some 129) (upon_n ?_)))))))))))))))))))))))))
       go_simp
       have HB2 := hid (HB.out.below hg)
       clear hg
       go_wp2_with (first | (refine wpList_build_obj rfl 32 _ rfl #[] rfl _ (vBuild0 _) ?_) | (refine wpList_store_obj rfl 32 _ _ rfl (b + 1) rfl rvZ.arr rfl _ _ HB2.out.res rfl vSize (varr_one _) ?_; intro w10 hb10 hc10 hs10; have HB10 := hid hb10; have HC10 := hid hc10; clear hb10 hc10 hs10))
       refine bodyPost_ret (results_cell_tmp rfl _ _ (b + 1) _ _ _ _ rfl HB10.out Tryd.underlying32 rfl vSize _ rfl) rfl ?_
       rw [HE.out]
       exact ⟨rfl, by rw [HBE.out]; exact HB2.out.done HC10.out⟩
     ·have HE : Hid (readV v.it = .error 4) := by
       show _ = _
       rw [HEQ.out, if_pos]
       have : (n4 != (s.n : Int)) = true := by simpa using hne
       rw [this]; simp
      have HNE : Hid ((n4 != (s.n : Int)) = true) := by show _ = _; simpa using hne
      clear hne hlt1
      refine wp_region_each 25 [.eq (.slice (some ⟨gh, 0, none⟩) 5 ch), .eq (.pointer (some ⟨gh, 1, none⟩)), .eq (.slice sc.a sc.n sc.c), .eq (.int .i64 (sc.n : Int)), .eq (.bool true), .eq (.bool true), .eq (.pointer (some ⟨p, 2, none⟩)), .eq (.int .i64 n2), .eq (.bool false), .eq (.bool false), .eq (.bool false), .eq (.slice (some ⟨gh, 0, none⟩) 5 ch), .eq (.pointer (some ⟨gh, 4, none⟩)), .eq (.slice se.a se.n se.c), .eq (.int .i64 n4), .eq (.pointer (some ⟨p, 4, none⟩)), .eq (.slice s.a s.n s.c), .eq (.int .i64 (s.n : Int)), .eq (.bool true), .eq (.bool true), .eq (.bool true), .eq undef, .eq undef, .eq undef, .eq (.bool true)] (by kernel_rfl) (by kernel_rfl) (by kernel_rfl) (by kernel_rfl) ?_ ?_
      ·as_aux_lemma =>
        refine each_5 ?_ ?_ ?_ ?_ ?_ (each_5 ?_ ?_ ?_ ?_ ?_ (each_5 ?_ ?_ ?_ ?_ ?_ (each_5 ?_ ?_ ?_ ?_ ?_ (each_5 ?_ ?_ ?_ ?_ ?_ (each_n)))))
        ·intro w1 hg Ar seen
         have s6 := seen.sl 6 (.slice (some ⟨gh, 0, none⟩) 5 ch)
         refine does_plain rfl fun K Q' hK => ?_
         go_simp; exact hK _ _ (Grow.refl _) rfl
        ·intro w1 hg Ar seen
         have e0 := seen.de 0 105
         refine does_plain rfl fun K Q' hK => ?_
         go_simp; exact hK _ _ (Grow.refl _) rfl
        ·intro w1 hg Ar seen
         have e1 := seen.de 1 106
         refine does_plain rfl fun K Q' hK => ?_
         have hc := cell_later hg HCC'.out
         go_simp; exact hK _ _ (Grow.refl _) rfl
        ·intro w1 hg Ar seen
         have e2 := seen.de 2 107
         refine does_plain rfl fun K Q' hK => ?_
         go_simp; exact hK _ _ (Grow.refl _) rfl
        ·intro w1 hg Ar seen
         have e3 := seen.de 3 108
         refine does_plain rfl fun K Q' hK => ?_
         have hz := HG1.out
         go_simp; exact hK _ _ (Grow.refl _) rfl
        ·intro w1 hg Ar seen
         have e4 := seen.de 4 109
         refine does_plain rfl fun K Q' hK => ?_
         go_simp; exact hK _ _ (Grow.refl _) rfl
        ·intro w1 hg Ar seen
         have e5 := seen.de 5 110
         have s8 := seen.sl 8 (.pointer (some ⟨p, 0, none⟩))
         refine does_on rfl (by kernel_rfl) e5 fun K Q' hK => ?_
         clear e5
         go_simp; exact hK _ _ (Grow.refl _) rfl
        ·intro w1 hg Ar seen
         have e6 := seen.de 6 111
         have e5 := seen.de 5 110
         refine does_on rfl (by kernel_rfl) e5 fun K Q' hK => ?_
         clear e5
         have hc := cell_of_block (j := 2) ((hg.block _ (block_lt HPB.out)).trans HPB.out) (qr2 _)
         go_simp; exact hK _ _ (Grow.refl _) rfl
        ·intro w1 hg Ar seen
         have e7 := seen.de 7 112
         have e5 := seen.de 5 110
         refine does_on rfl (by kernel_rfl) e5 fun K Q' hK => ?_
         clear e5
         have hz := HLT.out
         go_simp; exact hK _ _ (Grow.refl _) rfl
        ·intro w1 hg Ar seen
         have e5 := seen.de 5 110
         have e8 := seen.de 8 113
         refine does_plain rfl fun K Q' hK => ?_
         go_simp; exact hK _ _ (Grow.refl _) rfl
        ·intro w1 hg Ar seen
         have e9 := seen.de 9 114
         refine does_plain rfl fun K Q' hK => ?_
         go_simp; exact hK _ _ (Grow.refl _) rfl
        ·intro w1 hg Ar seen
         have e10 := seen.de 10 115
         have s6 := seen.sl 6 (.slice (some ⟨gh, 0, none⟩) 5 ch)
         refine does_on rfl (by kernel_rfl) e10 fun K Q' hK => ?_
         clear e10
         go_simp; exact hK _ _ (Grow.refl _) rfl
        ·intro w1 hg Ar seen
         have e11 := seen.de 11 116
         have e10 := seen.de 10 115
         refine does_on rfl (by kernel_rfl) e10 fun K Q' hK => ?_
         clear e10
         go_simp; exact hK _ _ (Grow.refl _) rfl
        ·intro w1 hg Ar seen
         have e12 := seen.de 12 117
         have e10 := seen.de 10 115
         refine does_on rfl (by kernel_rfl) e10 fun K Q' hK => ?_
         clear e10
         have hc := cell_later hg HCE'.out
         go_simp; exact hK _ _ (Grow.refl _) rfl
        ·intro w1 hg Ar seen
         have e13 := seen.de 13 118
         have e10 := seen.de 10 115
         refine does_on rfl (by kernel_rfl) e10 fun K Q' hK => ?_
         clear e10
         go_simp
         refine (qnumber_any se le 0 _ (HSE'.out.below hg)).mono ?_
         rintro e u ⟨rfl, rfl⟩
         exact hK _ _ (Grow.refl _) (by rw [En4.out]; rfl)
        ·intro w1 hg Ar seen
         have e10 := seen.de 10 115
         have s8 := seen.sl 8 (.pointer (some ⟨p, 0, none⟩))
         refine does_on rfl (by kernel_rfl) e10 fun K Q' hK => ?_
         clear e10
         go_simp; exact hK _ _ (Grow.refl _) rfl
        ·intro w1 hg Ar seen
         have e15 := seen.de 15 120
         have e10 := seen.de 10 115
         refine does_on rfl (by kernel_rfl) e10 fun K Q' hK => ?_
         clear e10
         have hc := cell_of_block (j := 4) ((hg.block _ (block_lt HPB.out)).trans HPB.out) (qr4 _)
         go_simp; exact hK _ _ (Grow.refl _) rfl
        ·intro w1 hg Ar seen
         have e16 := seen.de 16 121
         have e10 := seen.de 10 115
         refine does_on rfl (by kernel_rfl) e10 fun K Q' hK => ?_
         clear e10
         go_simp; exact hK _ _ (Grow.refl _) rfl
        ·intro w1 hg Ar seen
         have e14 := seen.de 14 119
         have e17 := seen.de 17 122
         have e10 := seen.de 10 115
         refine does_on rfl (by kernel_rfl) e10 fun K Q' hK => ?_
         clear e10
         have hz := HNE.out
         go_simp; exact hK _ _ (Grow.refl _) rfl
        ·intro w1 hg Ar seen
         have e10 := seen.de 10 115
         have e18 := seen.de 18 123
         refine does_plain rfl fun K Q' hK => ?_
         go_simp; exact hK _ _ (Grow.refl _) rfl
        ·intro w1 hg Ar seen
         have e19 := seen.de 19 124
         refine does_plain rfl fun K Q' hK => ?_
         go_simp; exact hK _ _ (Grow.refl _) rfl
        ·intro w1 hg Ar seen
         have e20 := seen.de 20 125
         exact does_off rfl (by kernel_rfl) e20 ne_tf (Grow.refl _) rfl
        ·intro w1 hg Ar seen
         have e20 := seen.de 20 125
         exact does_off rfl (by kernel_rfl) e20 ne_tf (Grow.refl _) rfl
        ·intro w1 hg Ar seen
         have e20 := seen.de 20 125
         exact does_off rfl (by kernel_rfl) e20 ne_tf (Grow.refl _) rfl
        ·intro w1 hg Ar seen
         have e20 := seen.de 20 125
         have e23 := seen.de 23 128
         refine does_plain rfl fun K Q' hK => ?_
         go_simp; exact hK _ _ (Grow.refl _) rfl
      intro w1 hg
      refine upon_w' (js := [0, 1, 2, 3, 4, 5, 6, 7, 8, 9, 10, 11, 12, 13, 14, 15, 16, 17, 18, 19, 20, 21, 22, 23, 24]) (by rfl) ?_
      refine upon_e (some 105) (upon_e (some 106) (upon_e (some 107) (upon_e (some 108) (upon_e (some 109) (upon_e (some 110) (upon_e (some 111) (upon_e (some 112) (upon_e (some 113) (upon_e (some 114) (upon_e (some 115) (upon_e (some 116) (upon_e (some 117) (upon_e (some 118) (upon_e (some 119) (upon_e (some 120) (upon_e (some 121) (upon_e (some 122) (upon_e (some 123) (upon_e (some 124) (upon_e (some 125) (upon_e (some 126) (upon_e (some 127) (upon_e (some 128) (upon_e (some 129) (upon_n ?_)))))))))))))))))))))))))
      go_simp
      have HB2 := hid (HB.out.below hg)
      clear hg
      go_wp2_with (first | (refine wpList_build_obj rfl 32 _ rfl #[] rfl _ (vBuild0 _) ?_) | (refine wpList_store_obj rfl 32 _ _ rfl (b + 1) rfl rvZ.arr rfl _ _ HB2.out.res rfl vSize (varr_one _) ?_; intro w10 hb10 hc10 hs10; have HB10 := hid hb10; have HC10 := hid hc10; clear hb10 hc10 hs10))
      refine bodyPost_ret (results_cell_tmp rfl _ _ (b + 1) _ _ _ _ rfl HB10.out Tryd.underlying32 rfl vSize _ rfl) rfl ?_
      rw [HE.out]
      exact ⟨rfl, by rw [HBE.out]; exact HB2.out.done HC10.out⟩
   ·have hy1 : y1.isEmpty = true := by cases y1 with
     | nil => rfl
     | cons _ _ => have := HNC.out; simp at this; omega
    have HY1 := hid hy1; have HG1 := hid hg1
    clear hy1 hg1
    by_cases hne : n4 = (s.n : Int)
    ·cases hR : rightV (RqV.rq { major := n0, minor := n1, max := n2, opt := n3, its := s, items := lq }) with
     | true =>
      have HE : Hid (readV v.it = .ok (RqV.rq { major := n0, minor := n1, max := n2, opt := n3, its := s, items := lq })) := by
       show _ = _
       rw [HEQ.out, HY1.out, hR, if_neg]
       show ¬ ((!true && decide (n2 < 1)) || (n4 != (s.n : Int)) || !true) = true
       simp [hne]
      have HNE := hid hne; have HRR := hid hR
      clear hne hR
      refine wp_region_each 25 [.eq (.slice (some ⟨gh, 0, none⟩) 5 ch), .eq (.pointer (some ⟨gh, 1, none⟩)), .eq (.slice sc.a sc.n sc.c), .eq (.int .i64 (sc.n : Int)), .eq (.bool false), .eq (.bool false), .eq undef, .eq undef, .eq undef, .eq (.bool false), .eq (.bool false), .eq (.slice (some ⟨gh, 0, none⟩) 5 ch), .eq (.pointer (some ⟨gh, 4, none⟩)), .eq (.slice se.a se.n se.c), .eq (.int .i64 n4), .eq (.pointer (some ⟨p, 4, none⟩)), .eq (.slice s.a s.n s.c), .eq (.int .i64 (s.n : Int)), .eq (.bool false), .eq (.bool false), .eq (.bool false), .eq (.agg (RqV.arr { major := n0, minor := n1, max := n2, opt := n3, its := s, items := lq })), .eq (.bool true), .eq (.bool false), .eq (.bool false)] (by kernel_rfl) (by kernel_rfl) (by kernel_rfl) (by kernel_rfl) ?_ ?_
      ·as_aux_lemma =>
        refine each_5 ?_ ?_ ?_ ?_ ?_ (each_5 ?_ ?_ ?_ ?_ ?_ (each_5 ?_ ?_ ?_ ?_ ?_ (each_5 ?_ ?_ ?_ ?_ ?_ (each_5 ?_ ?_ ?_ ?_ ?_ (each_n)))))
        ·intro w1 hg Ar seen
         have s6 := seen.sl 6 (.slice (some ⟨gh, 0, none⟩) 5 ch)
         refine does_plain rfl fun K Q' hK => ?_
         go_simp; exact hK _ _ (Grow.refl _) rfl
        ·intro w1 hg Ar seen
         have e0 := seen.de 0 105
         refine does_plain rfl fun K Q' hK => ?_
         go_simp; exact hK _ _ (Grow.refl _) rfl
        ·intro w1 hg Ar seen
         have e1 := seen.de 1 106
         refine does_plain rfl fun K Q' hK => ?_
         have hc := cell_later hg HCC'.out
         go_simp; exact hK _ _ (Grow.refl _) rfl
        ·intro w1 hg Ar seen
         have e2 := seen.de 2 107
         refine does_plain rfl fun K Q' hK => ?_
         go_simp; exact hK _ _ (Grow.refl _) rfl
        ·intro w1 hg Ar seen
         have e3 := seen.de 3 108
         refine does_plain rfl fun K Q' hK => ?_
         have hz := HG1.out
         go_simp; exact hK _ _ (Grow.refl _) rfl
        ·intro w1 hg Ar seen
         have e4 := seen.de 4 109
         refine does_plain rfl fun K Q' hK => ?_
         go_simp; exact hK _ _ (Grow.refl _) rfl
        ·intro w1 hg Ar seen
         have e5 := seen.de 5 110
         exact does_off rfl (by kernel_rfl) e5 ne_ft (Grow.refl _) rfl
        ·intro w1 hg Ar seen
         have e5 := seen.de 5 110
         exact does_off rfl (by kernel_rfl) e5 ne_ft (Grow.refl _) rfl
        ·intro w1 hg Ar seen
         have e5 := seen.de 5 110
         exact does_off rfl (by kernel_rfl) e5 ne_ft (Grow.refl _) rfl
        ·intro w1 hg Ar seen
         have e5 := seen.de 5 110
         have e8 := seen.de 8 113
         refine does_plain rfl fun K Q' hK => ?_
         go_simp; exact hK _ _ (Grow.refl _) rfl
        ·intro w1 hg Ar seen
         have e9 := seen.de 9 114
         refine does_plain rfl fun K Q' hK => ?_
         go_simp; exact hK _ _ (Grow.refl _) rfl
        ·intro w1 hg Ar seen
         have e10 := seen.de 10 115
         have s6 := seen.sl 6 (.slice (some ⟨gh, 0, none⟩) 5 ch)
         refine does_on rfl (by kernel_rfl) e10 fun K Q' hK => ?_
         clear e10
         go_simp; exact hK _ _ (Grow.refl _) rfl
        ·intro w1 hg Ar seen
         have e11 := seen.de 11 116
         have e10 := seen.de 10 115
         refine does_on rfl (by kernel_rfl) e10 fun K Q' hK => ?_
         clear e10
         go_simp; exact hK _ _ (Grow.refl _) rfl
        ·intro w1 hg Ar seen
         have e12 := seen.de 12 117
         have e10 := seen.de 10 115
         refine does_on rfl (by kernel_rfl) e10 fun K Q' hK => ?_
         clear e10
         have hc := cell_later hg HCE'.out
         go_simp; exact hK _ _ (Grow.refl _) rfl
        ·intro w1 hg Ar seen
         have e13 := seen.de 13 118
         have e10 := seen.de 10 115
         refine does_on rfl (by kernel_rfl) e10 fun K Q' hK => ?_
         clear e10
         go_simp
         refine (qnumber_any se le 0 _ (HSE'.out.below hg)).mono ?_
         rintro e u ⟨rfl, rfl⟩
         exact hK _ _ (Grow.refl _) (by rw [En4.out]; rfl)
        ·intro w1 hg Ar seen
         have e10 := seen.de 10 115
         have s8 := seen.sl 8 (.pointer (some ⟨p, 0, none⟩))
         refine does_on rfl (by kernel_rfl) e10 fun K Q' hK => ?_
         clear e10
         go_simp; exact hK _ _ (Grow.refl _) rfl
        ·intro w1 hg Ar seen
         have e15 := seen.de 15 120
         have e10 := seen.de 10 115
         refine does_on rfl (by kernel_rfl) e10 fun K Q' hK => ?_
         clear e10
         have hc := cell_of_block (j := 4) ((hg.block _ (block_lt HPB.out)).trans HPB.out) (qr4 _)
         go_simp; exact hK _ _ (Grow.refl _) rfl
        ·intro w1 hg Ar seen
         have e16 := seen.de 16 121
         have e10 := seen.de 10 115
         refine does_on rfl (by kernel_rfl) e10 fun K Q' hK => ?_
         clear e10
         go_simp; exact hK _ _ (Grow.refl _) rfl
        ·intro w1 hg Ar seen
         have e14 := seen.de 14 119
         have e17 := seen.de 17 122
         have e10 := seen.de 10 115
         refine does_on rfl (by kernel_rfl) e10 fun K Q' hK => ?_
         clear e10
         have hz := HNE.out
         go_simp; exact hK _ _ (Grow.refl _) rfl
        ·intro w1 hg Ar seen
         have e10 := seen.de 10 115
         have e18 := seen.de 18 123
         refine does_plain rfl fun K Q' hK => ?_
         go_simp; exact hK _ _ (Grow.refl _) rfl
        ·intro w1 hg Ar seen
         have e19 := seen.de 19 124
         refine does_plain rfl fun K Q' hK => ?_
         go_simp; exact hK _ _ (Grow.refl _) rfl
        ·intro w1 hg Ar seen
         have e20 := seen.de 20 125
         have s8 := seen.sl 8 (.pointer (some ⟨p, 0, none⟩))
         refine does_on rfl (by kernel_rfl) e20 fun K Q' hK => ?_
         clear e20
         refine wp_load_row 32 _ rfl p (by simp [Act.eval, s8]) _ _ _ _ ((hg.block _ (block_lt HPB.out)).trans HPB.out) Tryd.underlying32 rfl vSize ?_
         exact hK _ _ (Grow.refl _) rfl
        ·intro w1 hg Ar seen
         have e21 := seen.de 21 126
         have e20 := seen.de 20 125
         refine does_on rfl (by kernel_rfl) e20 fun K Q' hK => ?_
         clear e20
         go_simp
         refine (Right_any _ _ (HQO.out.below hg)).mono ?_
         rintro e u ⟨rfl, hb⟩
         exact hK _ _ hb (by rw [HRR.out]; rfl)
        ·intro w1 hg Ar seen
         have e22 := seen.de 22 127
         have e20 := seen.de 20 125
         refine does_on rfl (by kernel_rfl) e20 fun K Q' hK => ?_
         clear e20
         go_simp; exact hK _ _ (Grow.refl _) rfl
        ·intro w1 hg Ar seen
         have e20 := seen.de 20 125
         have e23 := seen.de 23 128
         refine does_plain rfl fun K Q' hK => ?_
         go_simp; exact hK _ _ (Grow.refl _) rfl
      intro w1 hg
      refine upon_w' (js := [0, 1, 2, 3, 4, 5, 6, 7, 8, 9, 10, 11, 12, 13, 14, 15, 16, 17, 18, 19, 20, 21, 22, 23, 24]) (by rfl) ?_
      refine upon_e (some 105) (upon_e (some 106) (upon_e (some 107) (upon_e (some 108) (upon_e (some 109) (upon_e (some 110) (upon_e (some 111) (upon_e (some 112) (upon_e (some 113) (upon_e (some 114) (upon_e (some 115) (upon_e (some 116) (upon_e (some 117) (upon_e (some 118) (upon_e (some 119) (upon_e (some 120) (upon_e (some 121) (upon_e (some 122) (upon_e (some 123) (upon_e (some 124) (upon_e (some 125) (upon_e (some 126) (upon_e (some 127) (upon_e (some 128) (upon_e (some 129) (upon_n ?_)))))))))))))))))))))))))
      go_simp
      have HB2 := hid (HB.out.below hg)
      have HQO2 := hid (HQO.out.below hg)
      have HPB2 := hid ((hg.block _ (block_lt HPB.out)).trans HPB.out)
      clear hg
      go_wp2_with (first | (refine wpList_load_row rfl 32 _ rfl p rfl _ _ _ _ HPB2.out Tryd.underlying32 rfl vSize ?_) | (refine wpList_store_obj rfl 32 _ _ rfl (b + 1) rfl (RqV.arr { major := n0, minor := n1, max := n2, opt := n3, its := s, items := lq }) rfl _ _ HB2.out.res rfl vSize (varr_one _) ?_; intro w10 hb10 hc10 hs10; have HB10 := hid hb10; have HC10 := hid hc10; clear hb10 hc10 hs10))
      refine bodyPost_ret (results_cell_tmp rfl _ _ (b + 1) _ _ _ _ rfl HB10.out Tryd.underlying32 rfl vSize _ rfl) rfl ?_
      rw [HE.out]
      refine ⟨_, rfl, rfl, ⟨HQO2.out.its.keep HC10.out (fun k hk hm => by have := List.mem_singleton.1 hm; have := HSB.out k hk; have := HPZ.out; have := HZP.out; have := HBZ.out; omega), fun x hx => RqIV.ok.keep HC10.out (HQO2.out.each x hx) (fun k hk hm => (HPF.out x hx k hk).2 (List.mem_singleton.1 hm))⟩, by rw [HBE.out]; exact HB2.out.done HC10.out⟩
     | false =>
      have HE : Hid (readV v.it = .error 4) := by
       show _ = _
       rw [HEQ.out, hR, if_pos]
       simp
      have HNE := hid hne; have HRR := hid hR
      clear hne hR
      refine wp_region_each 25 [.eq (.slice (some ⟨gh, 0, none⟩) 5 ch), .eq (.pointer (some ⟨gh, 1, none⟩)), .eq (.slice sc.a sc.n sc.c), .eq (.int .i64 (sc.n : Int)), .eq (.bool false), .eq (.bool false), .eq undef, .eq undef, .eq undef, .eq (.bool false), .eq (.bool false), .eq (.slice (some ⟨gh, 0, none⟩) 5 ch), .eq (.pointer (some ⟨gh, 4, none⟩)), .eq (.slice se.a se.n se.c), .eq (.int .i64 n4), .eq (.pointer (some ⟨p, 4, none⟩)), .eq (.slice s.a s.n s.c), .eq (.int .i64 (s.n : Int)), .eq (.bool false), .eq (.bool false), .eq (.bool false), .eq (.agg (RqV.arr { major := n0, minor := n1, max := n2, opt := n3, its := s, items := lq })), .eq (.bool false), .eq (.bool true), .eq (.bool true)] (by kernel_rfl) (by kernel_rfl) (by kernel_rfl) (by kernel_rfl) ?_ ?_
      ·as_aux_lemma =>
        refine each_5 ?_ ?_ ?_ ?_ ?_ (each_5 ?_ ?_ ?_ ?_ ?_ (each_5 ?_ ?_ ?_ ?_ ?_ (each_5 ?_ ?_ ?_ ?_ ?_ (each_5 ?_ ?_ ?_ ?_ ?_ (each_n)))))
        ·intro w1 hg Ar seen
         have s6 := seen.sl 6 (.slice (some ⟨gh, 0, none⟩) 5 ch)
         refine does_plain rfl fun K Q' hK => ?_
         go_simp; exact hK _ _ (Grow.refl _) rfl
        ·intro w1 hg Ar seen
         have e0 := seen.de 0 105
         refine does_plain rfl fun K Q' hK => ?_
         go_simp; exact hK _ _ (Grow.refl _) rfl
        ·intro w1 hg Ar seen
         have e1 := seen.de 1 106
         refine does_plain rfl fun K Q' hK => ?_
         have hc := cell_later hg HCC'.out
         go_simp; exact hK _ _ (Grow.refl _) rfl
        ·intro w1 hg Ar seen
         have e2 := seen.de 2 107
         refine does_plain rfl fun K Q' hK => ?_
         go_simp; exact hK _ _ (Grow.refl _) rfl
        ·intro w1 hg Ar seen
         have e3 := seen.de 3 108
         refine does_plain rfl fun K Q' hK => ?_
         have hz := HG1.out
         go_simp; exact hK _ _ (Grow.refl _) rfl
        ·intro w1 hg Ar seen
         have e4 := seen.de 4 109
         refine does_plain rfl fun K Q' hK => ?_
         go_simp; exact hK _ _ (Grow.refl _) rfl
        ·intro w1 hg Ar seen
         have e5 := seen.de 5 110
         exact does_off rfl (by kernel_rfl) e5 ne_ft (Grow.refl _) rfl
        ·intro w1 hg Ar seen
         have e5 := seen.de 5 110
         exact does_off rfl (by kernel_rfl) e5 ne_ft (Grow.refl _) rfl
        ·intro w1 hg Ar seen
         have e5 := seen.de 5 110
         exact does_off rfl (by kernel_rfl) e5 ne_ft (Grow.refl _) rfl
        ·intro w1 hg Ar seen
         have e5 := seen.de 5 110
         have e8 := seen.de 8 113
         refine does_plain rfl fun K Q' hK => ?_
         go_simp; exact hK _ _ (Grow.refl _) rfl
        ·intro w1 hg Ar seen
         have e9 := seen.de 9 114
         refine does_plain rfl fun K Q' hK => ?_
         go_simp; exact hK _ _ (Grow.refl _) rfl
        ·intro w1 hg Ar seen
         have e10 := seen.de 10 115
         have s6 := seen.sl 6 (.slice (some ⟨gh, 0, none⟩) 5 ch)
         refine does_on rfl (by kernel_rfl) e10 fun K Q' hK => ?_
         clear e10
         go_simp; exact hK _ _ (Grow.refl _) rfl
        ·intro w1 hg Ar seen
         have e11 := seen.de 11 116
         have e10 := seen.de 10 115
         refine does_on rfl (by kernel_rfl) e10 fun K Q' hK => ?_
         clear e10
         go_simp; exact hK _ _ (Grow.refl _) rfl
        ·intro w1 hg Ar seen
         have e12 := seen.de 12 117
         have e10 := seen.de 10 115
         refine does_on rfl (by kernel_rfl) e10 fun K Q' hK => ?_
         clear e10
         have hc := cell_later hg HCE'.out
         go_simp; exact hK _ _ (Grow.refl _) rfl
        ·intro w1 hg Ar seen
         have e13 := seen.de 13 118
         have e10 := seen.de 10 115
         refine does_on rfl (by kernel_rfl) e10 fun K Q' hK => ?_
         clear e10
         go_simp
         refine (qnumber_any se le 0 _ (HSE'.out.below hg)).mono ?_
         rintro e u ⟨rfl, rfl⟩
         exact hK _ _ (Grow.refl _) (by rw [En4.out]; rfl)
        ·intro w1 hg Ar seen
         have e10 := seen.de 10 115
         have s8 := seen.sl 8 (.pointer (some ⟨p, 0, none⟩))
         refine does_on rfl (by kernel_rfl) e10 fun K Q' hK => ?_
         clear e10
         go_simp; exact hK _ _ (Grow.refl _) rfl
        ·intro w1 hg Ar seen
         have e15 := seen.de 15 120
         have e10 := seen.de 10 115
         refine does_on rfl (by kernel_rfl) e10 fun K Q' hK => ?_
         clear e10
         have hc := cell_of_block (j := 4) ((hg.block _ (block_lt HPB.out)).trans HPB.out) (qr4 _)
         go_simp; exact hK _ _ (Grow.refl _) rfl
        ·intro w1 hg Ar seen
         have e16 := seen.de 16 121
         have e10 := seen.de 10 115
         refine does_on rfl (by kernel_rfl) e10 fun K Q' hK => ?_
         clear e10
         go_simp; exact hK _ _ (Grow.refl _) rfl
        ·intro w1 hg Ar seen
         have e14 := seen.de 14 119
         have e17 := seen.de 17 122
         have e10 := seen.de 10 115
         refine does_on rfl (by kernel_rfl) e10 fun K Q' hK => ?_
         clear e10
         have hz := HNE.out
         go_simp; exact hK _ _ (Grow.refl _) rfl
        ·intro w1 hg Ar seen
         have e10 := seen.de 10 115
         have e18 := seen.de 18 123
         refine does_plain rfl fun K Q' hK => ?_
         go_simp; exact hK _ _ (Grow.refl _) rfl
        ·intro w1 hg Ar seen
         have e19 := seen.de 19 124
         refine does_plain rfl fun K Q' hK => ?_
         go_simp; exact hK _ _ (Grow.refl _) rfl
        ·intro w1 hg Ar seen
         have e20 := seen.de 20 125
         have s8 := seen.sl 8 (.pointer (some ⟨p, 0, none⟩))
         refine does_on rfl (by kernel_rfl) e20 fun K Q' hK => ?_
         clear e20
         refine wp_load_row 32 _ rfl p (by simp [Act.eval, s8]) _ _ _ _ ((hg.block _ (block_lt HPB.out)).trans HPB.out) Tryd.underlying32 rfl vSize ?_
         exact hK _ _ (Grow.refl _) rfl
        ·intro w1 hg Ar seen
         have e21 := seen.de 21 126
         have e20 := seen.de 20 125
         refine does_on rfl (by kernel_rfl) e20 fun K Q' hK => ?_
         clear e20
         go_simp
         refine (Right_any _ _ (HQO.out.below hg)).mono ?_
         rintro e u ⟨rfl, hb⟩
         exact hK _ _ hb (by rw [HRR.out]; rfl)
        ·intro w1 hg Ar seen
         have e22 := seen.de 22 127
         have e20 := seen.de 20 125
         refine does_on rfl (by kernel_rfl) e20 fun K Q' hK => ?_
         clear e20
         go_simp; exact hK _ _ (Grow.refl _) rfl
        ·intro w1 hg Ar seen
         have e20 := seen.de 20 125
         have e23 := seen.de 23 128
         refine does_plain rfl fun K Q' hK => ?_
         go_simp; exact hK _ _ (Grow.refl _) rfl
      intro w1 hg
      refine upon_w' (js := [0, 1, 2, 3, 4, 5, 6, 7, 8, 9, 10, 11, 12, 13, 14, 15, 16, 17, 18, 19, 20, 21, 22, 23, 24]) (by rfl) ?_
      refine upon_e (some 105) (upon_e (some 106) (upon_e (some 107) (upon_e (some 108) (upon_e (some 109) (upon_e (some 110) (upon_e (some 111) (upon_e (some 112) (upon_e (some 113) (upon_e (some 114) (upon_e (some 115) (upon_e (some 116) (upon_e (some 117) (upon_e (some 118) (upon_e (some 119) (upon_e (some 120) (upon_e (some 121) (upon_e (some 122) (upon_e (some 123) (upon_e (some 124) (upon_e (some 125) (upon_e (some 126) (upon_e (some 127) (upon_e (some 128) (upon_e (some 129) (upon_n ?_)))))))))))))))))))))))))
      go_simp
      have HB2 := hid (HB.out.below hg)
      clear hg
      go_wp2_with (first | (refine wpList_build_obj rfl 32 _ rfl #[] rfl _ (vBuild0 _) ?_) | (refine wpList_store_obj rfl 32 _ _ rfl (b + 1) rfl rvZ.arr rfl _ _ HB2.out.res rfl vSize (varr_one _) ?_; intro w10 hb10 hc10 hs10; have HB10 := hid hb10; have HC10 := hid hc10; clear hb10 hc10 hs10))
      refine bodyPost_ret (results_cell_tmp rfl _ _ (b + 1) _ _ _ _ rfl HB10.out Tryd.underlying32 rfl vSize _ rfl) rfl ?_
      rw [HE.out]
      exact ⟨rfl, by rw [HBE.out]; exact HB2.out.done HC10.out⟩
    ·have HE : Hid (readV v.it = .error 4) := by
      show _ = _
      rw [HEQ.out, if_pos]
      have : (n4 != (s.n : Int)) = true := by simpa using hne
      rw [this]; simp
     have HNE : Hid ((n4 != (s.n : Int)) = true) := by show _ = _; simpa using hne
     clear hne
     refine wp_region_each 25 [.eq (.slice (some ⟨gh, 0, none⟩) 5 ch), .eq (.pointer (some ⟨gh, 1, none⟩)), .eq (.slice sc.a sc.n sc.c), .eq (.int .i64 (sc.n : Int)), .eq (.bool false), .eq (.bool false), .eq undef, .eq undef, .eq undef, .eq (.bool false), .eq (.bool false), .eq (.slice (some ⟨gh, 0, none⟩) 5 ch), .eq (.pointer (some ⟨gh, 4, none⟩)), .eq (.slice se.a se.n se.c), .eq (.int .i64 n4), .eq (.pointer (some ⟨p, 4, none⟩)), .eq (.slice s.a s.n s.c), .eq (.int .i64 (s.n : Int)), .eq (.bool true), .eq (.bool true), .eq (.bool true), .eq undef, .eq undef, .eq undef, .eq (.bool true)] (by kernel_rfl) (by kernel_rfl) (by kernel_rfl) (by kernel_rfl) ?_ ?_
     ·as_aux_lemma =>
       refine each_5 ?_ ?_ ?_ ?_ ?_ (each_5 ?_ ?_ ?_ ?_ ?_ (each_5 ?_ ?_ ?_ ?_ ?_ (each_5 ?_ ?_ ?_ ?_ ?_ (each_5 ?_ ?_ ?_ ?_ ?_ (each_n)))))
       ·intro w1 hg Ar seen
        have s6 := seen.sl 6 (.slice (some ⟨gh, 0, none⟩) 5 ch)
        refine does_plain rfl fun K Q' hK => ?_
        go_simp; exact hK _ _ (Grow.refl _) rfl
       ·intro w1 hg Ar seen
        have e0 := seen.de 0 105
        refine does_plain rfl fun K Q' hK => ?_
        go_simp; exact hK _ _ (Grow.refl _) rfl
       ·intro w1 hg Ar seen
        have e1 := seen.de 1 106
        refine does_plain rfl fun K Q' hK => ?_
        have hc := cell_later hg HCC'.out
        go_simp; exact hK _ _ (Grow.refl _) rfl
       ·intro w1 hg Ar seen
        have e2 := seen.de 2 107
        refine does_plain rfl fun K Q' hK => ?_
        go_simp; exact hK _ _ (Grow.refl _) rfl
       ·intro w1 hg Ar seen
        have e3 := seen.de 3 108
        refine does_plain rfl fun K Q' hK => ?_
        have hz := HG1.out
        go_simp; exact hK _ _ (Grow.refl _) rfl
       ·intro w1 hg Ar seen
        have e4 := seen.de 4 109
        refine does_plain rfl fun K Q' hK => ?_
        go_simp; exact hK _ _ (Grow.refl _) rfl
       ·intro w1 hg Ar seen
        have e5 := seen.de 5 110
        exact does_off rfl (by kernel_rfl) e5 ne_ft (Grow.refl _) rfl
       ·intro w1 hg Ar seen
        have e5 := seen.de 5 110
        exact does_off rfl (by kernel_rfl) e5 ne_ft (Grow.refl _) rfl
       ·intro w1 hg Ar seen
        have e5 := seen.de 5 110
        exact does_off rfl (by kernel_rfl) e5 ne_ft (Grow.refl _) rfl
       ·intro w1 hg Ar seen
        have e5 := seen.de 5 110
        have e8 := seen.de 8 113
        refine does_plain rfl fun K Q' hK => ?_
        go_simp; exact hK _ _ (Grow.refl _) rfl
       ·intro w1 hg Ar seen
        have e9 := seen.de 9 114
        refine does_plain rfl fun K Q' hK => ?_
        go_simp; exact hK _ _ (Grow.refl _) rfl
       ·intro w1 hg Ar seen
        have e10 := seen.de 10 115
        have s6 := seen.sl 6 (.slice (some ⟨gh, 0, none⟩) 5 ch)
        refine does_on rfl (by kernel_rfl) e10 fun K Q' hK => ?_
        clear e10
        go_simp; exact hK _ _ (Grow.refl _) rfl
       ·intro w1 hg Ar seen
        have e11 := seen.de 11 116
        have e10 := seen.de 10 115
        refine does_on rfl (by kernel_rfl) e10 fun K Q' hK => ?_
        clear e10
        go_simp; exact hK _ _ (Grow.refl _) rfl
       ·intro w1 hg Ar seen
        have e12 := seen.de 12 117
        have e10 := seen.de 10 115
        refine does_on rfl (by kernel_rfl) e10 fun K Q' hK => ?_
        clear e10
        have hc := cell_later hg HCE'.out
        go_simp; exact hK _ _ (Grow.refl _) rfl
       ·intro w1 hg Ar seen
        have e13 := seen.de 13 118
        have e10 := seen.de 10 115
        refine does_on rfl (by kernel_rfl) e10 fun K Q' hK => ?_
        clear e10
        go_simp
        refine (qnumber_any se le 0 _ (HSE'.out.below hg)).mono ?_
        rintro e u ⟨rfl, rfl⟩
        exact hK _ _ (Grow.refl _) (by rw [En4.out]; rfl)
       ·intro w1 hg Ar seen
        have e10 := seen.de 10 115
        have s8 := seen.sl 8 (.pointer (some ⟨p, 0, none⟩))
        refine does_on rfl (by kernel_rfl) e10 fun K Q' hK => ?_
        clear e10
        go_simp; exact hK _ _ (Grow.refl _) rfl
       ·intro w1 hg Ar seen
        have e15 := seen.de 15 120
        have e10 := seen.de 10 115
        refine does_on rfl (by kernel_rfl) e10 fun K Q' hK => ?_
        clear e10
        have hc := cell_of_block (j := 4) ((hg.block _ (block_lt HPB.out)).trans HPB.out) (qr4 _)
        go_simp; exact hK _ _ (Grow.refl _) rfl
       ·intro w1 hg Ar seen
        have e16 := seen.de 16 121
        have e10 := seen.de 10 115
        refine does_on rfl (by kernel_rfl) e10 fun K Q' hK => ?_
        clear e10
        go_simp; exact hK _ _ (Grow.refl _) rfl
       ·intro w1 hg Ar seen
        have e14 := seen.de 14 119
        have e17 := seen.de 17 122
        have e10 := seen.de 10 115
        refine does_on rfl (by kernel_rfl) e10 fun K Q' hK => ?_
        clear e10
        have hz := HNE.out
        go_simp; exact hK _ _ (Grow.refl _) rfl
       ·intro w1 hg Ar seen
        have e10 := seen.de 10 115
        have e18 := seen.de 18 123
        refine does_plain rfl fun K Q' hK => ?_
        go_simp; exact hK _ _ (Grow.refl _) rfl
       ·intro w1 hg Ar seen
        have e19 := seen.de 19 124
        refine does_plain rfl fun K Q' hK => ?_
        go_simp; exact hK _ _ (Grow.refl _) rfl
       ·intro w1 hg Ar seen
        have e20 := seen.de 20 125
        exact does_off rfl (by kernel_rfl) e20 ne_tf (Grow.refl _) rfl
       ·intro w1 hg Ar seen
        have e20 := seen.de 20 125
        exact does_off rfl (by kernel_rfl) e20 ne_tf (Grow.refl _) rfl
       ·intro w1 hg Ar seen
        have e20 := seen.de 20 125
        exact does_off rfl (by kernel_rfl) e20 ne_tf (Grow.refl _) rfl
       ·intro w1 hg Ar seen
        have e20 := seen.de 20 125
        have e23 := seen.de 23 128
        refine does_plain rfl fun K Q' hK => ?_
        go_simp; exact hK _ _ (Grow.refl _) rfl
     intro w1 hg
     refine upon_w' (js := [0, 1, 2, 3, 4, 5, 6, 7, 8, 9, 10, 11, 12, 13, 14, 15, 16, 17, 18, 19, 20, 21, 22, 23, 24]) (by rfl) ?_
     refine upon_e (some 105) (upon_e (some 106) (upon_e (some 107) (upon_e (some 108) (upon_e (some 109) (upon_e (some 110) (upon_e (some 111) (upon_e (some 112) (upon_e (some 113) (upon_e (some 114) (upon_e (some 115) (upon_e (some 116) (upon_e (some 117) (upon_e (some 118) (upon_e (some 119) (upon_e (some 120) (upon_e (some 121) (upon_e (some 122) (upon_e (some 123) (upon_e (some 124) (upon_e (some 125) (upon_e (some 126) (upon_e (some 127) (upon_e (some 128) (upon_e (some 129) (upon_n ?_)))))))))))))))))))))))))
     go_simp
     have HB2 := hid (HB.out.below hg)
     clear hg
     go_wp2_with (first | (refine wpList_build_obj rfl 32 _ rfl #[] rfl _ (vBuild0 _) ?_) | (refine wpList_store_obj rfl 32 _ _ rfl (b + 1) rfl rvZ.arr rfl _ _ HB2.out.res rfl vSize (varr_one _) ?_; intro w10 hb10 hc10 hs10; have HB10 := hid hb10; have HC10 := hid hc10; clear hb10 hc10 hs10))
     refine bodyPost_ret (results_cell_tmp rfl _ _ (b + 1) _ _ _ _ rfl HB10.out Tryd.underlying32 rfl vSize _ rfl) rfl ?_
     rw [HE.out]
     exact ⟨rfl, by rw [HBE.out]; exact HB2.out.done HC10.out⟩
end Go.Proofs.YtbnbofooofedkaaDoor
