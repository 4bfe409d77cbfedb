/- resps.Read. -/
import Derived.Test.YteenglgnakenmaaDoorRsp5
namespace Go.Proofs.YteenglgnakenmaaDoor
open Go.RowKit
set_option linter.unusedVariables false
set_option linter.unusedSimpArgs false
set_option maxRecDepth 100000
set_option maxHeartbeats 3200000
def RsRead (r : Except Int Rs) (w : World) (e : Ending) (w' : World) : Prop :=
  match r with
  | .error c => e = .returned (.tuple #[.agg rpZ.arr, .int .i64 c]) ∧ Below w.heap.size w w'
  | .ok q => ∃ v : RsV, e = .returned (.tuple #[.agg v.arr, .int .i64 0]) ∧ v.rq = q ∧ v.ok w' ∧ Below w.heap.size w w'
theorem fBuildMany (t k : Int) (w : World) : (Instr.build 64 #[(0, .int .i64 t), (1, .int .i64 k), (3, .bool true)]).run Tryd.prog w = .ok (.agg (manyF t k).arr) w := by kernel_rfl
theorem readRsIs_app {l r : List Itm} {a : List RsI} (h : readRsIs l = .ok a) : readRsIs (l ++ r) = match readRsIs r with
    | .error c => .error c
    | .ok b => .ok (a ++ b) := by
  induction l generalizing a with
  | nil =>
    obtain rfl : [] = a := by injection h
    simp only [List.nil_append]
    cases readRsIs r <;> rfl
  | cons x t ih =>
    rw [readRsIs] at h
    rw [List.cons_append, readRsIs]
    cases hx : readRsI x with
    | error c => rw [hx] at h; cases h
    | ok y =>
      rw [hx] at h
      cases ht : readRsIs t with
      | error c => rw [ht] at h; cases h
      | ok b =>
        rw [ht] at h
        obtain rfl : y :: b = a := by injection h
        simp only [ih ht]
        cases readRsIs r <;> rfl
theorem readRsIs_one {l : List Itm} {a : List RsI} {k : Nat} {x : Itm} (h : readRsIs (l.take k) = .ok a) (hx : l[k]? = some x) : (∀ y, readRsI x = .ok y → readRsIs (l.take (k + 1)) = .ok (a ++ [y])) ∧ (∀ c, readRsI x = .error c → readRsIs l = .error c) := by
  constructor
  · intro y hy
    rw [List.take_add_one, hx, readRsIs_app h]
    simp [readRsIs, hy]
  · intro c hc
    rw [← List.take_append_drop k l, readRsIs_app h, List.drop_eq_getElem_cons (List.getElem?_eq_some_iff.1 hx).1, (List.getElem?_eq_some_iff.1 hx).2]
    simp [readRsIs, hc]
theorem parse_len {l : List Fld} {i : Itm} {r : List (List Itm)} (h : parseV l i = .ok r) : ∀ x ∈ r, x.length ≤ i.kids.length := by
  have step : ∀ (kids : List Itm) (st st' : Nat × List (List Itm)) (c : Nat), (∀ x ∈ st.2, x.length ≤ c) → kids.foldlM (parseStep l) st = .ok st' → ∀ x ∈ st'.2, x.length ≤ c + kids.length := by
    intro kids
    induction kids with
    | nil => intro st st' c hc h; cases h; simpa using hc
    | cons y t ih =>
      intro st st' c hc h
      rw [List.foldlM_cons] at h
      cases hs : parseStep l st y with
      | error e => rw [hs] at h; cases h
      | ok s1 =>
        rw [hs] at h
        have h1 : ∀ x ∈ s1.2, x.length ≤ c + 1 := by
          unfold parseStep at hs
          split at hs
          · cases hs
          · split at hs
            · cases hs
            · split at hs
              · cases hs
              · rename_i k _ _ _
                obtain rfl : _ = s1 := by injection hs
                intro x hx
                rcases List.mem_or_eq_of_mem_set hx with h' | h'
                · have := hc x h'; omega
                · rw [h', List.length_append]
                  have hle : (st.2.getD k []).length ≤ c := by
                    rw [List.getD_eq_getElem?_getD]
                    cases hg : st.2[k]? with
                    | none => simp
                    | some z => exact hc z (List.mem_of_getElem? hg)
                  simp only [List.length_cons, List.length_nil]; omega
        have := ih s1 st' (c + 1) h1 h
        intro x hx
        have := this x hx
        simp only [List.length_cons]; omega
  unfold parseV at h
  split at h
  · cases h
  · split at h
    · cases h
    · rename_i st hk
      split at h
      · cases h
      · simp only [Except.ok.injEq] at h
        subst h
        have := step _ _ _ 0 (fun x hx => by rw [List.eq_of_mem_replicate hx]; simp) hk
        simpa using this
theorem readRs_tag {i : Itm} (h : i.tag ≠ 4325499) : readRs i = .error 4 := by unfold readRs; rw [if_pos h]
theorem readRs_m {i : Itm} {c : Int} (h : i.tag = 4325499) (h1 : parseV rMsgF i = .error c) : readRs i = .error c := by unfold readRs; rw [if_neg (by simp [h]), h1]
theorem readRs_h {i : Itm} {c : Int} {m : List (List Itm)} (h : i.tag = 4325499) (h1 : parseV rMsgF i = .ok m) (h2 : parseV rHeadF (firstI (m.getD 0 [])) = .error c) : readRs i = .error c := by
  unfold readRs; rw [if_neg (by simp [h]), h1]; simp only [h2]
theorem readRs_v {i : Itm} {c : Int} {m h' : List (List Itm)} (h : i.tag = 4325499) (h1 : parseV rMsgF i = .ok m) (h2 : parseV rHeadF (firstI (m.getD 0 [])) = .ok h') (h3 : parseV rVerF (firstI (h'.getD 0 [])) = .error c) : readRs i = .error c := by
  unfold readRs; rw [if_neg (by simp [h]), h1]; simp only [h2, h3]
theorem readRs_i {i : Itm} {c : Int} {m h' v : List (List Itm)} (h : i.tag = 4325499) (h1 : parseV rMsgF i = .ok m) (h2 : parseV rHeadF (firstI (m.getD 0 [])) = .ok h') (h3 : parseV rVerF (firstI (h'.getD 0 [])) = .ok v) (h4 : readRsIs (m.getD 1 []) = .error c) : readRs i = .error c := by
  unfold readRs; rw [if_neg (by simp [h]), h1]; simp only [h2, h3, h4]
theorem readRs_q {i : Itm} {m h' v : List (List Itm)} {l : List RsI} (h : i.tag = 4325499) (h1 : parseV rMsgF i = .ok m) (h2 : parseV rHeadF (firstI (m.getD 0 [])) = .ok h') (h3 : parseV rVerF (firstI (h'.getD 0 [])) = .ok v) (h4 : readRsIs (m.getD 1 []) = .ok l) :
    readRs i = if numV (v.getD 0 []) 0 != 1 || numV (v.getD 1 []) 0 != 4 || numV (h'.getD 2 []) 0 != (l.length : Int) then .error 4 else .ok { time := (firstI (h'.getD 1 [])).int, items := l } := by
  unfold readRs; rw [if_neg (by simp [h]), h1]; simp only [h2, h3, h4]
theorem rread_any (v : ItV) (w : World) (hv : v.ok w) (hkid : v.it.kids.length ≤ 1000000) : Calls Tryd.prog 6 #[.agg v.arr] w (RsRead (readRs v.it) w) := by
  obtain ⟨i, hi, hz0, hz1, hz2⟩ := info_parts fInfo
  obtain ⟨iq, hiq, hy0, hy1, hy2⟩ := info_parts sInfo
  have HV := hid hv; have HKID := hid hkid
  clear hv hkid
  generalize hbe : w.heap.size = b
  have HBE := hid hbe; clear hbe
  have HTG : Hid (v.it.tag = v.tag) := by show _ = _; rw [ItV.it_eq]
  go_enter Tryd.func6, Tryd.ntmps6
  go_upto_region 1 with (refine wpList_alloc_obj rfl 25 rfl _ pZero ?_)
  go_simp
  have B0 := hid (Bx2.start (T := 30) (T' := 25) (cs := v.arr) (zs := rpZ.arr) (w := w) HBE.out)
  rw [HBE.out]
  have HV0 := hid (HV.out.below (((Below.refl _ w).alloc (Nat.le_refl _) (.cells v.arr 30)).alloc (by simp) (.cells rpZ.arr 25)))
  generalize (w.alloc (.cells v.arr 30)).alloc (.cells rpZ.arr 25) = W at *
  clear HV
  have c0 := cell_of_block (j := 0) B0.out.box (ar0 v)
  by_cases ht : v.tag = 4325499
  rotate_left
  · have hne : (v.tag == 4325499) = false := by simpa using ht
    have HE := hid (readRs_tag (i := v.it) (by rw [HTG.out]; exact ht))
    go_wp2_with (first | (refine wpList_build_obj rfl 25 _ rfl #[] rfl _ (pBuild0 _) ?_) | (refine wpList_store_obj rfl 25 _ _ rfl (b + 1) rfl rpZ.arr rfl _ _ B0.out.res rfl pSize (parr_one _) ?_; intro w10 hb10 hc10 hs10; have HB10 := hid hb10; have HC10 := hid hc10; clear hb10 hc10 hs10))
    refine bodyPost_ret (results_cell_tmp rfl _ _ (b + 1) _ _ _ _ rfl HB10.out Tryd.underlying25 rfl pSize _ rfl) rfl ?_
    rw [HE.out]
    exact ⟨rfl, by rw [HBE.out]; exact B0.out.done HC10.out⟩
  have HT : Hid (v.it.tag = 4325499) := HTG.out.trans ht
  go_upto_region 3 with (fail)
  clear c0 ht
  rcases hp1 : parseV rMsgF v.it with c | m
  · have HE := hid (readRs_m HT.out hp1)
    refine wp_region_each 10 [.eq (.agg v.arr), .eq (.agg (needF 4325498 1).arr), .eq (.agg (manyF 4325391 1).arr), stF rMsgF, .eq (.tuple #[.slice none 0 0, .int .i64 c]), .eq (.tuple #[.slice none 0 0, .int .i64 c]), .eq (.slice none 0 0), .eq (.int .i64 c), .eq (.slice none 0 0), .eq (.int .i64 c)] (by kernel_rfl) (by kernel_rfl) (by kernel_rfl) (by kernel_rfl) ?_ ?_
    · as_aux_lemma =>
        refine each_5 ?_ ?_ ?_ ?_ ?_ (each_5 ?_ ?_ ?_ ?_ ?_ (each_n))
        · intro w1 hg Ar seen
          have s1 := seen.sl 1 (.pointer (some ⟨b, 0, none⟩))
          refine does_plain rfl fun K Q' hK => ?_
          refine wp_load_row 30 _ rfl b (by simp [Act.eval, s1]) _ _ _ _ ((hg.block _ (block_lt B0.out.box)).trans B0.out.box) Tryd.underlying30 rfl iSize ?_
          exact hK _ _ (Grow.refl _) rfl
        · intro w1 hg Ar seen
          refine does_plain rfl fun K Q' hK => ?_
          go_simp
          refine (sneed_any _ _ _).mono ?_
          rintro e u ⟨rfl, hb⟩
          exact hK _ _ hb rfl
        · intro w1 hg Ar seen
          refine does_plain rfl fun K Q' hK => ?_
          refine wp_build_obj 64 _ rfl #[(0, .int .i64 4325391), (1, .int .i64 1), (3, .bool true)] (by simp [Act.eval]) _ (fBuildMany _ _ _) ?_
          exact hK _ _ (Grow.refl _) rfl
        · intro w1 hg Ar seen
          have e1 := seen.de 1 19
          have e2 := seen.de 2 20
          refine does_plain rfl fun K Q' hK => ?_
          refine wp_build_flds _ 64 2 _ rfl rMsgF rfl (by decide) (by decide) (by simp [Act.eval, e1, e2]; rfl) (fldCells rMsgF).toArray (by simp) i Tryd.underlying66 hi hz0 hz1 (by kernel_rfl) ?_
          intro s hs
          exact hK _ _ ((Below.refl _ _).alloc (Nat.le_refl _) _) ⟨s, rfl, hs⟩
        · intro w1 hg Ar seen
          have e0 := seen.de 0 18
          obtain ⟨v3, e3, h3⟩ := seen.dp 3 21
          refine does_plain rfl fun K Q' hK => ?_
          obtain ⟨sf, rfl, hsf⟩ := h3
          go_simp
          refine (parse_any v sf rMsgF _ (HV0.out.below hg) hsf).mono ?_
          intro e u hres
          obtain ⟨rfl, hb⟩ := parsed_err hres hp1
          exact hK _ _ hb rfl
        · intro w1 hg Ar seen
          have e4 := seen.de 4 22
          refine does_plain rfl fun K Q' hK => ?_
          go_simp; exact hK _ _ (Grow.refl _) rfl
        · intro w1 hg Ar seen
          have e5 := seen.de 5 17
          refine does_plain rfl fun K Q' hK => ?_
          go_simp; exact hK _ _ (Grow.refl _) rfl
        · intro w1 hg Ar seen
          have e5 := seen.de 5 17
          refine does_plain rfl fun K Q' hK => ?_
          go_simp; exact hK _ _ (Grow.refl _) rfl
        · intro w1 hg Ar seen
          have e6 := seen.de 6 23
          refine does_plain rfl fun K Q' hK => ?_
          go_simp; exact hK _ _ (Grow.refl _) rfl
        · intro w1 hg Ar seen
          have e7 := seen.de 7 24
          refine does_plain rfl fun K Q' hK => ?_
          go_simp; exact hK _ _ (Grow.refl _) rfl
    intro w1 hg
    refine upon_w' (js := [0, 1, 2, 3, 4, 5, 6, 7, 8, 9]) (by rfl) ?_
    refine upon_e (some 18) (upon_e (some 19) (upon_e (some 20) (upon_v (some 21) fun v3 h3 => upon_e (some 22) (upon_e (some 17) (upon_e (some 23) (upon_e (some 24) (upon_e (some 4) (upon_e (some 5) (upon_n ?_)))))))))
    go_simp
    have B1 := hid (B0.out.below hg)
    have hc := parse_code hp1
    have HC := hid hc
    clear hg hp1 B0 h3
    go_wp2_with (first | (refine wpList_build_obj rfl 25 _ rfl #[] rfl _ (pBuild0 _) ?_) | (refine wpList_store_obj rfl 25 _ _ rfl (b + 1) rfl rpZ.arr rfl _ _ B1.out.res rfl pSize (parr_one _) ?_; intro w10 hb10 hc10 hs10; have HB10 := hid hb10; have HC10 := hid hc10; clear hb10 hc10 hs10))
    refine bodyPost_ret (results_cell_tmp rfl _ _ (b + 1) _ _ _ _ rfl HB10.out Tryd.underlying25 rfl pSize _ rfl) rfl ?_
    rw [HE.out]
    exact ⟨rfl, by rw [HBE.out]; exact B1.out.done HC10.out⟩
  refine wp_region_each 10 [.eq (.agg v.arr), .eq (.agg (needF 4325498 1).arr), .eq (.agg (manyF 4325391 1).arr), stF rMsgF, stRowsT 28 30 (b + 2) (b + 2) m, stRowsT 28 30 (b + 2) (b + 2) m, stRows 28 30 (b + 2) (b + 2) m, .eq (.int .i64 0), stRows 28 30 (b + 2) (b + 2) m, .eq (.int .i64 0)] (by kernel_rfl) (by kernel_rfl) (by kernel_rfl) (by kernel_rfl) ?_ ?_
  · as_aux_lemma =>
      refine each_5 ?_ ?_ ?_ ?_ ?_ (each_5 ?_ ?_ ?_ ?_ ?_ (each_n))
      · intro w1 hg Ar seen
        have s1 := seen.sl 1 (.pointer (some ⟨b, 0, none⟩))
        refine does_plain rfl fun K Q' hK => ?_
        refine wp_load_row 30 _ rfl b (by simp [Act.eval, s1]) _ _ _ _ ((hg.block _ (block_lt B0.out.box)).trans B0.out.box) Tryd.underlying30 rfl iSize ?_
        exact hK _ _ (Grow.refl _) rfl
      · intro w1 hg Ar seen
        refine does_plain rfl fun K Q' hK => ?_
        go_simp
        refine (sneed_any _ _ _).mono ?_
        rintro e u ⟨rfl, hb⟩
        exact hK _ _ hb rfl
      · intro w1 hg Ar seen
        refine does_plain rfl fun K Q' hK => ?_
        refine wp_build_obj 64 _ rfl #[(0, .int .i64 4325391), (1, .int .i64 1), (3, .bool true)] (by simp [Act.eval]) _ (fBuildMany _ _ _) ?_
        exact hK _ _ (Grow.refl _) rfl
      · intro w1 hg Ar seen
        have e1 := seen.de 1 19
        have e2 := seen.de 2 20
        refine does_plain rfl fun K Q' hK => ?_
        refine wp_build_flds _ 64 2 _ rfl rMsgF rfl (by decide) (by decide) (by simp [Act.eval, e1, e2]; rfl) (fldCells rMsgF).toArray (by simp) i Tryd.underlying66 hi hz0 hz1 (by kernel_rfl) ?_
        intro s hs
        exact hK _ _ ((Below.refl _ _).alloc (Nat.le_refl _) _) ⟨s, rfl, hs⟩
      · intro w1 hg Ar seen
        have e0 := seen.de 0 18
        obtain ⟨v3, e3, h3⟩ := seen.dp 3 21
        obtain ⟨v1, e1, h1⟩ := seen.dp 1 19
        rcases h1 with rfl
        refine does_plain rfl fun K Q' hK => ?_
        obtain ⟨sf, rfl, hsf⟩ := h3
        go_simp
        refine (parse_any v sf rMsgF _ (HV0.out.below hg) hsf).mono ?_
        intro e u hres
        obtain ⟨so, rfl, h1, hb⟩ := parsed_ok hres hp1 (Nat.le_trans B0.out.size hg.size)
        exact hK _ _ hb ⟨so, rfl, h1⟩
      · intro w1 hg Ar seen
        obtain ⟨v4, e4, h4⟩ := seen.dp 4 22
        refine does_plain rfl fun K Q' hK => ?_
        go_simp
        exact hK _ _ (Grow.refl _) h4
      · intro w1 hg Ar seen
        obtain ⟨v5, e5, h5⟩ := seen.dp 5 17
        refine does_plain rfl fun K Q' hK => ?_
        obtain ⟨so, rfl, h1⟩ := h5
        go_simp
        exact hK _ _ (Grow.refl _) ⟨so, rfl, h1⟩
      · intro w1 hg Ar seen
        obtain ⟨v5, e5, h5⟩ := seen.dp 5 17
        refine does_plain rfl fun K Q' hK => ?_
        obtain ⟨so, rfl, h1⟩ := h5
        go_simp; exact hK _ _ (Grow.refl _) rfl
      · intro w1 hg Ar seen
        obtain ⟨v6, e6, h6⟩ := seen.dp 6 23
        refine does_plain rfl fun K Q' hK => ?_
        go_simp
        exact hK _ _ (Grow.refl _) h6
      · intro w1 hg Ar seen
        have e7 := seen.de 7 24
        refine does_plain rfl fun K Q' hK => ?_
        go_simp; exact hK _ _ (Grow.refl _) rfl
  intro w1 hg
  refine upon_w' (js := [0, 1, 2, 3, 4, 5, 6, 7, 8, 9]) (by rfl) ?_
  refine upon_e (some 18) (upon_e (some 19) (upon_e (some 20) (upon_v (some 21) fun v3 h3 => upon_v (some 22) fun v4 h4 => upon_v (some 17) fun v5 h5 => upon_v (some 23) fun v6 h6 => upon_e (some 24) (upon_v (some 4) fun v8 h8 => upon_e (some 5) (upon_n ?_)))))
  go_simp
  obtain ⟨so, rfl, hrow⟩ := h8
  clear h3 h4 h5 h6
  have B1 := hid (B0.out.below hg)
  have HRW := hid hrow
  clear hrow hg B0
  have hpr := parse_rows hp1
  obtain ⟨hrl, hneed⟩ := hpr
  obtain ⟨m0, m1, rfl⟩ := rows2 hrl
  obtain ⟨x0, t0, hx0⟩ := hneed 0 _ rfl rfl
  simp only [List.getElem?_cons_zero, Option.some.injEq] at hx0
  subst hx0
  obtain ⟨gm, cm, rfl⟩ := HRW.out.shape (by simp)
  have HM := HRW
  have HK6 : Hid (m1.length ≤ 1000000) := Nat.le_trans (parse_len hp1 m1 (by simp)) HKID.out
  clear hrl hneed HRW
  obtain ⟨s0, l0, g0, vh, -, -, hc0, ha0, hn0, rfl, hr0, ho0, -⟩ := HM.out.hd (k := 0) rfl
  rw [ha0] at hc0
  have HC0 := hid hc0; have HR0 := hid hr0; have HO0 := hid ho0; have HN0 := hid hn0
  clear hc0 ha0 hr0 ho0 hn0
  go_upto_region 6 with (fail)
  rcases hp2 : parseV rHeadF vh.it with c | h
  · have HE := hid (readRs_h HT.out hp1 hp2)
    refine wp_region_each 15 [.eq (.slice (some ⟨gm, 0, none⟩) 2 cm), .eq (.pointer (some ⟨gm, 0, none⟩)), .eq (.slice (some ⟨g0, 0, none⟩) s0.n s0.c), .eq (.pointer (some ⟨g0, 0, none⟩)), .eq (.agg vh.arr), .eq (.agg (needF 4325481 1).arr), .eq (.agg (needF 4325522 9).arr), .eq (.agg (needF 4325389 2).arr), stF rHeadF, .eq (.tuple #[.slice none 0 0, .int .i64 c]), .eq (.tuple #[.slice none 0 0, .int .i64 c]), .eq (.slice none 0 0), .eq (.int .i64 c), .eq (.slice none 0 0), .eq (.int .i64 c)] (by kernel_rfl) (by kernel_rfl) (by kernel_rfl) (by kernel_rfl) ?_ ?_
    · as_aux_lemma =>
        refine each_5 ?_ ?_ ?_ ?_ ?_ (each_5 ?_ ?_ ?_ ?_ ?_ (each_5 ?_ ?_ ?_ ?_ ?_ (each_n)))
        · intro w1 hg Ar seen
          have s4 := seen.sl 4 (.slice (some ⟨gm, 0, none⟩) 2 cm)
          refine does_plain rfl fun K Q' hK => ?_
          go_simp; exact hK _ _ (Grow.refl _) rfl
        · intro w1 hg Ar seen
          have e0 := seen.de 0 30
          refine does_plain rfl fun K Q' hK => ?_
          go_simp; exact hK _ _ (Grow.refl _) rfl
        · intro w1 hg Ar seen
          have e1 := seen.de 1 31
          refine does_plain rfl fun K Q' hK => ?_
          have hc := cell_later hg HC0.out
          go_simp; exact hK _ _ (Grow.refl _) rfl
        · intro w1 hg Ar seen
          have e2 := seen.de 2 32
          refine does_plain rfl fun K Q' hK => ?_
          have hn := HN0.out
          go_simp; exact hK _ _ (Grow.refl _) rfl
        · intro w1 hg Ar seen
          have e3 := seen.de 3 33
          refine does_plain rfl fun K Q' hK => ?_
          refine wp_load_mid 30 _ rfl g0 0 (by simp [Act.eval, e3]) vh.arr.toList _ (range_later hg HR0.out) Tryd.underlying30 rfl iSize ?_
          exact hK _ _ (Grow.refl _) rfl
        · intro w1 hg Ar seen
          refine does_plain rfl fun K Q' hK => ?_
          go_simp
          refine (sneed_any _ _ _).mono ?_
          rintro e u ⟨rfl, hb⟩
          exact hK _ _ hb rfl
        · intro w1 hg Ar seen
          refine does_plain rfl fun K Q' hK => ?_
          go_simp
          refine (sneed_any _ _ _).mono ?_
          rintro e u ⟨rfl, hb⟩
          exact hK _ _ hb rfl
        · intro w1 hg Ar seen
          refine does_plain rfl fun K Q' hK => ?_
          go_simp
          refine (sneed_any _ _ _).mono ?_
          rintro e u ⟨rfl, hb⟩
          exact hK _ _ hb rfl
        · intro w1 hg Ar seen
          have e5 := seen.de 5 35
          have e6 := seen.de 6 36
          have e7 := seen.de 7 37
          refine does_plain rfl fun K Q' hK => ?_
          refine wp_build_flds _ 64 3 _ rfl rHeadF rfl (by decide) (by decide) (by simp [Act.eval, e5, e6, e7]; rfl) (fldCells rHeadF).toArray (by simp) i Tryd.underlying66 hi hz0 hz1 (by kernel_rfl) ?_
          intro s hs
          exact hK _ _ ((Below.refl _ _).alloc (Nat.le_refl _) _) ⟨s, rfl, hs⟩
        · intro w1 hg Ar seen
          have e4 := seen.de 4 34
          obtain ⟨v8, e8, h8⟩ := seen.dp 8 38
          refine does_plain rfl fun K Q' hK => ?_
          obtain ⟨sf, rfl, hsf⟩ := h8
          go_simp
          refine (parse_any vh sf rHeadF _ (HO0.out.below hg) hsf).mono ?_
          intro e u hres
          obtain ⟨rfl, hb⟩ := parsed_err hres hp2
          exact hK _ _ hb rfl
        · intro w1 hg Ar seen
          have e9 := seen.de 9 39
          refine does_plain rfl fun K Q' hK => ?_
          go_simp; exact hK _ _ (Grow.refl _) rfl
        · intro w1 hg Ar seen
          have e10 := seen.de 10 29
          refine does_plain rfl fun K Q' hK => ?_
          go_simp; exact hK _ _ (Grow.refl _) rfl
        · intro w1 hg Ar seen
          have e10 := seen.de 10 29
          refine does_plain rfl fun K Q' hK => ?_
          go_simp; exact hK _ _ (Grow.refl _) rfl
        · intro w1 hg Ar seen
          have e11 := seen.de 11 40
          refine does_plain rfl fun K Q' hK => ?_
          go_simp; exact hK _ _ (Grow.refl _) rfl
        · intro w1 hg Ar seen
          have e12 := seen.de 12 41
          refine does_plain rfl fun K Q' hK => ?_
          go_simp; exact hK _ _ (Grow.refl _) rfl
    intro w1 hg
    refine upon_w' (js := [0, 1, 2, 3, 4, 5, 6, 7, 8, 9, 10, 11, 12, 13, 14]) (by rfl) ?_
    refine upon_e (some 30) (upon_e (some 31) (upon_e (some 32) (upon_e (some 33) (upon_e (some 34) (upon_e (some 35) (upon_e (some 36) (upon_e (some 37) (upon_v (some 38) fun v8 h8 => upon_e (some 39) (upon_e (some 29) (upon_e (some 40) (upon_e (some 41) (upon_e (some 6) (upon_e (some 5) (upon_n ?_))))))))))))))
    go_simp
    have B2 := hid (B1.out.below hg)
    have hc := parse_code hp2
    have HC := hid hc
    clear hg hp2 B1 h8
    go_wp2_with (first | (refine wpList_build_obj rfl 25 _ rfl #[] rfl _ (pBuild0 _) ?_) | (refine wpList_store_obj rfl 25 _ _ rfl (b + 1) rfl rpZ.arr rfl _ _ B2.out.res rfl pSize (parr_one _) ?_; intro w10 hb10 hc10 hs10; have HB10 := hid hb10; have HC10 := hid hc10; clear hb10 hc10 hs10))
    refine bodyPost_ret (results_cell_tmp rfl _ _ (b + 1) _ _ _ _ rfl HB10.out Tryd.underlying25 rfl pSize _ rfl) rfl ?_
    rw [HE.out]
    exact ⟨rfl, by rw [HBE.out]; exact B2.out.done HC10.out⟩
  refine wp_region_each 15 [.eq (.slice (some ⟨gm, 0, none⟩) 2 cm), .eq (.pointer (some ⟨gm, 0, none⟩)), .eq (.slice (some ⟨g0, 0, none⟩) s0.n s0.c), .eq (.pointer (some ⟨g0, 0, none⟩)), .eq (.agg vh.arr), .eq (.agg (needF 4325481 1).arr), .eq (.agg (needF 4325522 9).arr), .eq (.agg (needF 4325389 2).arr), stF rHeadF, stRowsT 28 30 (b + 2) (b + 2) h, stRowsT 28 30 (b + 2) (b + 2) h, stRows 28 30 (b + 2) (b + 2) h, .eq (.int .i64 0), stRows 28 30 (b + 2) (b + 2) h, .eq (.int .i64 0)] (by kernel_rfl) (by kernel_rfl) (by kernel_rfl) (by kernel_rfl) ?_ ?_
  · as_aux_lemma =>
      refine each_5 ?_ ?_ ?_ ?_ ?_ (each_5 ?_ ?_ ?_ ?_ ?_ (each_5 ?_ ?_ ?_ ?_ ?_ (each_n)))
      · intro w1 hg Ar seen
        have s4 := seen.sl 4 (.slice (some ⟨gm, 0, none⟩) 2 cm)
        refine does_plain rfl fun K Q' hK => ?_
        go_simp; exact hK _ _ (Grow.refl _) rfl
      · intro w1 hg Ar seen
        have e0 := seen.de 0 30
        refine does_plain rfl fun K Q' hK => ?_
        go_simp; exact hK _ _ (Grow.refl _) rfl
      · intro w1 hg Ar seen
        have e1 := seen.de 1 31
        refine does_plain rfl fun K Q' hK => ?_
        have hc := cell_later hg HC0.out
        go_simp; exact hK _ _ (Grow.refl _) rfl
      · intro w1 hg Ar seen
        have e2 := seen.de 2 32
        refine does_plain rfl fun K Q' hK => ?_
        have hn := HN0.out
        go_simp; exact hK _ _ (Grow.refl _) rfl
      · intro w1 hg Ar seen
        have e3 := seen.de 3 33
        refine does_plain rfl fun K Q' hK => ?_
        refine wp_load_mid 30 _ rfl g0 0 (by simp [Act.eval, e3]) vh.arr.toList _ (range_later hg HR0.out) Tryd.underlying30 rfl iSize ?_
        exact hK _ _ (Grow.refl _) rfl
      · intro w1 hg Ar seen
        refine does_plain rfl fun K Q' hK => ?_
        go_simp
        refine (sneed_any _ _ _).mono ?_
        rintro e u ⟨rfl, hb⟩
        exact hK _ _ hb rfl
      · intro w1 hg Ar seen
        refine does_plain rfl fun K Q' hK => ?_
        go_simp
        refine (sneed_any _ _ _).mono ?_
        rintro e u ⟨rfl, hb⟩
        exact hK _ _ hb rfl
      · intro w1 hg Ar seen
        refine does_plain rfl fun K Q' hK => ?_
        go_simp
        refine (sneed_any _ _ _).mono ?_
        rintro e u ⟨rfl, hb⟩
        exact hK _ _ hb rfl
      · intro w1 hg Ar seen
        have e5 := seen.de 5 35
        have e6 := seen.de 6 36
        have e7 := seen.de 7 37
        refine does_plain rfl fun K Q' hK => ?_
        refine wp_build_flds _ 64 3 _ rfl rHeadF rfl (by decide) (by decide) (by simp [Act.eval, e5, e6, e7]; rfl) (fldCells rHeadF).toArray (by simp) i Tryd.underlying66 hi hz0 hz1 (by kernel_rfl) ?_
        intro s hs
        exact hK _ _ ((Below.refl _ _).alloc (Nat.le_refl _) _) ⟨s, rfl, hs⟩
      · intro w1 hg Ar seen
        have e4 := seen.de 4 34
        obtain ⟨v8, e8, h8⟩ := seen.dp 8 38
        refine does_plain rfl fun K Q' hK => ?_
        obtain ⟨sf, rfl, hsf⟩ := h8
        go_simp
        refine (parse_any vh sf rHeadF _ (HO0.out.below hg) hsf).mono ?_
        intro e u hres
        obtain ⟨so, rfl, h1, hb⟩ := parsed_ok hres hp2 (Nat.le_trans B1.out.size hg.size)
        exact hK _ _ hb ⟨so, rfl, h1⟩
      · intro w1 hg Ar seen
        obtain ⟨v9, e9, h9⟩ := seen.dp 9 39
        refine does_plain rfl fun K Q' hK => ?_
        go_simp
        exact hK _ _ (Grow.refl _) h9
      · intro w1 hg Ar seen
        obtain ⟨v10, e10, h10⟩ := seen.dp 10 29
        refine does_plain rfl fun K Q' hK => ?_
        obtain ⟨so, rfl, h1⟩ := h10
        go_simp
        exact hK _ _ (Grow.refl _) ⟨so, rfl, h1⟩
      · intro w1 hg Ar seen
        obtain ⟨v10, e10, h10⟩ := seen.dp 10 29
        refine does_plain rfl fun K Q' hK => ?_
        obtain ⟨so, rfl, h1⟩ := h10
        go_simp; exact hK _ _ (Grow.refl _) rfl
      · intro w1 hg Ar seen
        obtain ⟨v11, e11, h11⟩ := seen.dp 11 40
        refine does_plain rfl fun K Q' hK => ?_
        go_simp
        exact hK _ _ (Grow.refl _) h11
      · intro w1 hg Ar seen
        have e12 := seen.de 12 41
        refine does_plain rfl fun K Q' hK => ?_
        go_simp; exact hK _ _ (Grow.refl _) rfl
  intro w1 hg
  refine upon_w' (js := [0, 1, 2, 3, 4, 5, 6, 7, 8, 9, 10, 11, 12, 13, 14]) (by rfl) ?_
  refine upon_e (some 30) (upon_e (some 31) (upon_e (some 32) (upon_e (some 33) (upon_e (some 34) (upon_e (some 35) (upon_e (some 36) (upon_e (some 37) (upon_v (some 38) fun v8 h8 => upon_v (some 39) fun v9 h9 => upon_v (some 29) fun v10 h10 => upon_v (some 40) fun v11 h11 => upon_e (some 41) (upon_v (some 6) fun v13 h13 => upon_e (some 5) (upon_n ?_))))))))))
  go_simp
  obtain ⟨so, rfl, hrow⟩ := h13
  clear h8 h9 h10 h11
  have B2 := hid (B1.out.below hg)
  have HM2 := hid (HM.out.below hg)
  have HRW := hid hrow
  clear hrow hg B1 HM
  have hpr := parse_rows hp2
  obtain ⟨hrl, hneed⟩ := hpr
  obtain ⟨y0, y1, y2, rfl⟩ := rows3 hrl
  obtain ⟨x0, u0, hx0⟩ := hneed 0 _ rfl rfl
  obtain ⟨x1, u1, hx1⟩ := hneed 1 _ rfl rfl
  simp only [List.getElem?_cons_zero, List.getElem?_cons_succ, Option.some.injEq] at hx0 hx1
  subst hx0; subst hx1
  obtain ⟨gh, ch, rfl⟩ := HRW.out.shape (by simp)
  have HH := HRW
  clear hrl hneed HRW HC0 HR0 HO0 HN0
  obtain ⟨s0, l0, g0, vv, -, -, hc0, ha0, hn0, rfl, hr0, ho0, -⟩ := HH.out.hd (k := 0) rfl
  rw [ha0] at hc0
  have HC0 := hid hc0; have HR0 := hid hr0; have HO0 := hid ho0; have HN0 := hid hn0
  clear hc0 ha0 hr0 ho0 hn0
  go_upto_region 9 with (fail)
  rcases hp3 : parseV rVerF vv.it with c | n
  · have HE := hid (readRs_v HT.out hp1 hp2 hp3)
    refine wp_region_each 14 [.eq (.slice (some ⟨gh, 0, none⟩) 3 ch), .eq (.pointer (some ⟨gh, 0, none⟩)), .eq (.slice (some ⟨g0, 0, none⟩) s0.n s0.c), .eq (.pointer (some ⟨g0, 0, none⟩)), .eq (.agg vv.arr), .eq (.agg (needF 4325482 2).arr), .eq (.agg (needF 4325483 2).arr), stF rVerF, .eq (.tuple #[.slice none 0 0, .int .i64 c]), .eq (.tuple #[.slice none 0 0, .int .i64 c]), .eq (.slice none 0 0), .eq (.int .i64 c), .eq (.slice none 0 0), .eq (.int .i64 c)] (by kernel_rfl) (by kernel_rfl) (by kernel_rfl) (by kernel_rfl) ?_ ?_
    · as_aux_lemma =>
        refine each_5 ?_ ?_ ?_ ?_ ?_ (each_5 ?_ ?_ ?_ ?_ ?_ (each_c ?_ (each_c ?_ (each_c ?_ (each_c ?_ (each_n))))))
        · intro w1 hg Ar seen
          have s6 := seen.sl 6 (.slice (some ⟨gh, 0, none⟩) 3 ch)
          refine does_plain rfl fun K Q' hK => ?_
          go_simp; exact hK _ _ (Grow.refl _) rfl
        · intro w1 hg Ar seen
          have e0 := seen.de 0 47
          refine does_plain rfl fun K Q' hK => ?_
          go_simp; exact hK _ _ (Grow.refl _) rfl
        · intro w1 hg Ar seen
          have e1 := seen.de 1 48
          refine does_plain rfl fun K Q' hK => ?_
          have hc := cell_later hg HC0.out
          go_simp; exact hK _ _ (Grow.refl _) rfl
        · intro w1 hg Ar seen
          have e2 := seen.de 2 49
          refine does_plain rfl fun K Q' hK => ?_
          have hn := HN0.out
          go_simp; exact hK _ _ (Grow.refl _) rfl
        · intro w1 hg Ar seen
          have e3 := seen.de 3 50
          refine does_plain rfl fun K Q' hK => ?_
          refine wp_load_mid 30 _ rfl g0 0 (by simp [Act.eval, e3]) vv.arr.toList _ (range_later hg HR0.out) Tryd.underlying30 rfl iSize ?_
          exact hK _ _ (Grow.refl _) rfl
        · intro w1 hg Ar seen
          refine does_plain rfl fun K Q' hK => ?_
          go_simp
          refine (sneed_any _ _ _).mono ?_
          rintro e u ⟨rfl, hb⟩
          exact hK _ _ hb rfl
        · intro w1 hg Ar seen
          refine does_plain rfl fun K Q' hK => ?_
          go_simp
          refine (sneed_any _ _ _).mono ?_
          rintro e u ⟨rfl, hb⟩
          exact hK _ _ hb rfl
        · intro w1 hg Ar seen
          have e5 := seen.de 5 52
          have e6 := seen.de 6 53
          refine does_plain rfl fun K Q' hK => ?_
          refine wp_build_flds _ 64 2 _ rfl rVerF rfl (by decide) (by decide) (by simp [Act.eval, e5, e6]; rfl) (fldCells rVerF).toArray (by simp) i Tryd.underlying66 hi hz0 hz1 (by kernel_rfl) ?_
          intro s hs
          exact hK _ _ ((Below.refl _ _).alloc (Nat.le_refl _) _) ⟨s, rfl, hs⟩
        · intro w1 hg Ar seen
          have e4 := seen.de 4 51
          obtain ⟨v7, e7, h7⟩ := seen.dp 7 54
          refine does_plain rfl fun K Q' hK => ?_
          obtain ⟨sf, rfl, hsf⟩ := h7
          go_simp
          refine (parse_any vv sf rVerF _ (HO0.out.below hg) hsf).mono ?_
          intro e u hres
          obtain ⟨rfl, hb⟩ := parsed_err hres hp3
          exact hK _ _ hb rfl
        · intro w1 hg Ar seen
          have e8 := seen.de 8 55
          refine does_plain rfl fun K Q' hK => ?_
          go_simp; exact hK _ _ (Grow.refl _) rfl
        · intro w1 hg Ar seen
          have e9 := seen.de 9 46
          refine does_plain rfl fun K Q' hK => ?_
          go_simp; exact hK _ _ (Grow.refl _) rfl
        · intro w1 hg Ar seen
          have e9 := seen.de 9 46
          refine does_plain rfl fun K Q' hK => ?_
          go_simp; exact hK _ _ (Grow.refl _) rfl
        · intro w1 hg Ar seen
          have e10 := seen.de 10 56
          refine does_plain rfl fun K Q' hK => ?_
          go_simp; exact hK _ _ (Grow.refl _) rfl
        · intro w1 hg Ar seen
          have e11 := seen.de 11 57
          refine does_plain rfl fun K Q' hK => ?_
          go_simp; exact hK _ _ (Grow.refl _) rfl
    intro w1 hg
    refine upon_w' (js := [0, 1, 2, 3, 4, 5, 6, 7, 8, 9, 10, 11, 12, 13]) (by rfl) ?_
    refine upon_e (some 47) (upon_e (some 48) (upon_e (some 49) (upon_e (some 50) (upon_e (some 51) (upon_e (some 52) (upon_e (some 53) (upon_v (some 54) fun v7 h7 => upon_e (some 55) (upon_e (some 46) (upon_e (some 56) (upon_e (some 57) (upon_e (some 7) (upon_e (some 5) (upon_n ?_)))))))))))))
    go_simp
    have B3 := hid (B2.out.below hg)
    have hc := parse_code hp3
    have HC := hid hc
    clear hg hp3 B2 h7
    go_wp2_with (first | (refine wpList_build_obj rfl 25 _ rfl #[] rfl _ (pBuild0 _) ?_) | (refine wpList_store_obj rfl 25 _ _ rfl (b + 1) rfl rpZ.arr rfl _ _ B3.out.res rfl pSize (parr_one _) ?_; intro w10 hb10 hc10 hs10; have HB10 := hid hb10; have HC10 := hid hc10; clear hb10 hc10 hs10))
    refine bodyPost_ret (results_cell_tmp rfl _ _ (b + 1) _ _ _ _ rfl HB10.out Tryd.underlying25 rfl pSize _ rfl) rfl ?_
    rw [HE.out]
    exact ⟨rfl, by rw [HBE.out]; exact B3.out.done HC10.out⟩
  refine wp_region_each 14 [.eq (.slice (some ⟨gh, 0, none⟩) 3 ch), .eq (.pointer (some ⟨gh, 0, none⟩)), .eq (.slice (some ⟨g0, 0, none⟩) s0.n s0.c), .eq (.pointer (some ⟨g0, 0, none⟩)), .eq (.agg vv.arr), .eq (.agg (needF 4325482 2).arr), .eq (.agg (needF 4325483 2).arr), stF rVerF, stRowsT 28 30 (b + 2) (b + 2) n, stRowsT 28 30 (b + 2) (b + 2) n, stRows 28 30 (b + 2) (b + 2) n, .eq (.int .i64 0), stRows 28 30 (b + 2) (b + 2) n, .eq (.int .i64 0)] (by kernel_rfl) (by kernel_rfl) (by kernel_rfl) (by kernel_rfl) ?_ ?_
  · as_aux_lemma =>
      refine each_5 ?_ ?_ ?_ ?_ ?_ (each_5 ?_ ?_ ?_ ?_ ?_ (each_c ?_ (each_c ?_ (each_c ?_ (each_c ?_ (each_n))))))
      · intro w1 hg Ar seen
        have s6 := seen.sl 6 (.slice (some ⟨gh, 0, none⟩) 3 ch)
        refine does_plain rfl fun K Q' hK => ?_
        go_simp; exact hK _ _ (Grow.refl _) rfl
      · intro w1 hg Ar seen
        have e0 := seen.de 0 47
        refine does_plain rfl fun K Q' hK => ?_
        go_simp; exact hK _ _ (Grow.refl _) rfl
      · intro w1 hg Ar seen
        have e1 := seen.de 1 48
        refine does_plain rfl fun K Q' hK => ?_
        have hc := cell_later hg HC0.out
        go_simp; exact hK _ _ (Grow.refl _) rfl
      · intro w1 hg Ar seen
        have e2 := seen.de 2 49
        refine does_plain rfl fun K Q' hK => ?_
        have hn := HN0.out
        go_simp; exact hK _ _ (Grow.refl _) rfl
      · intro w1 hg Ar seen
        have e3 := seen.de 3 50
        refine does_plain rfl fun K Q' hK => ?_
        refine wp_load_mid 30 _ rfl g0 0 (by simp [Act.eval, e3]) vv.arr.toList _ (range_later hg HR0.out) Tryd.underlying30 rfl iSize ?_
        exact hK _ _ (Grow.refl _) rfl
      · intro w1 hg Ar seen
        refine does_plain rfl fun K Q' hK => ?_
        go_simp
        refine (sneed_any _ _ _).mono ?_
        rintro e u ⟨rfl, hb⟩
        exact hK _ _ hb rfl
      · intro w1 hg Ar seen
        refine does_plain rfl fun K Q' hK => ?_
        go_simp
        refine (sneed_any _ _ _).mono ?_
        rintro e u ⟨rfl, hb⟩
        exact hK _ _ hb rfl
      · intro w1 hg Ar seen
        have e5 := seen.de 5 52
        have e6 := seen.de 6 53
        refine does_plain rfl fun K Q' hK => ?_
        refine wp_build_flds _ 64 2 _ rfl rVerF rfl (by decide) (by decide) (by simp [Act.eval, e5, e6]; rfl) (fldCells rVerF).toArray (by simp) i Tryd.underlying66 hi hz0 hz1 (by kernel_rfl) ?_
        intro s hs
        exact hK _ _ ((Below.refl _ _).alloc (Nat.le_refl _) _) ⟨s, rfl, hs⟩
      · intro w1 hg Ar seen
        have e4 := seen.de 4 51
        obtain ⟨v7, e7, h7⟩ := seen.dp 7 54
        refine does_plain rfl fun K Q' hK => ?_
        obtain ⟨sf, rfl, hsf⟩ := h7
        go_simp
        refine (parse_any vv sf rVerF _ (HO0.out.below hg) hsf).mono ?_
        intro e u hres
        obtain ⟨so, rfl, h1, hb⟩ := parsed_ok hres hp3 (Nat.le_trans B2.out.size hg.size)
        exact hK _ _ hb ⟨so, rfl, h1⟩
      · intro w1 hg Ar seen
        obtain ⟨v8, e8, h8⟩ := seen.dp 8 55
        refine does_plain rfl fun K Q' hK => ?_
        go_simp
        exact hK _ _ (Grow.refl _) h8
      · intro w1 hg Ar seen
        obtain ⟨v9, e9, h9⟩ := seen.dp 9 46
        refine does_plain rfl fun K Q' hK => ?_
        obtain ⟨so, rfl, h1⟩ := h9
        go_simp
        exact hK _ _ (Grow.refl _) ⟨so, rfl, h1⟩
      · intro w1 hg Ar seen
        obtain ⟨v9, e9, h9⟩ := seen.dp 9 46
        refine does_plain rfl fun K Q' hK => ?_
        obtain ⟨so, rfl, h1⟩ := h9
        go_simp; exact hK _ _ (Grow.refl _) rfl
      · intro w1 hg Ar seen
        obtain ⟨v10, e10, h10⟩ := seen.dp 10 56
        refine does_plain rfl fun K Q' hK => ?_
        go_simp
        exact hK _ _ (Grow.refl _) h10
      · intro w1 hg Ar seen
        have e11 := seen.de 11 57
        refine does_plain rfl fun K Q' hK => ?_
        go_simp; exact hK _ _ (Grow.refl _) rfl
  intro w1 hg
  refine upon_w' (js := [0, 1, 2, 3, 4, 5, 6, 7, 8, 9, 10, 11, 12, 13]) (by rfl) ?_
  refine upon_e (some 47) (upon_e (some 48) (upon_e (some 49) (upon_e (some 50) (upon_e (some 51) (upon_e (some 52) (upon_e (some 53) (upon_v (some 54) fun v7 h7 => upon_v (some 55) fun v8 h8 => upon_v (some 46) fun v9 h9 => upon_v (some 56) fun v10 h10 => upon_e (some 57) (upon_v (some 7) fun v12 h12 => upon_e (some 5) (upon_n ?_)))))))))
  go_simp
  obtain ⟨so, rfl, hrow⟩ := h12
  clear h7 h8 h9 h10
  have B3 := hid (B2.out.below hg)
  have HM3 := hid (HM2.out.below hg)
  have HH3 := hid (HH.out.below hg)
  have HRW := hid hrow
  clear hrow hg B2 HM2 HH
  have hpr := parse_rows hp3
  obtain ⟨hrl, hneed⟩ := hpr
  obtain ⟨z0, z1, rfl⟩ := rows2 hrl
  obtain ⟨gv, cv, rfl⟩ := HRW.out.shape (by simp)
  have HN3 := HRW
  clear hrl hneed HRW HC0 HR0 HO0 HN0
  obtain ⟨sa, la, hma, hsa, hca, -, -⟩ := HN3.out.an (k := 0) rfl
  obtain ⟨sb, lb, hmb, hsb, hcb, -, -⟩ := HN3.out.an (k := 1) rfl
  obtain ⟨sc, lc, gt, vt, -, -, hct, hat, hnt, rfl, hrt, -, -⟩ := HH3.out.hd (k := 1) rfl
  obtain ⟨se, le, hme, hse, hce, -, -⟩ := HH3.out.an (k := 2) rfl
  obtain ⟨s1, l1, hm1, hs1, hc1, hn1, hall1⟩ := HM3.out.an (k := 1) rfl
  rw [hat] at hct
  have HMA := hid hma; have HSA := hid hsa; have HCA := hid hca; have HMB := hid hmb; have HSB := hid hsb; have HCB := hid hcb
  have HME := hid hme; have HSE := hid hse; have HCE := hid hce
  have HM1 := hid hm1; have HS1 := hid hs1; have HC1 := hid hc1; have HN1 := hid hn1; have HA1 := hid hall1
  have HRV := hid (fun (l : List RsI) => readRs_q (l := l) HT.out hp1 hp2 hp3)
  have HRE := hid (fun (c : Int) => readRs_i (c := c) HT.out hp1 hp2 hp3)
  simp only [List.getD_cons_zero, List.getD_cons_succ] at HRV HRE
  have htm : (firstI (vt.it :: u1)).int = vt.int := by unfold firstI; rw [List.headD_cons, ItV.it_eq]
  rw [htm] at HRV
  obtain ⟨tm, htm2⟩ : ∃ t, vt.int = t := ⟨_, rfl⟩
  have hk2 := range_cell hrt 2 (v := .int .i64 vt.int) rfl
  rw [htm2] at HRV hk2
  rw [Nat.zero_add] at hk2
  clear hma hsa hca hmb hsb hcb hme hse hce hm1 hs1 hc1 hn1 hall1 HM3 HH3 HN3 hp1 hp2 hp3 HTG HT htm htm2 hrt hat
  go_upto_region 12 with (fail)
  obtain ⟨W3, hw3⟩ : ∃ W, W = w1 := ⟨_, rfl⟩
  subst hw3
  obtain ⟨z, hzw⟩ : ∃ z, z = W3.heap.size := ⟨_, rfl⟩
  have HZW := hid hzw
  have HBZ : Hid (b + 2 ≤ z) := by show _ ≤ _; rw [hzw]; exact B3.out.size
  clear hzw
  obtain ⟨n0, hq⟩ : ∃ n, numV z0 0 = n := ⟨_, rfl⟩
  have En0 : Hid (numV (la.map ItV.it) 0 = n0) := by show _ = _; rw [HMA.out]; exact hq
  rw [hq] at HRV
  clear hq
  obtain ⟨n1, hq⟩ : ∃ n, numV z1 0 = n := ⟨_, rfl⟩
  have En1 : Hid (numV (lb.map ItV.it) 0 = n1) := by show _ = _; rw [HMB.out]; exact hq
  rw [hq] at HRV
  clear hq
  obtain ⟨n4, hq⟩ : ∃ n, numV y2 0 = n := ⟨_, rfl⟩
  have En4 : Hid (numV (le.map ItV.it) 0 = n4) := by show _ = _; rw [HME.out]; exact hq
  rw [hq] at HRV
  clear hq
  go_upto_region 13 with (first | (refine wpList_build_obj rfl 25 _ rfl #[(0, .int .i64 tm)] rfl _ (pBuild1 tm _) ?_) | (refine wpList_alloc_obj rfl 25 rfl _ pZero ?_) | (refine wpList_store_obj rfl 25 _ _ rfl W3.heap.size rfl (RsV.arr { time := tm }) rfl _ _ (block_new W3 _) rfl pSize (parr_one _) ?_; intro w4 hb4 hc4 hs4; have HB4 := hid hb4; have HC4 := hid hc4; clear hb4 hc4 hs4))
  clear hct hk2 hnt
  have hbel : Below W3.heap.size W3 w4 := ((Below.refl _ W3).alloc (Nat.le_refl _) _).trans (HC4.out.below (fun k hk => by rw [List.mem_singleton.1 hk]; exact Nat.le_refl _) (by simp))
  have HBW : Hid (Below z W3 w4) := by show Below z W3 w4; rw [HZW.out]; exact hbel
  have hps : W3.heap.size < w4.heap.size := block_lt HB4.out
  have hc := cell_later hbel HC1.out
  obtain ⟨p, hpz⟩ : ∃ p, p = W3.heap.size := ⟨_, rfl⟩
  have HZP : Hid (z ≤ p) := by show z ≤ p; rw [HZW.out, hpz]; exact Nat.le_refl _
  obtain ⟨z4, hz4⟩ : ∃ z, z = w4.heap.size := ⟨_, rfl⟩
  have HZ4 := hid hz4
  have HPZ : Hid (p < z4) := by show p < z4; rw [hz4, hpz]; exact hps
  rw [← hpz] at HB4 ⊢
  clear hbel hps hz4 HC4 HMA HMB HME HC1 hpz
  obtain ⟨ka, kn, kc⟩ := s1
  simp only at hc
  have hnn : kn ≤ 1000000 := by have h1 := HN1.out; have h2 := HK6.out; simp only at h1; omega
  have HKN : Hid (l1.length = kn) := HS1.out.klen
  clear HN1
  go_wp2_with fail
  clear hc
  go_loopw [73] (fun y wr => ∃ (k : Nat) (s : Sl) (lq : List RsIV), k ≤ kn ∧ y = .int .i64 k ∧ s.n = k ∧ readRsIs (m1.take k) = .ok (lq.map RsIV.rq) ∧ Below z W3 wr ∧ z4 ≤ wr.heap.size ∧ OwnRs 51 wr z4 s lq ∧ (∀ x ∈ lq, ∀ k ∈ x.foot, k ≠ p ∧ k ≠ b + 1) ∧ wr.heap[p]? = some (.cells (RsV.arr { time := tm, its := s, items := lq }) 25 (0, 0))) (fun y _ => kn - (intOf y).toNat)
  case atStart => exact ⟨0, {}, [], Nat.zero_le _, rfl, rfl, rfl, HBW.out, by rw [HZ4.out]; exact Nat.le_refl _, OwnRs.nil _ _ _, by simp, HB4.out⟩
  case round =>
    clear HBW HB4
    obtain ⟨k, s, lq, hk, rfl, hsk, hri, hbw, hzw, ho, hpf, hpb⟩ := hrel
    have HBW := hid hbw; have HZW4 := hid hzw; have HO := hid ho; have HPF := hid hpf; have HPB := hid hpb; have HRI := hid hri; have HSK := hid hsk
    clear hbw hzw ho hpf hpb hri hsk
    have hbr : Below W3.heap.size W3 wr := by rw [← HZW.out]; exact HBW.out
    have HBR := hid hbr
    clear hbr
    by_cases hlt : k < kn
    · obtain ⟨bx, ox, x, hax, hx, hrow⟩ := (HS1.out.below HBR.out).row (k := k) hlt
      simp only at hax
      subst hax
      have HXM : Hid (m1[k]? = some x.it) := by
        show _ = _
        rw [← HM1.out, List.getElem?_map, hx]; rfl
      have HX := hid (((HA1.out x (List.mem_of_getElem? hx)).1).below HBR.out)
      have HR := hid hrow
      clear hx hrow
      go_upto_region 16 with (first | (refine wpList_load_mid rfl 30 _ rfl bx (ox + k * 5) rfl x.arr.toList _ HR.out Tryd.underlying30 rfl iSize ?_; simp only [Array.toArray_toList]) | (refine wpList_alloc_obj rfl 30 rfl _ iZero ?_) | (refine wpList_store_obj rfl 30 _ _ rfl wr.heap.size rfl _ rfl _ _ (block_new wr _) rfl iSize (arr_one x) ?_; intro w5 hb5 hc5 hs5; have HB5 := hid hb5; have HC5 := hid hc5; have HS5 := hid hs5; clear hb5 hc5 hs5))
      have hbel : Below wr.heap.size wr w5 := ((Below.refl _ wr).alloc (Nat.le_refl _) _).trans (HC5.out.below (fun k hk => by rw [List.mem_singleton.1 hk]; exact Nat.le_refl _) (by simp))
      have HBL5 := hid hbel
      have HX5 := hid (HX.out.below hbel)
      clear hbel HC5 HS5 HR HX
      obtain ⟨c, hcw⟩ : ∃ c, c = wr.heap.size := ⟨_, rfl⟩
      rw [← hcw] at HB5 HBL5 ⊢
      have HCW := hid hcw
      clear hcw
      go_wp2_with (refine wpList_load_row rfl 30 _ rfl c rfl _ _ _ _ HB5.out Tryd.underlying30 rfl iSize ?_)
      refine (rsitem_any x _ HX5.out).mono ?_
      intro e w6 hres
      have hc5 : c ≤ w5.heap.size := by rw [HCW.out]; exact HBL5.out.size
      have HC5 := hid hc5
      clear hc5 HB5
      cases hrx : readRsI x.it with
      | error cc =>
        rw [hrx] at hres
        obtain ⟨rfl, hcz, hb6⟩ := hres
        have HE := hid (HRE.out cc ((readRsIs_one HRI.out HXM.out).2 cc hrx))
        have HBL6 := hid (HBL5.out.trans (hb6.mono HC5.out))
        have HCZ := hid hcz
        have H6 := hid (Nat.le_trans HC5.out hb6.size)
        clear hb6 hrx HX5 hcz
        go_upto_region 17 with (first | (refine wpList_alloc_obj rfl 51 rfl _ sZero ?_) | (refine wpList_store_obj rfl 51 _ _ rfl w6.heap.size rfl rsZ.arr rfl _ _ (block_new w6 _) rfl sSize (sarr_one rsZ) ?_; intro w7 hb7 hc7 hs7; have HB7 := hid hb7; have HC7 := hid hc7; clear hb7 hc7 hs7))
        have hbel7 := HBL6.out.trans (((Below.refl _ w6).alloc H6.out _).trans (HC7.out.below (B := c) (fun k hk => by rw [List.mem_singleton.1 hk]; exact H6.out) (by simp; exact Nat.le_succ_of_le H6.out)))
        rw [HCW.out] at hbel7
        have B7 := hid ((B3.out.below HBR.out).below hbel7)
        have hcz := HCZ.out
        clear hbel7 HBL6 HBL5 HC7 HB7 HCZ
        go_wp2_with (first | (refine wpList_build_obj rfl 25 _ rfl #[] rfl _ (pBuild0 _) ?_) | (refine wpList_store_obj rfl 25 _ _ rfl (b + 1) rfl rpZ.arr rfl _ _ B7.out.res rfl pSize (parr_one _) ?_; intro w10 hb10 hc10 hs10; have HB10 := hid hb10; have HC10 := hid hc10; clear hb10 hc10 hs10))
        refine bodyPost_ret (results_cell_tmp rfl _ _ (b + 1) _ _ _ _ rfl HB10.out Tryd.underlying25 rfl pSize _ rfl) rfl ?_
        rw [HE.out]
        exact ⟨rfl, by rw [HBE.out]; exact B7.out.done HC10.out⟩
      | ok yy =>
        rw [hrx] at hres
        obtain ⟨v', rfl, hvq, hvo, hvf, hb6⟩ := hres
        have HRN := hid ((readRsIs_one HRI.out HXM.out).1 yy hrx)
        have HBL6 := hid (HBL5.out.trans (hb6.mono HC5.out))
        have H6 := hid (Nat.le_trans HC5.out hb6.size)
        have HVQ := hid hvq; have HVO := hid hvo; have HVF := hid hvf
        clear hb6 hrx HX5 hvq hvo hvf
        go_upto_region 17 with (first | (refine wpList_alloc_obj rfl 51 rfl _ sZero ?_) | (refine wpList_store_obj rfl 51 _ _ rfl w6.heap.size rfl v'.arr rfl _ _ (block_new w6 _) rfl sSize (sarr_one v') ?_; intro w7 hb7 hc7 hs7; have HB7 := hid hb7; have HC7 := hid hc7; clear hb7 hc7 hs7))
        have hbe7 := (((Below.refl w6.heap.size w6).alloc (Nat.le_refl _) (.cells rsZ.arr 51)).trans (HC7.out.below (B := w6.heap.size) (fun k hk => by rw [List.mem_singleton.1 hk]; exact Nat.le_refl _) (by simp)))
        have hbel7 := HBL6.out.trans (hbe7.mono H6.out)
        have HVO7 := hid (HVO.out.below hbe7)
        have hz7 : c ≤ w7.heap.size := Nat.le_trans H6.out hbe7.size
        rw [HCW.out] at hbel7 hz7
        have HO7 := hid (HO.out.below hbel7)
        have HPB7 := hid ((hbel7.block _ (block_lt HPB.out)).trans HPB.out)
        have HBL7 := hid hbel7
        have HZ7 := hid hz7
        obtain ⟨q, hqw⟩ : ∃ q, q = w6.heap.size := ⟨_, rfl⟩
        rw [← hqw] at HB7 ⊢
        have HRLT : Hid (∀ k, s.v.ownBlock = some k → k < c) := fun k hk => by rw [HCW.out]; exact (HO.out.own.lt k hk).2
        have HPC : Hid (p < c) := by show p < c; rw [HCW.out]; exact block_lt HPB.out
        have H65 : Hid (c ≤ w5.heap.size) := HC5
        clear hbel7 hz7 hbe7 HBL6 HBL5 HC7 HVO HO hqw HPB
        go_upto_region 19 with (fail)
        have hc4 := cell_of_block (j := 1) HPB7.out (rv1 _)
        simp only at hc4
        go_upto_region 20 with (first | (refine wpList_load_row rfl 51 _ rfl q rfl _ _ _ _ HB7.out Tryd.underlying51 rfl sSize ?_) | (refine wpList_build_rs rfl 23 51 _ rfl v' rfl iq Tryd.underlying23 hiq hy0 hy1 ?_) | (at_builtin; go_must (refine wpList_append_c rfl _ _ 23 rfl z4 51 iq _ 13 152 Tryd.underlying23 hiq hy0 hy1 hy2 rfl (by decide) (.slice s.a s.n s.c) s.n _ rfl (HO7.out.below ((Below.refl _ _).alloc (Nat.le_refl _) (.cells v'.arr 51))).own _ 1 _ v'.cells rfl (RdC.new _ _ _ _ v'.cells (by simp [RsIV.cells]) 13 rfl _ rfl) (by have := rs_one [v']; simpa [rsCells] using this) (fun hx => by cases hx) (by unfold maxLen; have := HSK.out; omega) (by have := HSK.out; omega) (by have := HZW4.out; have := HZ7.out; simp; omega) ?_); intro a' c' w8 hown hgw hfr; have HO8 := hid hown; have HG8 := hid hgw; have HF8 := hid hfr; have hch : Chg s.v.ownBlock.toList w7 w8 := ((Chg.refl _ w7).alloc _).grown hgw (fun k hk => .inl (by rw [hk]; simp)); have hpb8 := (hch.block p (block_lt HPB7.out) (HO7.out.ahead HPZ.out)).trans HPB7.out; have HPB8 := hid hpb8; have hq4 := cell_of_block (j := 1) hpb8 (rv1 _); have hfz : ∀ j, w8.frozen? ⟨p, j, none⟩ = false := (fun j => frozen_of_block HPB8.out); clear hown hgw hfr hch hpb8))
        clear hq4 hfz hc4
        have ho8 : OwnRs 51 w8 z4 ⟨a', s.n + 1, c'⟩ (lq ++ [v']) :=
          HO7.out.app ((Below.refl _ _).alloc (Nat.le_refl _) _) v' HVO7.out (fun k hk he => by have := HRLT.out k he; have := HVF.out k hk; have := H65.out; omega) (by rw [rs_app]; simpa [rsCells] using HO8.out) HG8.out HF8.out
        have hch : Chg s.v.ownBlock.toList w7 w8 := ((Chg.refl _ w7).alloc _).grown HG8.out (fun k hk => .inl (by rw [hk]; simp))
        have hcb : Chg [p] w8 (w8.setCell ⟨p, 1, none⟩ (.slice a' (s.n + 1) c')) := (Chg.refl [p] w8).setCell (.inl (by simp)) _
        have hnf : ∀ x ∈ lq ++ [v'], ∀ k ∈ x.foot, k ≠ p ∧ k ≠ b + 1 := fun x hx k hm => by
          rcases List.mem_append.1 hx with h' | h'
          · exact HPF.out x h' k hm
          · rw [List.mem_singleton.1 h'] at hm
            have := HVF.out k hm; have := H65.out; have := HPC.out; have := HZP.out; have := HBZ.out; omega
        have ho9 := ho8.chg hcb (fun k hk hm => by have := List.mem_singleton.1 hm; subst this; exact ho8.ahead HPZ.out (by rw [hk]; simp)) (fun x hx k hk hm => by have := List.mem_singleton.1 hm; exact (hnf x hx k hk).1 this)
        have hpb9 : (w8.setCell ⟨p, 1, none⟩ (.slice a' (s.n + 1) c')).heap[p]? = some (.cells (RsV.arr { time := tm, its := ⟨a', s.n + 1, c'⟩, items := lq ++ [v'] }) 25 (0, 0)) := block_setCell HPB8.out _
        have hz4 : z ≤ z4 := Nat.le_of_lt (Nat.lt_of_le_of_lt HZP.out HPZ.out)
        have hbw9 : Below z W3 (w8.setCell ⟨p, 1, none⟩ (.slice a' (s.n + 1) c')) :=
          (HBW.out.trans (HBL7.out.mono (Nat.le_trans hz4 HZW4.out))).trans ((hch.below (B := z) (fun k hk => by
            rcases Nat.lt_or_ge k z4 with h' | h'
            · exact absurd hk (HO7.out.ahead h')
            · omega) (Nat.le_trans hz4 (Nat.le_trans HZW4.out (by rw [← HCW.out]; rw [HCW.out]; exact HZ7.out)))).trans (hcb.below (B := z) (fun k hk => by rw [List.mem_singleton.1 hk]; exact HZP.out) (Nat.le_trans hz4 (Nat.le_trans HZW4.out (Nat.le_trans HZ7.out hch.size)))))
        have hz9 : z4 ≤ (w8.setCell ⟨p, 1, none⟩ (.slice a' (s.n + 1) c')).heap.size := Nat.le_trans HZW4.out (Nat.le_trans HZ7.out (Nat.le_trans hch.size hcb.size))
        have hrn : readRsIs (m1.take (k + 1)) = .ok ((lq ++ [v']).map RsIV.rq) := by rw [HRN.out, List.map_append, List.map_cons, List.map_nil, HVQ.out]
        have H9 := hid (And.intro hrn (And.intro hbw9 (And.intro hz9 (And.intro ho9 (And.intro hnf hpb9)))))
        clear ho8 hch hcb hnf ho9 hpb9 hz4 hbw9 hz9 hrn
        go_wp2_with fail
        go_roundw
        case rel =>
          have hsk := HSK.out
          first
            | exact ⟨k + 1, ⟨a', s.n + 1, c'⟩, lq ++ [v'], by omega, by go_num, by simp; omega, H9.out⟩
            | ((repeat apply Exists.intro); exact ⟨⟨k + 1, ⟨a', s.n + 1, c'⟩, lq ++ [v'], by omega, by go_num, by simp; omega, H9.out⟩, rfl⟩)
        case measure => simp [intOf]; omega
    · obtain rfl : k = kn := by omega
      have HRI2 : Hid (readRsIs m1 = .ok (lq.map RsIV.rq)) := by
        have := HRI.out
        rwa [List.take_of_length_le (by rw [← HM1.out, List.length_map]; have := HKN.out; omega)] at this
      have HEQ := hid (HRV.out (lq.map RsIV.rq) HRI2.out)
      have HB := hid (B3.out.below HBR.out)
      have HCA' := hid (cell_later HBR.out HCA.out)
      have HSA' := hid (HSA.out.below HBR.out)
      have HCB' := hid (cell_later HBR.out HCB.out)
      have HSB' := hid (HSB.out.below HBR.out)
      have HCE' := hid (cell_later HBR.out HCE.out)
      have HSE' := hid (HSE.out.below HBR.out)
      have HQL : Hid (((lq.map RsIV.rq).length : Int) = (s.n : Int)) := by show _ = _; rw [List.length_map, HO.out.len]
      rw [HQL.out] at HEQ
      have HQO : Hid (RsV.ok wr { time := tm, its := s, items := lq }) := ⟨HO.out.sl (Nat.le_trans (Nat.le_of_eq HSK.out) (by omega)), HO.out.ok⟩
      have HSB2 : Hid (∀ k ∈ s.blk, z4 ≤ k) := blk_own HO.out.own
      clear HRI HRI2 HRV HRE HCA HSA HCB HSB HCE HSE HS1 HA1 HM1 HBR HBW HO HQL HKN
      go_upto_region 21 with (fail)
      by_cases h0 : n0 = 1
      rotate_left
      · have H0 : Hid ((n0 != 1) = true) := by show _ = _; simpa using h0
        have HE : Hid (readRs v.it = .error 4) := by show _ = _; rw [HEQ.out, if_pos (by rw [H0.out]; rfl)]
        clear h0
        refine wp_region_each 22 [.eq (.slice (some ⟨gv, 0, none⟩) 2 cv), .eq (.pointer (some ⟨gv, 0, none⟩)), .eq (.slice sa.a sa.n sa.c), .eq (.int .i64 n0), .eq (.bool true), .eq (.bool true), .eq undef, .eq undef, .eq undef, .eq undef, .eq undef, .eq (.bool true), .eq (.bool true), .eq undef, .eq undef, .eq undef, .eq undef, .eq undef, .eq undef, .eq undef, .eq undef, .eq (.bool true)] (by kernel_rfl) (by kernel_rfl) (by kernel_rfl) (by kernel_rfl) ?_ ?_
        · as_aux_lemma =>
            refine each_5 ?_ ?_ ?_ ?_ ?_ (each_5 ?_ ?_ ?_ ?_ ?_ (each_5 ?_ ?_ ?_ ?_ ?_ (each_5 ?_ ?_ ?_ ?_ ?_ (each_c ?_ (each_c ?_ (each_n))))))
            · intro w1 hg Ar seen
              have s7 := seen.sl 7 (.slice (some ⟨gv, 0, none⟩) 2 cv)
              refine does_plain rfl fun K Q' hK => ?_
              go_simp; exact hK _ _ (Grow.refl _) rfl
            · intro w1 hg Ar seen
              have e0 := seen.de 0 93
              refine does_plain rfl fun K Q' hK => ?_
              go_simp; exact hK _ _ (Grow.refl _) rfl
            · intro w1 hg Ar seen
              have e1 := seen.de 1 94
              refine does_plain rfl fun K Q' hK => ?_
              have hc := cell_later hg HCA'.out
              go_simp; exact hK _ _ (Grow.refl _) rfl
            · intro w1 hg Ar seen
              have e2 := seen.de 2 95
              refine does_plain rfl fun K Q' hK => ?_
              go_simp
              refine (snumber_any sa la _ (HSA'.out.below hg)).mono ?_
              rintro e u ⟨rfl, rfl⟩
              exact hK _ _ (Grow.refl _) (by rw [En0.out]; rfl)
            · intro w1 hg Ar seen
              have e3 := seen.de 3 96
              refine does_plain rfl fun K Q' hK => ?_
              have hz := H0.out
              go_simp; exact hK _ _ (Grow.refl _) rfl
            · intro w1 hg Ar seen
              have e4 := seen.de 4 97
              refine does_plain rfl fun K Q' hK => ?_
              go_simp; exact hK _ _ (Grow.refl _) rfl
            · intro w1 hg Ar seen
              have e5 := seen.de 5 98
              exact does_off rfl (by kernel_rfl) e5 ne_tf (Grow.refl _) rfl
            · intro w1 hg Ar seen
              have e5 := seen.de 5 98
              exact does_off rfl (by kernel_rfl) e5 ne_tf (Grow.refl _) rfl
            · intro w1 hg Ar seen
              have e5 := seen.de 5 98
              exact does_off rfl (by kernel_rfl) e5 ne_tf (Grow.refl _) rfl
            · intro w1 hg Ar seen
              have e5 := seen.de 5 98
              exact does_off rfl (by kernel_rfl) e5 ne_tf (Grow.refl _) rfl
            · intro w1 hg Ar seen
              have e5 := seen.de 5 98
              exact does_off rfl (by kernel_rfl) e5 ne_tf (Grow.refl _) rfl
            · intro w1 hg Ar seen
              have e5 := seen.de 5 98
              have e10 := seen.de 10 103
              refine does_plain rfl fun K Q' hK => ?_
              go_simp; exact hK _ _ (Grow.refl _) rfl
            · intro w1 hg Ar seen
              have e11 := seen.de 11 104
              refine does_plain rfl fun K Q' hK => ?_
              go_simp; exact hK _ _ (Grow.refl _) rfl
            · intro w1 hg Ar seen
              have e12 := seen.de 12 105
              exact does_off rfl (by kernel_rfl) e12 ne_tf (Grow.refl _) rfl
            · intro w1 hg Ar seen
              have e12 := seen.de 12 105
              exact does_off rfl (by kernel_rfl) e12 ne_tf (Grow.refl _) rfl
            · intro w1 hg Ar seen
              have e12 := seen.de 12 105
              exact does_off rfl (by kernel_rfl) e12 ne_tf (Grow.refl _) rfl
            · intro w1 hg Ar seen
              have e12 := seen.de 12 105
              exact does_off rfl (by kernel_rfl) e12 ne_tf (Grow.refl _) rfl
            · intro w1 hg Ar seen
              have e12 := seen.de 12 105
              exact does_off rfl (by kernel_rfl) e12 ne_tf (Grow.refl _) rfl
            · intro w1 hg Ar seen
              have e12 := seen.de 12 105
              exact does_off rfl (by kernel_rfl) e12 ne_tf (Grow.refl _) rfl
            · intro w1 hg Ar seen
              have e12 := seen.de 12 105
              exact does_off rfl (by kernel_rfl) e12 ne_tf (Grow.refl _) rfl
            · intro w1 hg Ar seen
              have e12 := seen.de 12 105
              exact does_off rfl (by kernel_rfl) e12 ne_tf (Grow.refl _) rfl
            · intro w1 hg Ar seen
              have e12 := seen.de 12 105
              have e20 := seen.de 20 113
              refine does_plain rfl fun K Q' hK => ?_
              go_simp; exact hK _ _ (Grow.refl _) rfl
        intro w1 hg
        refine upon_w' (js := [0, 1, 2, 3, 4, 5, 6, 7, 8, 9, 10, 11, 12, 13, 14, 15, 16, 17, 18, 19, 20, 21]) (by rfl) ?_
        refine upon_e (some 93) (upon_e (some 94) (upon_e (some 95) (upon_e (some 96) (upon_e (some 97) (upon_e (some 98) (upon_e (some 99) (upon_e (some 100) (upon_e (some 101) (upon_e (some 102) (upon_e (some 103) (upon_e (some 104) (upon_e (some 105) (upon_e (some 106) (upon_e (some 107) (upon_e (some 108) (upon_e (some 109) (upon_e (some 110) (upon_e (some 111) (upon_e (some 112) (upon_e (some 113) (upon_e (some 114) (upon_n ?_))))))))))))))))))))))
        go_simp
        have HB2 := hid (HB.out.below hg)
        clear hg
        go_wp2_with (first | (refine wpList_build_obj rfl 25 _ rfl #[] rfl _ (pBuild0 _) ?_) | (refine wpList_store_obj rfl 25 _ _ rfl (b + 1) rfl rpZ.arr rfl _ _ HB2.out.res rfl pSize (parr_one _) ?_; intro w10 hb10 hc10 hs10; have HB10 := hid hb10; have HC10 := hid hc10; clear hb10 hc10 hs10))
        refine bodyPost_ret (results_cell_tmp rfl _ _ (b + 1) _ _ _ _ rfl HB10.out Tryd.underlying25 rfl pSize _ rfl) rfl ?_
        rw [HE.out]
        exact ⟨rfl, by rw [HBE.out]; exact HB2.out.done HC10.out⟩
      have H0 : Hid ((n0 != 1) = false) := by show _ = _; simp [h0]
      clear h0
      by_cases h1 : n1 = 4
      rotate_left
      · have H1 : Hid ((n1 != 4) = true) := by show _ = _; simpa using h1
        have HE : Hid (readRs v.it = .error 4) := by show _ = _; rw [HEQ.out, if_pos (by rw [H1.out]; simp)]
        clear h1
        refine wp_region_each 22 [.eq (.slice (some ⟨gv, 0, none⟩) 2 cv), .eq (.pointer (some ⟨gv, 0, none⟩)), .eq (.slice sa.a sa.n sa.c), .eq (.int .i64 n0), .eq (.bool false), .eq (.bool false), .eq (.slice (some ⟨gv, 0, none⟩) 2 cv), .eq (.pointer (some ⟨gv, 1, none⟩)), .eq (.slice sb.a sb.n sb.c), .eq (.int .i64 n1), .eq (.bool true), .eq (.bool true), .eq (.bool true), .eq undef, .eq undef, .eq undef, .eq undef, .eq undef, .eq undef, .eq undef, .eq undef, .eq (.bool true)] (by kernel_rfl) (by kernel_rfl) (by kernel_rfl) (by kernel_rfl) ?_ ?_
        · as_aux_lemma =>
            refine each_5 ?_ ?_ ?_ ?_ ?_ (each_5 ?_ ?_ ?_ ?_ ?_ (each_5 ?_ ?_ ?_ ?_ ?_ (each_5 ?_ ?_ ?_ ?_ ?_ (each_c ?_ (each_c ?_ (each_n))))))
            · intro w1 hg Ar seen
              have s7 := seen.sl 7 (.slice (some ⟨gv, 0, none⟩) 2 cv)
              refine does_plain rfl fun K Q' hK => ?_
              go_simp; exact hK _ _ (Grow.refl _) rfl
            · intro w1 hg Ar seen
              have e0 := seen.de 0 93
              refine does_plain rfl fun K Q' hK => ?_
              go_simp; exact hK _ _ (Grow.refl _) rfl
            · intro w1 hg Ar seen
              have e1 := seen.de 1 94
              refine does_plain rfl fun K Q' hK => ?_
              have hc := cell_later hg HCA'.out
              go_simp; exact hK _ _ (Grow.refl _) rfl
            · intro w1 hg Ar seen
              have e2 := seen.de 2 95
              refine does_plain rfl fun K Q' hK => ?_
              go_simp
              refine (snumber_any sa la _ (HSA'.out.below hg)).mono ?_
              rintro e u ⟨rfl, rfl⟩
              exact hK _ _ (Grow.refl _) (by rw [En0.out]; rfl)
            · intro w1 hg Ar seen
              have e3 := seen.de 3 96
              refine does_plain rfl fun K Q' hK => ?_
              have hz := H0.out
              go_simp; exact hK _ _ (Grow.refl _) rfl
            · intro w1 hg Ar seen
              have e4 := seen.de 4 97
              refine does_plain rfl fun K Q' hK => ?_
              go_simp; exact hK _ _ (Grow.refl _) rfl
            · intro w1 hg Ar seen
              have e5 := seen.de 5 98
              have s7 := seen.sl 7 (.slice (some ⟨gv, 0, none⟩) 2 cv)
              refine does_on rfl (by kernel_rfl) e5 fun K Q' hK => ?_
              clear e5
              go_simp; exact hK _ _ (Grow.refl _) rfl
            · intro w1 hg Ar seen
              have e6 := seen.de 6 99
              have e5 := seen.de 5 98
              refine does_on rfl (by kernel_rfl) e5 fun K Q' hK => ?_
              clear e5
              go_simp; exact hK _ _ (Grow.refl _) rfl
            · intro w1 hg Ar seen
              have e7 := seen.de 7 100
              have e5 := seen.de 5 98
              refine does_on rfl (by kernel_rfl) e5 fun K Q' hK => ?_
              clear e5
              have hc := cell_later hg HCB'.out
              go_simp; exact hK _ _ (Grow.refl _) rfl
            · intro w1 hg Ar seen
              have e8 := seen.de 8 101
              have e5 := seen.de 5 98
              refine does_on rfl (by kernel_rfl) e5 fun K Q' hK => ?_
              clear e5
              go_simp
              refine (snumber_any sb lb _ (HSB'.out.below hg)).mono ?_
              rintro e u ⟨rfl, rfl⟩
              exact hK _ _ (Grow.refl _) (by rw [En1.out]; rfl)
            · intro w1 hg Ar seen
              have e9 := seen.de 9 102
              have e5 := seen.de 5 98
              refine does_on rfl (by kernel_rfl) e5 fun K Q' hK => ?_
              clear e5
              have hz := H1.out
              go_simp; exact hK _ _ (Grow.refl _) rfl
            · intro w1 hg Ar seen
              have e5 := seen.de 5 98
              have e10 := seen.de 10 103
              refine does_plain rfl fun K Q' hK => ?_
              go_simp; exact hK _ _ (Grow.refl _) rfl
            · intro w1 hg Ar seen
              have e11 := seen.de 11 104
              refine does_plain rfl fun K Q' hK => ?_
              go_simp; exact hK _ _ (Grow.refl _) rfl
            · intro w1 hg Ar seen
              have e12 := seen.de 12 105
              exact does_off rfl (by kernel_rfl) e12 ne_tf (Grow.refl _) rfl
            · intro w1 hg Ar seen
              have e12 := seen.de 12 105
              exact does_off rfl (by kernel_rfl) e12 ne_tf (Grow.refl _) rfl
            · intro w1 hg Ar seen
              have e12 := seen.de 12 105
              exact does_off rfl (by kernel_rfl) e12 ne_tf (Grow.refl _) rfl
            · intro w1 hg Ar seen
              have e12 := seen.de 12 105
              exact does_off rfl (by kernel_rfl) e12 ne_tf (Grow.refl _) rfl
            · intro w1 hg Ar seen
              have e12 := seen.de 12 105
              exact does_off rfl (by kernel_rfl) e12 ne_tf (Grow.refl _) rfl
            · intro w1 hg Ar seen
              have e12 := seen.de 12 105
              exact does_off rfl (by kernel_rfl) e12 ne_tf (Grow.refl _) rfl
            · intro w1 hg Ar seen
              have e12 := seen.de 12 105
              exact does_off rfl (by kernel_rfl) e12 ne_tf (Grow.refl _) rfl
            · intro w1 hg Ar seen
              have e12 := seen.de 12 105
              exact does_off rfl (by kernel_rfl) e12 ne_tf (Grow.refl _) rfl
            · intro w1 hg Ar seen
              have e12 := seen.de 12 105
              have e20 := seen.de 20 113
              refine does_plain rfl fun K Q' hK => ?_
              go_simp; exact hK _ _ (Grow.refl _) rfl
        intro w1 hg
        refine upon_w' (js := [0, 1, 2, 3, 4, 5, 6, 7, 8, 9, 10, 11, 12, 13, 14, 15, 16, 17, 18, 19, 20, 21]) (by rfl) ?_
        refine upon_e (some 93) (upon_e (some 94) (upon_e (some 95) (upon_e (some 96) (upon_e (some 97) (upon_e (some 98) (upon_e (some 99) (upon_e (some 100) (upon_e (some 101) (upon_e (some 102) (upon_e (some 103) (upon_e (some 104) (upon_e (some 105) (upon_e (some 106) (upon_e (some 107) (upon_e (some 108) (upon_e (some 109) (upon_e (some 110) (upon_e (some 111) (upon_e (some 112) (upon_e (some 113) (upon_e (some 114) (upon_n ?_))))))))))))))))))))))
        go_simp
        have HB2 := hid (HB.out.below hg)
        clear hg
        go_wp2_with (first | (refine wpList_build_obj rfl 25 _ rfl #[] rfl _ (pBuild0 _) ?_) | (refine wpList_store_obj rfl 25 _ _ rfl (b + 1) rfl rpZ.arr rfl _ _ HB2.out.res rfl pSize (parr_one _) ?_; intro w10 hb10 hc10 hs10; have HB10 := hid hb10; have HC10 := hid hc10; clear hb10 hc10 hs10))
        refine bodyPost_ret (results_cell_tmp rfl _ _ (b + 1) _ _ _ _ rfl HB10.out Tryd.underlying25 rfl pSize _ rfl) rfl ?_
        rw [HE.out]
        exact ⟨rfl, by rw [HBE.out]; exact HB2.out.done HC10.out⟩
      have H1 : Hid ((n1 != 4) = false) := by show _ = _; simp [h1]
      clear h1
      by_cases h2 : n4 = (s.n : Int)
      rotate_left
      · have H2 : Hid ((n4 != (s.n : Int)) = true) := by show _ = _; simpa using h2
        have HE : Hid (readRs v.it = .error 4) := by show _ = _; rw [HEQ.out, if_pos (by rw [H2.out]; simp)]
        clear h2
        refine wp_region_each 22 [.eq (.slice (some ⟨gv, 0, none⟩) 2 cv), .eq (.pointer (some ⟨gv, 0, none⟩)), .eq (.slice sa.a sa.n sa.c), .eq (.int .i64 n0), .eq (.bool false), .eq (.bool false), .eq (.slice (some ⟨gv, 0, none⟩) 2 cv), .eq (.pointer (some ⟨gv, 1, none⟩)), .eq (.slice sb.a sb.n sb.c), .eq (.int .i64 n1), .eq (.bool false), .eq (.bool false), .eq (.bool false), .eq (.slice (some ⟨gh, 0, none⟩) 3 ch), .eq (.pointer (some ⟨gh, 2, none⟩)), .eq (.slice se.a se.n se.c), .eq (.int .i64 n4), .eq (.pointer (some ⟨p, 1, none⟩)), .eq (.slice s.a s.n s.c), .eq (.int .i64 (s.n : Int)), .eq (.bool true), .eq (.bool true)] (by kernel_rfl) (by kernel_rfl) (by kernel_rfl) (by kernel_rfl) ?_ ?_
        · as_aux_lemma =>
            refine each_5 ?_ ?_ ?_ ?_ ?_ (each_5 ?_ ?_ ?_ ?_ ?_ (each_5 ?_ ?_ ?_ ?_ ?_ (each_5 ?_ ?_ ?_ ?_ ?_ (each_c ?_ (each_c ?_ (each_n))))))
            · intro w1 hg Ar seen
              have s7 := seen.sl 7 (.slice (some ⟨gv, 0, none⟩) 2 cv)
              refine does_plain rfl fun K Q' hK => ?_
              go_simp; exact hK _ _ (Grow.refl _) rfl
            · intro w1 hg Ar seen
              have e0 := seen.de 0 93
              refine does_plain rfl fun K Q' hK => ?_
              go_simp; exact hK _ _ (Grow.refl _) rfl
            · intro w1 hg Ar seen
              have e1 := seen.de 1 94
              refine does_plain rfl fun K Q' hK => ?_
              have hc := cell_later hg HCA'.out
              go_simp; exact hK _ _ (Grow.refl _) rfl
            · intro w1 hg Ar seen
              have e2 := seen.de 2 95
              refine does_plain rfl fun K Q' hK => ?_
              go_simp
              refine (snumber_any sa la _ (HSA'.out.below hg)).mono ?_
              rintro e u ⟨rfl, rfl⟩
              exact hK _ _ (Grow.refl _) (by rw [En0.out]; rfl)
            · intro w1 hg Ar seen
              have e3 := seen.de 3 96
              refine does_plain rfl fun K Q' hK => ?_
              have hz := H0.out
              go_simp; exact hK _ _ (Grow.refl _) rfl
            · intro w1 hg Ar seen
              have e4 := seen.de 4 97
              refine does_plain rfl fun K Q' hK => ?_
              go_simp; exact hK _ _ (Grow.refl _) rfl
            · intro w1 hg Ar seen
              have e5 := seen.de 5 98
              have s7 := seen.sl 7 (.slice (some ⟨gv, 0, none⟩) 2 cv)
              refine does_on rfl (by kernel_rfl) e5 fun K Q' hK => ?_
              clear e5
              go_simp; exact hK _ _ (Grow.refl _) rfl
            · intro w1 hg Ar seen
              have e6 := seen.de 6 99
              have e5 := seen.de 5 98
              refine does_on rfl (by kernel_rfl) e5 fun K Q' hK => ?_
              clear e5
              go_simp; exact hK _ _ (Grow.refl _) rfl
            · intro w1 hg Ar seen
              have e7 := seen.de 7 100
              have e5 := seen.de 5 98
              refine does_on rfl (by kernel_rfl) e5 fun K Q' hK => ?_
              clear e5
              have hc := cell_later hg HCB'.out
              go_simp; exact hK _ _ (Grow.refl _) rfl
            · intro w1 hg Ar seen
              have e8 := seen.de 8 101
              have e5 := seen.de 5 98
              refine does_on rfl (by kernel_rfl) e5 fun K Q' hK => ?_
              clear e5
              go_simp
              refine (snumber_any sb lb _ (HSB'.out.below hg)).mono ?_
              rintro e u ⟨rfl, rfl⟩
              exact hK _ _ (Grow.refl _) (by rw [En1.out]; rfl)
            · intro w1 hg Ar seen
              have e9 := seen.de 9 102
              have e5 := seen.de 5 98
              refine does_on rfl (by kernel_rfl) e5 fun K Q' hK => ?_
              clear e5
              have hz := H1.out
              go_simp; exact hK _ _ (Grow.refl _) rfl
            · intro w1 hg Ar seen
              have e5 := seen.de 5 98
              have e10 := seen.de 10 103
              refine does_plain rfl fun K Q' hK => ?_
              go_simp; exact hK _ _ (Grow.refl _) rfl
            · intro w1 hg Ar seen
              have e11 := seen.de 11 104
              refine does_plain rfl fun K Q' hK => ?_
              go_simp; exact hK _ _ (Grow.refl _) rfl
            · intro w1 hg Ar seen
              have e12 := seen.de 12 105
              have s6 := seen.sl 6 (.slice (some ⟨gh, 0, none⟩) 3 ch)
              refine does_on rfl (by kernel_rfl) e12 fun K Q' hK => ?_
              clear e12
              go_simp; exact hK _ _ (Grow.refl _) rfl
            · intro w1 hg Ar seen
              have e13 := seen.de 13 106
              have e12 := seen.de 12 105
              refine does_on rfl (by kernel_rfl) e12 fun K Q' hK => ?_
              clear e12
              go_simp; exact hK _ _ (Grow.refl _) rfl
            · intro w1 hg Ar seen
              have e14 := seen.de 14 107
              have e12 := seen.de 12 105
              refine does_on rfl (by kernel_rfl) e12 fun K Q' hK => ?_
              clear e12
              have hc := cell_later hg HCE'.out
              go_simp; exact hK _ _ (Grow.refl _) rfl
            · intro w1 hg Ar seen
              have e15 := seen.de 15 108
              have e12 := seen.de 12 105
              refine does_on rfl (by kernel_rfl) e12 fun K Q' hK => ?_
              clear e12
              go_simp
              refine (snumber_any se le _ (HSE'.out.below hg)).mono ?_
              rintro e u ⟨rfl, rfl⟩
              exact hK _ _ (Grow.refl _) (by rw [En4.out]; rfl)
            · intro w1 hg Ar seen
              have e12 := seen.de 12 105
              have s8 := seen.sl 8 (.pointer (some ⟨p, 0, none⟩))
              refine does_on rfl (by kernel_rfl) e12 fun K Q' hK => ?_
              clear e12
              go_simp; exact hK _ _ (Grow.refl _) rfl
            · intro w1 hg Ar seen
              have e17 := seen.de 17 110
              have e12 := seen.de 12 105
              refine does_on rfl (by kernel_rfl) e12 fun K Q' hK => ?_
              clear e12
              have hc := cell_of_block (j := 1) ((hg.block _ (block_lt HPB.out)).trans HPB.out) (rv1 _)
              go_simp; exact hK _ _ (Grow.refl _) rfl
            · intro w1 hg Ar seen
              have e18 := seen.de 18 111
              have e12 := seen.de 12 105
              refine does_on rfl (by kernel_rfl) e12 fun K Q' hK => ?_
              clear e12
              go_simp; exact hK _ _ (Grow.refl _) rfl
            · intro w1 hg Ar seen
              have e16 := seen.de 16 109
              have e19 := seen.de 19 112
              have e12 := seen.de 12 105
              refine does_on rfl (by kernel_rfl) e12 fun K Q' hK => ?_
              clear e12
              have hz := H2.out
              go_simp; exact hK _ _ (Grow.refl _) rfl
            · intro w1 hg Ar seen
              have e12 := seen.de 12 105
              have e20 := seen.de 20 113
              refine does_plain rfl fun K Q' hK => ?_
              go_simp; exact hK _ _ (Grow.refl _) rfl
        intro w1 hg
        refine upon_w' (js := [0, 1, 2, 3, 4, 5, 6, 7, 8, 9, 10, 11, 12, 13, 14, 15, 16, 17, 18, 19, 20, 21]) (by rfl) ?_
        refine upon_e (some 93) (upon_e (some 94) (upon_e (some 95) (upon_e (some 96) (upon_e (some 97) (upon_e (some 98) (upon_e (some 99) (upon_e (some 100) (upon_e (some 101) (upon_e (some 102) (upon_e (some 103) (upon_e (some 104) (upon_e (some 105) (upon_e (some 106) (upon_e (some 107) (upon_e (some 108) (upon_e (some 109) (upon_e (some 110) (upon_e (some 111) (upon_e (some 112) (upon_e (some 113) (upon_e (some 114) (upon_n ?_))))))))))))))))))))))
        go_simp
        have HB2 := hid (HB.out.below hg)
        clear hg
        go_wp2_with (first | (refine wpList_build_obj rfl 25 _ rfl #[] rfl _ (pBuild0 _) ?_) | (refine wpList_store_obj rfl 25 _ _ rfl (b + 1) rfl rpZ.arr rfl _ _ HB2.out.res rfl pSize (parr_one _) ?_; intro w10 hb10 hc10 hs10; have HB10 := hid hb10; have HC10 := hid hc10; clear hb10 hc10 hs10))
        refine bodyPost_ret (results_cell_tmp rfl _ _ (b + 1) _ _ _ _ rfl HB10.out Tryd.underlying25 rfl pSize _ rfl) rfl ?_
        rw [HE.out]
        exact ⟨rfl, by rw [HBE.out]; exact HB2.out.done HC10.out⟩
      have H2 : Hid ((n4 != (s.n : Int)) = false) := by show _ = _; simp [h2]
      have HE : Hid (readRs v.it = .ok (RsV.rq { time := tm, its := s, items := lq })) := by show _ = _; rw [HEQ.out, if_neg (by rw [H0.out, H1.out, H2.out]; simp)]; rfl
      clear h2
      refine wp_region_each 22 [.eq (.slice (some ⟨gv, 0, none⟩) 2 cv), .eq (.pointer (some ⟨gv, 0, none⟩)), .eq (.slice sa.a sa.n sa.c), .eq (.int .i64 n0), .eq (.bool false), .eq (.bool false), .eq (.slice (some ⟨gv, 0, none⟩) 2 cv), .eq (.pointer (some ⟨gv, 1, none⟩)), .eq (.slice sb.a sb.n sb.c), .eq (.int .i64 n1), .eq (.bool false), .eq (.bool false), .eq (.bool false), .eq (.slice (some ⟨gh, 0, none⟩) 3 ch), .eq (.pointer (some ⟨gh, 2, none⟩)), .eq (.slice se.a se.n se.c), .eq (.int .i64 n4), .eq (.pointer (some ⟨p, 1, none⟩)), .eq (.slice s.a s.n s.c), .eq (.int .i64 (s.n : Int)), .eq (.bool false), .eq (.bool false)] (by kernel_rfl) (by kernel_rfl) (by kernel_rfl) (by kernel_rfl) ?_ ?_
      · as_aux_lemma =>
          refine each_5 ?_ ?_ ?_ ?_ ?_ (each_5 ?_ ?_ ?_ ?_ ?_ (each_5 ?_ ?_ ?_ ?_ ?_ (each_5 ?_ ?_ ?_ ?_ ?_ (each_c ?_ (each_c ?_ (each_n))))))
          · intro w1 hg Ar seen
            have s7 := seen.sl 7 (.slice (some ⟨gv, 0, none⟩) 2 cv)
            refine does_plain rfl fun K Q' hK => ?_
            go_simp; exact hK _ _ (Grow.refl _) rfl
          · intro w1 hg Ar seen
            have e0 := seen.de 0 93
            refine does_plain rfl fun K Q' hK => ?_
            go_simp; exact hK _ _ (Grow.refl _) rfl
          · intro w1 hg Ar seen
            have e1 := seen.de 1 94
            refine does_plain rfl fun K Q' hK => ?_
            have hc := cell_later hg HCA'.out
            go_simp; exact hK _ _ (Grow.refl _) rfl
          · intro w1 hg Ar seen
            have e2 := seen.de 2 95
            refine does_plain rfl fun K Q' hK => ?_
            go_simp
            refine (snumber_any sa la _ (HSA'.out.below hg)).mono ?_
            rintro e u ⟨rfl, rfl⟩
            exact hK _ _ (Grow.refl _) (by rw [En0.out]; rfl)
          · intro w1 hg Ar seen
            have e3 := seen.de 3 96
            refine does_plain rfl fun K Q' hK => ?_
            have hz := H0.out
            go_simp; exact hK _ _ (Grow.refl _) rfl
          · intro w1 hg Ar seen
            have e4 := seen.de 4 97
            refine does_plain rfl fun K Q' hK => ?_
            go_simp; exact hK _ _ (Grow.refl _) rfl
          · intro w1 hg Ar seen
            have e5 := seen.de 5 98
            have s7 := seen.sl 7 (.slice (some ⟨gv, 0, none⟩) 2 cv)
            refine does_on rfl (by kernel_rfl) e5 fun K Q' hK => ?_
            clear e5
            go_simp; exact hK _ _ (Grow.refl _) rfl
          · intro w1 hg Ar seen
            have e6 := seen.de 6 99
            have e5 := seen.de 5 98
            refine does_on rfl (by kernel_rfl) e5 fun K Q' hK => ?_
            clear e5
            go_simp; exact hK _ _ (Grow.refl _) rfl
          · intro w1 hg Ar seen
            have e7 := seen.de 7 100
            have e5 := seen.de 5 98
            refine does_on rfl (by kernel_rfl) e5 fun K Q' hK => ?_
            clear e5
            have hc := cell_later hg HCB'.out
            go_simp; exact hK _ _ (Grow.refl _) rfl
          · intro w1 hg Ar seen
            have e8 := seen.de 8 101
            have e5 := seen.de 5 98
            refine does_on rfl (by kernel_rfl) e5 fun K Q' hK => ?_
            clear e5
            go_simp
            refine (snumber_any sb lb _ (HSB'.out.below hg)).mono ?_
            rintro e u ⟨rfl, rfl⟩
            exact hK _ _ (Grow.refl _) (by rw [En1.out]; rfl)
          · intro w1 hg Ar seen
            have e9 := seen.de 9 102
            have e5 := seen.de 5 98
            refine does_on rfl (by kernel_rfl) e5 fun K Q' hK => ?_
            clear e5
            have hz := H1.out
            go_simp; exact hK _ _ (Grow.refl _) rfl
          · intro w1 hg Ar seen
            have e5 := seen.de 5 98
            have e10 := seen.de 10 103
            refine does_plain rfl fun K Q' hK => ?_
            go_simp; exact hK _ _ (Grow.refl _) rfl
          · intro w1 hg Ar seen
            have e11 := seen.de 11 104
            refine does_plain rfl fun K Q' hK => ?_
            go_simp; exact hK _ _ (Grow.refl _) rfl
          · intro w1 hg Ar seen
            have e12 := seen.de 12 105
            have s6 := seen.sl 6 (.slice (some ⟨gh, 0, none⟩) 3 ch)
            refine does_on rfl (by kernel_rfl) e12 fun K Q' hK => ?_
            clear e12
            go_simp; exact hK _ _ (Grow.refl _) rfl
          · intro w1 hg Ar seen
            have e13 := seen.de 13 106
            have e12 := seen.de 12 105
            refine does_on rfl (by kernel_rfl) e12 fun K Q' hK => ?_
            clear e12
            go_simp; exact hK _ _ (Grow.refl _) rfl
          · intro w1 hg Ar seen
            have e14 := seen.de 14 107
            have e12 := seen.de 12 105
            refine does_on rfl (by kernel_rfl) e12 fun K Q' hK => ?_
            clear e12
            have hc := cell_later hg HCE'.out
            go_simp; exact hK _ _ (Grow.refl _) rfl
          · intro w1 hg Ar seen
            have e15 := seen.de 15 108
            have e12 := seen.de 12 105
            refine does_on rfl (by kernel_rfl) e12 fun K Q' hK => ?_
            clear e12
            go_simp
            refine (snumber_any se le _ (HSE'.out.below hg)).mono ?_
            rintro e u ⟨rfl, rfl⟩
            exact hK _ _ (Grow.refl _) (by rw [En4.out]; rfl)
          · intro w1 hg Ar seen
            have e12 := seen.de 12 105
            have s8 := seen.sl 8 (.pointer (some ⟨p, 0, none⟩))
            refine does_on rfl (by kernel_rfl) e12 fun K Q' hK => ?_
            clear e12
            go_simp; exact hK _ _ (Grow.refl _) rfl
          · intro w1 hg Ar seen
            have e17 := seen.de 17 110
            have e12 := seen.de 12 105
            refine does_on rfl (by kernel_rfl) e12 fun K Q' hK => ?_
            clear e12
            have hc := cell_of_block (j := 1) ((hg.block _ (block_lt HPB.out)).trans HPB.out) (rv1 _)
            go_simp; exact hK _ _ (Grow.refl _) rfl
          · intro w1 hg Ar seen
            have e18 := seen.de 18 111
            have e12 := seen.de 12 105
            refine does_on rfl (by kernel_rfl) e12 fun K Q' hK => ?_
            clear e12
            go_simp; exact hK _ _ (Grow.refl _) rfl
          · intro w1 hg Ar seen
            have e16 := seen.de 16 109
            have e19 := seen.de 19 112
            have e12 := seen.de 12 105
            refine does_on rfl (by kernel_rfl) e12 fun K Q' hK => ?_
            clear e12
            have hz := H2.out
            go_simp; exact hK _ _ (Grow.refl _) rfl
          · intro w1 hg Ar seen
            have e12 := seen.de 12 105
            have e20 := seen.de 20 113
            refine does_plain rfl fun K Q' hK => ?_
            go_simp; exact hK _ _ (Grow.refl _) rfl
      intro w1 hg
      refine upon_w' (js := [0, 1, 2, 3, 4, 5, 6, 7, 8, 9, 10, 11, 12, 13, 14, 15, 16, 17, 18, 19, 20, 21]) (by rfl) ?_
      refine upon_e (some 93) (upon_e (some 94) (upon_e (some 95) (upon_e (some 96) (upon_e (some 97) (upon_e (some 98) (upon_e (some 99) (upon_e (some 100) (upon_e (some 101) (upon_e (some 102) (upon_e (some 103) (upon_e (some 104) (upon_e (some 105) (upon_e (some 106) (upon_e (some 107) (upon_e (some 108) (upon_e (some 109) (upon_e (some 110) (upon_e (some 111) (upon_e (some 112) (upon_e (some 113) (upon_e (some 114) (upon_n ?_))))))))))))))))))))))
      go_simp
      have HB2 := hid (HB.out.below hg)
      have HQO2 := hid (HQO.out.below hg)
      have HPB2 := hid ((hg.block _ (block_lt HPB.out)).trans HPB.out)
      clear hg
      go_wp2_with (first | (refine wpList_load_row rfl 25 _ rfl p rfl _ _ _ _ HPB2.out Tryd.underlying25 rfl pSize ?_) | (refine wpList_store_obj rfl 25 _ _ rfl (b + 1) rfl (RsV.arr { time := tm, its := s, items := lq }) rfl _ _ HB2.out.res rfl pSize (parr_one _) ?_; intro w10 hb10 hc10 hs10; have HB10 := hid hb10; have HC10 := hid hc10; clear hb10 hc10 hs10))
      refine bodyPost_ret (results_cell_tmp rfl _ _ (b + 1) _ _ _ _ rfl HB10.out Tryd.underlying25 rfl pSize _ rfl) rfl ?_
      rw [HE.out]
      refine ⟨_, rfl, rfl, ⟨HQO2.out.its.keep HC10.out (fun k hk hm => by have := List.mem_singleton.1 hm; have := HSB2.out k hk; have := HPZ.out; have := HZP.out; have := HBZ.out; omega), fun x hx => RsIV.ok.keep HC10.out (HQO2.out.each x hx) (fun k hk hm => (HPF.out x hx k hk).2 (List.mem_singleton.1 hm))⟩, by rw [HBE.out]; exact HB2.out.done HC10.out⟩
end Go.Proofs.YteenglgnakenmaaDoor
