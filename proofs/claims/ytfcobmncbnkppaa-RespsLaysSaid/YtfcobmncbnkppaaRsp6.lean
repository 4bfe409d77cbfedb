/- resps.Read. -/
import Derived.Test.YtfcobmncbnkppaaRsp5
namespace Go.Proofs.Ytfcobmncbnkppaa
open Go.RowKit
set_option linter.unusedVariables false
set_option linter.unusedSimpArgs false
set_option maxRecDepth 100000
set_option maxHeartbeats 3200000
def RsRead (r : Except Int Rs) (w : World) (e : Ending) (w' : World) : Prop :=
  match r with
  | .error c => e = .returned (.tuple #[.agg rpZ.arr, .int .i64 c]) ∧ Below w.heap.size w w'
  | .ok q => ∃ v : RsV, e = .returned (.tuple #[.agg v.arr, .int .i64 0]) ∧ v.rq = q ∧ v.ok w' ∧ Below w.heap.size w w'
theorem fBuildMany (t k : Int) (w : World) : (Instr.build 67 #[(0, .int .i64 t), (1, .int .i64 k), (3, .bool true)]).run Try.prog w = .ok (.agg (manyF t k).arr) w := by kernel_rfl
theorem readRsIs_app {l r : List Itm} {a : List RsI} (h : readRsIs l = .ok a) : readRsIs (l ++ r) = match readRsIs r with
    | .error c => .error c
    | .ok b => .ok (a ++ b) := by
  induction l generalizing a with
  | nil =>
    obtain rfl : [] = a := by injection h
    simp only [List.nil_append]
    cases readRsIs r <;> rfl
  | cons x t ih =>
    rw [readRsIs] at h
    rw [List.cons_append, readRsIs]
    cases hx : readRsI x with
    | error c => rw [hx] at h; cases h
    | ok y =>
      rw [hx] at h
      cases ht : readRsIs t with
      | error c => rw [ht] at h; cases h
      | ok b =>
        rw [ht] at h
        obtain rfl : y :: b = a := by injection h
        simp only [ih ht]
        cases readRsIs r <;> rfl
theorem readRsIs_one {l : List Itm} {a : List RsI} {k : Nat} {x : Itm} (h : readRsIs (l.take k) = .ok a) (hx : l[k]? = some x) : (∀ y, readRsI x = .ok y → readRsIs (l.take (k + 1)) = .ok (a ++ [y])) ∧ (∀ c, readRsI x = .error c → readRsIs l = .error c) := by
  constructor
  · intro y hy
    rw [List.take_add_one, hx, readRsIs_app h]
    simp [readRsIs, hy]
  · intro c hc
    rw [← List.take_append_drop k l, readRsIs_app h, List.drop_eq_getElem_cons (List.getElem?_eq_some_iff.1 hx).1, (List.getElem?_eq_some_iff.1 hx).2]
    simp [readRsIs, hc]
theorem parse_len {l : List Fld} {i : Itm} {r : List (List Itm)} (h : parseV l i = .ok r) : ∀ x ∈ r, x.length ≤ i.kids.length := by
  have step : ∀ (kids : List Itm) (st st' : Nat × List (List Itm)) (c : Nat), (∀ x ∈ st.2, x.length ≤ c) → kids.foldlM (parseStep l) st = .ok st' → ∀ x ∈ st'.2, x.length ≤ c + kids.length := by
    intro kids
    induction kids with
    | nil => intro st st' c hc h; cases h; simpa using hc
    | cons y t ih =>
      intro st st' c hc h
      rw [List.foldlM_cons] at h
      cases hs : parseStep l st y with
      | error e => rw [hs] at h; cases h
      | ok s1 =>
        rw [hs] at h
        have h1 : ∀ x ∈ s1.2, x.length ≤ c + 1 := by
          unfold parseStep at hs
          split at hs
          · cases hs
          · split at hs
            · cases hs
            · split at hs
              · cases hs
              · rename_i k _ _ _
                obtain rfl : _ = s1 := by injection hs
                intro x hx
                rcases List.mem_or_eq_of_mem_set hx with h' | h'
                · have := hc x h'; omega
                · rw [h', List.length_append]
                  have hle : (st.2.getD k []).length ≤ c := by
                    rw [List.getD_eq_getElem?_getD]
                    cases hg : st.2[k]? with
                    | none => simp
                    | some z => exact hc z (List.mem_of_getElem? hg)
                  simp only [List.length_cons, List.length_nil]; omega
        have := ih s1 st' (c + 1) h1 h
        intro x hx
        have := this x hx
        simp only [List.length_cons]; omega
  unfold parseV at h
  split at h
  · cases h
  · split at h
    · cases h
    · rename_i st hk
      split at h
      · cases h
      · simp only [Except.ok.injEq] at h
        subst h
        have := step _ _ _ 0 (fun x hx => by rw [List.eq_of_mem_replicate hx]; simp) hk
        simpa using this
theorem readRs_tag {i : Itm} (h : i.tag ≠ 4325499) : readRs i = .error 4 := by unfold readRs; rw [if_pos h]
theorem readRs_m {i : Itm} {c : Int} (h : i.tag = 4325499) (h1 : parseV rMsgF i = .error c) : readRs i = .error c := by unfold readRs; rw [if_neg (by simp [h]), h1]
theorem readRs_h {i : Itm} {c : Int} {m : List (List Itm)} (h : i.tag = 4325499) (h1 : parseV rMsgF i = .ok m) (h2 : parseV rHeadF (firstI (m.getD 0 [])) = .error c) : readRs i = .error c := by
  unfold readRs; rw [if_neg (by simp [h]), h1]; simp only [h2]
theorem readRs_v {i : Itm} {c : Int} {m h' : List (List Itm)} (h : i.tag = 4325499) (h1 : parseV rMsgF i = .ok m) (h2 : parseV rHeadF (firstI (m.getD 0 [])) = .ok h') (h3 : parseV rVerF (firstI (h'.getD 0 [])) = .error c) : readRs i = .error c := by
  unfold readRs; rw [if_neg (by simp [h]), h1]; simp only [h2, h3]
theorem readRs_i {i : Itm} {c : Int} {m h' v : List (List Itm)} (h : i.tag = 4325499) (h1 : parseV rMsgF i = .ok m) (h2 : parseV rHeadF (firstI (m.getD 0 [])) = .ok h') (h3 : parseV rVerF (firstI (h'.getD 0 [])) = .ok v) (h4 : readRsIs (m.getD 1 []) = .error c) : readRs i = .error c := by
  unfold readRs; rw [if_neg (by simp [h]), h1]; simp only [h2, h3, h4]
theorem readRs_q {i : Itm} {m h' v : List (List Itm)} {l : List RsI} (h : i.tag = 4325499) (h1 : parseV rMsgF i = .ok m) (h2 : parseV rHeadF (firstI (m.getD 0 [])) = .ok h') (h3 : parseV rVerF (firstI (h'.getD 0 [])) = .ok v) (h4 : readRsIs (m.getD 1 []) = .ok l) :
    readRs i = if numV (v.getD 0 []) 0 != 1 || numV (v.getD 1 []) 0 != 4 || numV (h'.getD 2 []) 0 != (l.length : Int) then .error 4 else .ok { time := (firstI (h'.getD 1 [])).int, items := l } := by
  unfold readRs; rw [if_neg (by simp [h]), h1]; simp only [h2, h3, h4]
theorem rread_any (v : ItV) (w : World) (hv : v.ok w) (hkid : v.it.kids.length ≤ 1000000) : Calls Try.prog 11 #[.agg v.arr] w (RsRead (readRs v.it) w) := by
  obtain ⟨i, hi, hz0, hz1, hz2⟩ := info_parts fInfo
  obtain ⟨iq, hiq, hy0, hy1, hy2⟩ := info_parts sInfo
  have HV := hid hv; have HKID := hid hkid
  clear hv hkid
  generalize hbe : w.heap.size = b
  have HBE := hid hbe; clear hbe
  have HTG : Hid (v.it.tag = v.tag) := by show _ = _; rw [ItV.it_eq]
  go_enter Try.func11, Try.ntmps11
  go_upto_region 1 with (refine wpList_alloc_obj rfl 31 rfl _ pZero ?_)
  go_simp
  have B0 := hid (Bx2.start (T := 27) (T' := 31) (cs := v.arr) (zs := rpZ.arr) (w := w) HBE.out)
  rw [HBE.out]
  have HV0 := hid (HV.out.below (((Below.refl _ w).alloc (Nat.le_refl _) (.cells v.arr 27)).alloc (by simp) (.cells rpZ.arr 31)))
  generalize (w.alloc (.cells v.arr 27)).alloc (.cells rpZ.arr 31) = W at *
  clear HV
  have c0 := cell_of_block (j := 0) B0.out.box (ar0 v)
  by_cases ht : v.tag = 4325499
  rotate_left
  · have hne : (v.tag == 4325499) = false := by simpa using ht
    have HE := hid (readRs_tag (i := v.it) (by rw [HTG.out]; exact ht))
    go_wp2_with (first | (refine wpList_build_obj rfl 31 _ rfl #[] rfl _ (pBuild0 _) ?_) | (refine wpList_store_obj rfl 31 _ _ rfl (b + 1) rfl rpZ.arr rfl _ _ B0.out.res rfl pSize (parr_one _) ?_; intro w10 hb10 hc10 hs10; have HB10 := hid hb10; have HC10 := hid hc10; clear hb10 hc10 hs10))
    refine bodyPost_ret (results_cell_tmp rfl _ _ (b + 1) _ _ _ _ rfl HB10.out Try.underlying31 rfl pSize _ rfl) rfl ?_
    rw [HE.out]
    exact ⟨rfl, by rw [HBE.out]; exact B0.out.done HC10.out⟩
  have HT : Hid (v.it.tag = 4325499) := HTG.out.trans ht
  go_upto_region 3 with (fail)
  clear c0 ht
  rcases hp1 : parseV rMsgF v.it with c | m
  · have HE := hid (readRs_m HT.out hp1)
    refine wp_region_each 10 [.eq (.agg v.arr), .eq (.agg (needF 4325498 1).arr), .eq (.agg (manyF 4325391 1).arr), stF rMsgF, .eq (.tuple #[.slice none 0 0, .int .i64 c]), .eq (.tuple #[.slice none 0 0, .int .i64 c]), .eq (.slice none 0 0), .eq (.int .i64 c), .eq (.slice none 0 0), .eq (.int .i64 c)] (by kernel_rfl) (by kernel_rfl) (by kernel_rfl) (by kernel_rfl) ?_ ?_
    · as_aux_lemma =>
        refine each_c (o' := _) ?_ (each_c (o' := _) ?_ (each_c (o' := _) ?_ (each_c (o' := _) ?_ (each_c (o' := _) ?_ (each_c (o' := _) ?_ (each_c (o' := _) ?_ (each_c (o' := _) ?_ (each_c (o' := _) ?_ (each_c (o' := _) ?_ (each_n))))))))))
        -- 0: load 27 t1
        · intro w1 hg Ar seen
          have s1 := seen.slot 1 (v := .pointer (some ⟨b, 0, none⟩)) (by kernel_rfl) rfl
          refine does_plain rfl fun K Q' hK => ?_
          refine wp_load_row 27 _ rfl b (by simp [Act.eval, s1]) _ _ _ _ ((hg.block _ (block_lt B0.out.box)).trans B0.out.box) Try.underlying27 rfl iSize ?_
          exact hK _ _ (Grow.refl _) rfl
        -- 1: call fn33<resps.need> [4325498:i64, 1:i64] T[3, 3]
        · intro w1 hg Ar seen
          refine does_plain rfl fun K Q' hK => ?_
          go_simp
          refine (sneed_any _ _ _).mono ?_
          rintro e u ⟨rfl, hb⟩
          exact hK _ _ hb rfl
        -- 2: build 67 [(0, 4325391:i64), (1, 1:i64), (3, true)]
        · intro w1 hg Ar seen
          refine does_plain rfl fun K Q' hK => ?_
          refine wp_build_obj 67 _ rfl #[(0, .int .i64 4325391), (1, .int .i64 1), (3, .bool true)] (by simp [Act.eval]) _ (fBuildMany _ _ _) ?_
          exact hK _ _ (Grow.refl _) rfl
        -- 3: buildSlice 69 2 [(0, t19), (1, t20)]
        · intro w1 hg Ar seen
          obtain ⟨v1, e1, h1⟩ := seen.dep 1 (d := 19) (by kernel_rfl) (by kernel_rfl) rfl
          rcases h1 with rfl
          obtain ⟨v2, e2, h2⟩ := seen.dep 2 (d := 20) (by kernel_rfl) (by kernel_rfl) rfl
          rcases h2 with rfl
          refine does_plain rfl fun K Q' hK => ?_
          refine wp_build_flds _ 67 2 _ rfl rMsgF rfl (by decide) (by decide) (by simp [Act.eval, e1, e2]; rfl) (fldCells rMsgF).toArray (by simp) i Try.underlying69 hi hz0 hz1 (by kernel_rfl) ?_
          intro s hs
          exact hK _ _ ((Below.refl _ _).alloc (Nat.le_refl _) _) ⟨s, rfl, hs⟩
        -- 4: call fn32<pay.Parse> [t18, t21] T[27, 69]
        · intro w1 hg Ar seen
          obtain ⟨v0, e0, h0⟩ := seen.dep 0 (d := 18) (by kernel_rfl) (by kernel_rfl) rfl
          rcases h0 with rfl
          obtain ⟨v3, e3, h3⟩ := seen.dep 3 (d := 21) (by kernel_rfl) (by kernel_rfl) rfl
          refine does_plain rfl fun K Q' hK => ?_
          obtain ⟨sf, rfl, hsf⟩ := h3
          go_simp
          refine (parse_any v sf rMsgF _ (HV0.out.below hg) hsf).mono ?_
          intro e u hres
          obtain ⟨rfl, hb⟩ := parsed_err hres hp1
          exact hK _ _ hb rfl
        -- 5: move t22
        · intro w1 hg Ar seen
          obtain ⟨v4, e4, h4⟩ := seen.dep 4 (d := 22) (by kernel_rfl) (by kernel_rfl) rfl
          rcases h4 with rfl
          refine does_plain rfl fun K Q' hK => ?_
          go_simp; exact hK _ _ (Grow.refl _) rfl
        -- 6: extract t17 0
        · intro w1 hg Ar seen
          obtain ⟨v5, e5, h5⟩ := seen.dep 5 (d := 17) (by kernel_rfl) (by kernel_rfl) rfl
          rcases h5 with rfl
          refine does_plain rfl fun K Q' hK => ?_
          go_simp; exact hK _ _ (Grow.refl _) rfl
        -- 7: extract t17 1
        · intro w1 hg Ar seen
          obtain ⟨v5, e5, h5⟩ := seen.dep 5 (d := 17) (by kernel_rfl) (by kernel_rfl) rfl
          rcases h5 with rfl
          refine does_plain rfl fun K Q' hK => ?_
          go_simp; exact hK _ _ (Grow.refl _) rfl
        -- 8: assign t23
        · intro w1 hg Ar seen
          obtain ⟨v6, e6, h6⟩ := seen.dep 6 (d := 23) (by kernel_rfl) (by kernel_rfl) rfl
          rcases h6 with rfl
          refine does_plain rfl fun K Q' hK => ?_
          go_simp; exact hK _ _ (Grow.refl _) rfl
        -- 9: assign t24
        · intro w1 hg Ar seen
          obtain ⟨v7, e7, h7⟩ := seen.dep 7 (d := 24) (by kernel_rfl) (by kernel_rfl) rfl
          rcases h7 with rfl
          refine does_plain rfl fun K Q' hK => ?_
          go_simp; exact hK _ _ (Grow.refl _) rfl
    intro w1 hg
    refine upon_w' (js := [0, 1, 2, 3, 4, 5, 6, 7, 8, 9]) (by rfl) ?_
    refine upon_c (x := some 18) (by kernel_rfl) rfl fun v0 h0 => ?_
    rcases h0 with rfl
    refine upon_c (x := some 19) (by kernel_rfl) rfl fun v1 h1 => ?_
    rcases h1 with rfl
    refine upon_c (x := some 20) (by kernel_rfl) rfl fun v2 h2 => ?_
    rcases h2 with rfl
    refine upon_c (x := some 21) (by kernel_rfl) rfl fun v3 h3 => ?_
    refine upon_c (x := some 22) (by kernel_rfl) rfl fun v4 h4 => ?_
    rcases h4 with rfl
    refine upon_c (x := some 17) (by kernel_rfl) rfl fun v5 h5 => ?_
    rcases h5 with rfl
    refine upon_c (x := some 23) (by kernel_rfl) rfl fun v6 h6 => ?_
    rcases h6 with rfl
    refine upon_c (x := some 24) (by kernel_rfl) rfl fun v7 h7 => ?_
    rcases h7 with rfl
    refine upon_c (x := some 4) (by kernel_rfl) rfl fun v8 h8 => ?_
    rcases h8 with rfl
    refine upon_c (x := some 5) (by kernel_rfl) rfl fun v9 h9 => ?_
    rcases h9 with rfl
    refine upon_n ?_
    go_simp
    have B1 := hid (B0.out.below hg)
    have hc := parse_code hp1
    have HC := hid hc
    clear hg hp1 B0 h3
    go_wp2_with (first | (refine wpList_build_obj rfl 31 _ rfl #[] rfl _ (pBuild0 _) ?_) | (refine wpList_store_obj rfl 31 _ _ rfl (b + 1) rfl rpZ.arr rfl _ _ B1.out.res rfl pSize (parr_one _) ?_; intro w10 hb10 hc10 hs10; have HB10 := hid hb10; have HC10 := hid hc10; clear hb10 hc10 hs10))
    refine bodyPost_ret (results_cell_tmp rfl _ _ (b + 1) _ _ _ _ rfl HB10.out Try.underlying31 rfl pSize _ rfl) rfl ?_
    rw [HE.out]
    exact ⟨rfl, by rw [HBE.out]; exact B1.out.done HC10.out⟩
  refine wp_region_each 10 [.eq (.agg v.arr), .eq (.agg (needF 4325498 1).arr), .eq (.agg (manyF 4325391 1).arr), stF rMsgF, stRowsT 25 27 (b + 2) (b + 2) m, stRowsT 25 27 (b + 2) (b + 2) m, stRows 25 27 (b + 2) (b + 2) m, .eq (.int .i64 0), stRows 25 27 (b + 2) (b + 2) m, .eq (.int .i64 0)] (by kernel_rfl) (by kernel_rfl) (by kernel_rfl) (by kernel_rfl) ?_ ?_
  · as_aux_lemma =>
      refine each_c (o' := _) ?_ (each_c (o' := _) ?_ (each_c (o' := _) ?_ (each_c (o' := _) ?_ (each_c (o' := _) ?_ (each_c (o' := _) ?_ (each_c (o' := _) ?_ (each_c (o' := _) ?_ (each_c (o' := _) ?_ (each_c (o' := _) ?_ (each_n))))))))))
      -- 0: load 27 t1
      · intro w1 hg Ar seen
        have s1 := seen.slot 1 (v := .pointer (some ⟨b, 0, none⟩)) (by kernel_rfl) rfl
        refine does_plain rfl fun K Q' hK => ?_
        refine wp_load_row 27 _ rfl b (by simp [Act.eval, s1]) _ _ _ _ ((hg.block _ (block_lt B0.out.box)).trans B0.out.box) Try.underlying27 rfl iSize ?_
        exact hK _ _ (Grow.refl _) rfl
      -- 1: call fn33<resps.need> [4325498:i64, 1:i64] T[3, 3]
      · intro w1 hg Ar seen
        refine does_plain rfl fun K Q' hK => ?_
        go_simp
        refine (sneed_any _ _ _).mono ?_
        rintro e u ⟨rfl, hb⟩
        exact hK _ _ hb rfl
      -- 2: build 67 [(0, 4325391:i64), (1, 1:i64), (3, true)]
      · intro w1 hg Ar seen
        refine does_plain rfl fun K Q' hK => ?_
        refine wp_build_obj 67 _ rfl #[(0, .int .i64 4325391), (1, .int .i64 1), (3, .bool true)] (by simp [Act.eval]) _ (fBuildMany _ _ _) ?_
        exact hK _ _ (Grow.refl _) rfl
      -- 3: buildSlice 69 2 [(0, t19), (1, t20)]
      · intro w1 hg Ar seen
        obtain ⟨v1, e1, h1⟩ := seen.dep 1 (d := 19) (by kernel_rfl) (by kernel_rfl) rfl
        rcases h1 with rfl
        obtain ⟨v2, e2, h2⟩ := seen.dep 2 (d := 20) (by kernel_rfl) (by kernel_rfl) rfl
        rcases h2 with rfl
        refine does_plain rfl fun K Q' hK => ?_
        refine wp_build_flds _ 67 2 _ rfl rMsgF rfl (by decide) (by decide) (by simp [Act.eval, e1, e2]; rfl) (fldCells rMsgF).toArray (by simp) i Try.underlying69 hi hz0 hz1 (by kernel_rfl) ?_
        intro s hs
        exact hK _ _ ((Below.refl _ _).alloc (Nat.le_refl _) _) ⟨s, rfl, hs⟩
      -- 4: call fn32<pay.Parse> [t18, t21] T[27, 69]
      · intro w1 hg Ar seen
        obtain ⟨v0, e0, h0⟩ := seen.dep 0 (d := 18) (by kernel_rfl) (by kernel_rfl) rfl
        rcases h0 with rfl
        obtain ⟨v3, e3, h3⟩ := seen.dep 3 (d := 21) (by kernel_rfl) (by kernel_rfl) rfl
        obtain ⟨v1, e1, h1⟩ := seen.dep 1 (d := 19) (by kernel_rfl) (by kernel_rfl) rfl
        rcases h1 with rfl
        refine does_plain rfl fun K Q' hK => ?_
        obtain ⟨sf, rfl, hsf⟩ := h3
        go_simp
        refine (parse_any v sf rMsgF _ (HV0.out.below hg) hsf).mono ?_
        intro e u hres
        obtain ⟨so, rfl, h1, hb⟩ := parsed_ok hres hp1 (Nat.le_trans B0.out.size hg.size)
        exact hK _ _ hb ⟨so, rfl, h1⟩
      -- 5: move t22
      · intro w1 hg Ar seen
        obtain ⟨v4, e4, h4⟩ := seen.dep 4 (d := 22) (by kernel_rfl) (by kernel_rfl) rfl
        refine does_plain rfl fun K Q' hK => ?_
        go_simp
        exact hK _ _ (Grow.refl _) h4
      -- 6: extract t17 0
      · intro w1 hg Ar seen
        obtain ⟨v5, e5, h5⟩ := seen.dep 5 (d := 17) (by kernel_rfl) (by kernel_rfl) rfl
        refine does_plain rfl fun K Q' hK => ?_
        obtain ⟨so, rfl, h1⟩ := h5
        go_simp
        exact hK _ _ (Grow.refl _) ⟨so, rfl, h1⟩
      -- 7: extract t17 1
      · intro w1 hg Ar seen
        obtain ⟨v5, e5, h5⟩ := seen.dep 5 (d := 17) (by kernel_rfl) (by kernel_rfl) rfl
        refine does_plain rfl fun K Q' hK => ?_
        obtain ⟨so, rfl, h1⟩ := h5
        go_simp; exact hK _ _ (Grow.refl _) rfl
      -- 8: assign t23
      · intro w1 hg Ar seen
        obtain ⟨v6, e6, h6⟩ := seen.dep 6 (d := 23) (by kernel_rfl) (by kernel_rfl) rfl
        refine does_plain rfl fun K Q' hK => ?_
        go_simp
        exact hK _ _ (Grow.refl _) h6
      -- 9: assign t24
      · intro w1 hg Ar seen
        obtain ⟨v7, e7, h7⟩ := seen.dep 7 (d := 24) (by kernel_rfl) (by kernel_rfl) rfl
        rcases h7 with rfl
        refine does_plain rfl fun K Q' hK => ?_
        go_simp; exact hK _ _ (Grow.refl _) rfl
  intro w1 hg
  refine upon_w' (js := [0, 1, 2, 3, 4, 5, 6, 7, 8, 9]) (by rfl) ?_
  refine upon_c (x := some 18) (by kernel_rfl) rfl fun v0 h0 => ?_
  rcases h0 with rfl
  refine upon_c (x := some 19) (by kernel_rfl) rfl fun v1 h1 => ?_
  rcases h1 with rfl
  refine upon_c (x := some 20) (by kernel_rfl) rfl fun v2 h2 => ?_
  rcases h2 with rfl
  refine upon_c (x := some 21) (by kernel_rfl) rfl fun v3 h3 => ?_
  refine upon_c (x := some 22) (by kernel_rfl) rfl fun v4 h4 => ?_
  refine upon_c (x := some 17) (by kernel_rfl) rfl fun v5 h5 => ?_
  refine upon_c (x := some 23) (by kernel_rfl) rfl fun v6 h6 => ?_
  refine upon_c (x := some 24) (by kernel_rfl) rfl fun v7 h7 => ?_
  rcases h7 with rfl
  refine upon_c (x := some 4) (by kernel_rfl) rfl fun v8 h8 => ?_
  refine upon_c (x := some 5) (by kernel_rfl) rfl fun v9 h9 => ?_
  rcases h9 with rfl
  refine upon_n ?_
  go_simp
  obtain ⟨so, rfl, hrow⟩ := h8
  clear h3 h4 h5 h6
  have B1 := hid (B0.out.below hg)
  have HRW := hid hrow
  clear hrow hg B0
  have hpr := parse_rows hp1
  obtain ⟨hrl, hneed⟩ := hpr
  obtain ⟨m0, m1, rfl⟩ := rows2 hrl
  obtain ⟨x0, t0, hx0⟩ := hneed 0 _ rfl rfl
  simp only [List.getElem?_cons_zero, Option.some.injEq] at hx0
  subst hx0
  obtain ⟨gm, cm, rfl⟩ := HRW.out.shape (by simp)
  have HM := HRW
  have HK6 : Hid (m1.length ≤ 1000000) := Nat.le_trans (parse_len hp1 m1 (by simp)) HKID.out
  clear hrl hneed HRW
  obtain ⟨s0, l0, g0, vh, -, -, hc0, ha0, hn0, rfl, hr0, ho0, -⟩ := HM.out.hd (k := 0) rfl
  rw [ha0] at hc0
  have HC0 := hid hc0; have HR0 := hid hr0; have HO0 := hid ho0; have HN0 := hid hn0
  clear hc0 ha0 hr0 ho0 hn0
  go_upto_region 6 with (fail)
  rcases hp2 : parseV rHeadF vh.it with c | h
  · have HE := hid (readRs_h HT.out hp1 hp2)
    refine wp_region_each 15 [.eq (.slice (some ⟨gm, 0, none⟩) 2 cm), .eq (.pointer (some ⟨gm, 0, none⟩)), .eq (.slice (some ⟨g0, 0, none⟩) s0.n s0.c), .eq (.pointer (some ⟨g0, 0, none⟩)), .eq (.agg vh.arr), .eq (.agg (needF 4325481 1).arr), .eq (.agg (needF 4325522 9).arr), .eq (.agg (needF 4325389 2).arr), stF rHeadF, .eq (.tuple #[.slice none 0 0, .int .i64 c]), .eq (.tuple #[.slice none 0 0, .int .i64 c]), .eq (.slice none 0 0), .eq (.int .i64 c), .eq (.slice none 0 0), .eq (.int .i64 c)] (by kernel_rfl) (by kernel_rfl) (by kernel_rfl) (by kernel_rfl) ?_ ?_
    · as_aux_lemma =>
        refine each_c (o' := _) ?_ (each_c (o' := _) ?_ (each_c (o' := _) ?_ (each_c (o' := _) ?_ (each_c (o' := _) ?_ (each_c (o' := _) ?_ (each_c (o' := _) ?_ (each_c (o' := _) ?_ (each_c (o' := _) ?_ (each_c (o' := _) ?_ (each_c (o' := _) ?_ (each_c (o' := _) ?_ (each_c (o' := _) ?_ (each_c (o' := _) ?_ (each_c (o' := _) ?_ (each_n)))))))))))))))
        -- 0: move t4
        · intro w1 hg Ar seen
          have s4 := seen.slot 4 (v := .slice (some ⟨gm, 0, none⟩) 2 cm) (by kernel_rfl) rfl
          refine does_plain rfl fun K Q' hK => ?_
          go_simp; exact hK _ _ (Grow.refl _) rfl
        -- 1: indexAddr 63 t30 0:i64
        · intro w1 hg Ar seen
          obtain ⟨v0, e0, h0⟩ := seen.dep 0 (d := 30) (by kernel_rfl) (by kernel_rfl) rfl
          rcases h0 with rfl
          refine does_plain rfl fun K Q' hK => ?_
          go_simp; exact hK _ _ (Grow.refl _) rfl
        -- 2: load 25 t31
        · intro w1 hg Ar seen
          obtain ⟨v1, e1, h1⟩ := seen.dep 1 (d := 31) (by kernel_rfl) (by kernel_rfl) rfl
          rcases h1 with rfl
          refine does_plain rfl fun K Q' hK => ?_
          have hc := cell_later hg HC0.out
          go_simp; exact hK _ _ (Grow.refl _) rfl
        -- 3: indexAddr 25 t32 0:i64
        · intro w1 hg Ar seen
          obtain ⟨v2, e2, h2⟩ := seen.dep 2 (d := 32) (by kernel_rfl) (by kernel_rfl) rfl
          rcases h2 with rfl
          refine does_plain rfl fun K Q' hK => ?_
          have hn := HN0.out
          go_simp; exact hK _ _ (Grow.refl _) rfl
        -- 4: load 27 t33
        · intro w1 hg Ar seen
          obtain ⟨v3, e3, h3⟩ := seen.dep 3 (d := 33) (by kernel_rfl) (by kernel_rfl) rfl
          rcases h3 with rfl
          refine does_plain rfl fun K Q' hK => ?_
          refine wp_load_mid 27 _ rfl g0 0 (by simp [Act.eval, e3]) vh.arr.toList _ (range_later hg HR0.out) Try.underlying27 rfl iSize ?_
          exact hK _ _ (Grow.refl _) rfl
        -- 5: call fn33<resps.need> [4325481:i64, 1:i64] T[3, 3]
        · intro w1 hg Ar seen
          refine does_plain rfl fun K Q' hK => ?_
          go_simp
          refine (sneed_any _ _ _).mono ?_
          rintro e u ⟨rfl, hb⟩
          exact hK _ _ hb rfl
        -- 6: call fn33<resps.need> [4325522:i64, 9:i64] T[3, 3]
        · intro w1 hg Ar seen
          refine does_plain rfl fun K Q' hK => ?_
          go_simp
          refine (sneed_any _ _ _).mono ?_
          rintro e u ⟨rfl, hb⟩
          exact hK _ _ hb rfl
        -- 7: call fn33<resps.need> [4325389:i64, 2:i64] T[3, 3]
        · intro w1 hg Ar seen
          refine does_plain rfl fun K Q' hK => ?_
          go_simp
          refine (sneed_any _ _ _).mono ?_
          rintro e u ⟨rfl, hb⟩
          exact hK _ _ hb rfl
        -- 8: buildSlice 69 3 [(0, t35), (1, t36), (2, t37)]
        · intro w1 hg Ar seen
          obtain ⟨v5, e5, h5⟩ := seen.dep 5 (d := 35) (by kernel_rfl) (by kernel_rfl) rfl
          rcases h5 with rfl
          obtain ⟨v6, e6, h6⟩ := seen.dep 6 (d := 36) (by kernel_rfl) (by kernel_rfl) rfl
          rcases h6 with rfl
          obtain ⟨v7, e7, h7⟩ := seen.dep 7 (d := 37) (by kernel_rfl) (by kernel_rfl) rfl
          rcases h7 with rfl
          refine does_plain rfl fun K Q' hK => ?_
          refine wp_build_flds _ 67 3 _ rfl rHeadF rfl (by decide) (by decide) (by simp [Act.eval, e5, e6, e7]; rfl) (fldCells rHeadF).toArray (by simp) i Try.underlying69 hi hz0 hz1 (by kernel_rfl) ?_
          intro s hs
          exact hK _ _ ((Below.refl _ _).alloc (Nat.le_refl _) _) ⟨s, rfl, hs⟩
        -- 9: call fn32<pay.Parse> [t34, t38] T[27, 69]
        · intro w1 hg Ar seen
          obtain ⟨v4, e4, h4⟩ := seen.dep 4 (d := 34) (by kernel_rfl) (by kernel_rfl) rfl
          rcases h4 with rfl
          obtain ⟨v8, e8, h8⟩ := seen.dep 8 (d := 38) (by kernel_rfl) (by kernel_rfl) rfl
          refine does_plain rfl fun K Q' hK => ?_
          obtain ⟨sf, rfl, hsf⟩ := h8
          go_simp
          refine (parse_any vh sf rHeadF _ (HO0.out.below hg) hsf).mono ?_
          intro e u hres
          obtain ⟨rfl, hb⟩ := parsed_err hres hp2
          exact hK _ _ hb rfl
        -- 10: move t39
        · intro w1 hg Ar seen
          obtain ⟨v9, e9, h9⟩ := seen.dep 9 (d := 39) (by kernel_rfl) (by kernel_rfl) rfl
          rcases h9 with rfl
          refine does_plain rfl fun K Q' hK => ?_
          go_simp; exact hK _ _ (Grow.refl _) rfl
        -- 11: extract t29 0
        · intro w1 hg Ar seen
          obtain ⟨v10, e10, h10⟩ := seen.dep 10 (d := 29) (by kernel_rfl) (by kernel_rfl) rfl
          rcases h10 with rfl
          refine does_plain rfl fun K Q' hK => ?_
          go_simp; exact hK _ _ (Grow.refl _) rfl
        -- 12: extract t29 1
        · intro w1 hg Ar seen
          obtain ⟨v10, e10, h10⟩ := seen.dep 10 (d := 29) (by kernel_rfl) (by kernel_rfl) rfl
          rcases h10 with rfl
          refine does_plain rfl fun K Q' hK => ?_
          go_simp; exact hK _ _ (Grow.refl _) rfl
        -- 13: assign t40
        · intro w1 hg Ar seen
          obtain ⟨v11, e11, h11⟩ := seen.dep 11 (d := 40) (by kernel_rfl) (by kernel_rfl) rfl
          rcases h11 with rfl
          refine does_plain rfl fun K Q' hK => ?_
          go_simp; exact hK _ _ (Grow.refl _) rfl
        -- 14: assign t41
        · intro w1 hg Ar seen
          obtain ⟨v12, e12, h12⟩ := seen.dep 12 (d := 41) (by kernel_rfl) (by kernel_rfl) rfl
          rcases h12 with rfl
          refine does_plain rfl fun K Q' hK => ?_
          go_simp; exact hK _ _ (Grow.refl _) rfl
    intro w1 hg
    refine upon_w' (js := [0, 1, 2, 3, 4, 5, 6, 7, 8, 9, 10, 11, 12, 13, 14]) (by rfl) ?_
    refine upon_c (x := some 30) (by kernel_rfl) rfl fun v0 h0 => ?_
    rcases h0 with rfl
    refine upon_c (x := some 31) (by kernel_rfl) rfl fun v1 h1 => ?_
    rcases h1 with rfl
    refine upon_c (x := some 32) (by kernel_rfl) rfl fun v2 h2 => ?_
    rcases h2 with rfl
    refine upon_c (x := some 33) (by kernel_rfl) rfl fun v3 h3 => ?_
    rcases h3 with rfl
    refine upon_c (x := some 34) (by kernel_rfl) rfl fun v4 h4 => ?_
    rcases h4 with rfl
    refine upon_c (x := some 35) (by kernel_rfl) rfl fun v5 h5 => ?_
    rcases h5 with rfl
    refine upon_c (x := some 36) (by kernel_rfl) rfl fun v6 h6 => ?_
    rcases h6 with rfl
    refine upon_c (x := some 37) (by kernel_rfl) rfl fun v7 h7 => ?_
    rcases h7 with rfl
    refine upon_c (x := some 38) (by kernel_rfl) rfl fun v8 h8 => ?_
    refine upon_c (x := some 39) (by kernel_rfl) rfl fun v9 h9 => ?_
    rcases h9 with rfl
    refine upon_c (x := some 29) (by kernel_rfl) rfl fun v10 h10 => ?_
    rcases h10 with rfl
    refine upon_c (x := some 40) (by kernel_rfl) rfl fun v11 h11 => ?_
    rcases h11 with rfl
    refine upon_c (x := some 41) (by kernel_rfl) rfl fun v12 h12 => ?_
    rcases h12 with rfl
    refine upon_c (x := some 6) (by kernel_rfl) rfl fun v13 h13 => ?_
    rcases h13 with rfl
    refine upon_c (x := some 5) (by kernel_rfl) rfl fun v14 h14 => ?_
    rcases h14 with rfl
    refine upon_n ?_
    go_simp
    have B2 := hid (B1.out.below hg)
    have hc := parse_code hp2
    have HC := hid hc
    clear hg hp2 B1 h8
    go_wp2_with (first | (refine wpList_build_obj rfl 31 _ rfl #[] rfl _ (pBuild0 _) ?_) | (refine wpList_store_obj rfl 31 _ _ rfl (b + 1) rfl rpZ.arr rfl _ _ B2.out.res rfl pSize (parr_one _) ?_; intro w10 hb10 hc10 hs10; have HB10 := hid hb10; have HC10 := hid hc10; clear hb10 hc10 hs10))
    refine bodyPost_ret (results_cell_tmp rfl _ _ (b + 1) _ _ _ _ rfl HB10.out Try.underlying31 rfl pSize _ rfl) rfl ?_
    rw [HE.out]
    exact ⟨rfl, by rw [HBE.out]; exact B2.out.done HC10.out⟩
  refine wp_region_each 15 [.eq (.slice (some ⟨gm, 0, none⟩) 2 cm), .eq (.pointer (some ⟨gm, 0, none⟩)), .eq (.slice (some ⟨g0, 0, none⟩) s0.n s0.c), .eq (.pointer (some ⟨g0, 0, none⟩)), .eq (.agg vh.arr), .eq (.agg (needF 4325481 1).arr), .eq (.agg (needF 4325522 9).arr), .eq (.agg (needF 4325389 2).arr), stF rHeadF, stRowsT 25 27 (b + 2) (b + 2) h, stRowsT 25 27 (b + 2) (b + 2) h, stRows 25 27 (b + 2) (b + 2) h, .eq (.int .i64 0), stRows 25 27 (b + 2) (b + 2) h, .eq (.int .i64 0)] (by kernel_rfl) (by kernel_rfl) (by kernel_rfl) (by kernel_rfl) ?_ ?_
  · as_aux_lemma =>
      refine each_c (o' := _) ?_ (each_c (o' := _) ?_ (each_c (o' := _) ?_ (each_c (o' := _) ?_ (each_c (o' := _) ?_ (each_c (o' := _) ?_ (each_c (o' := _) ?_ (each_c (o' := _) ?_ (each_c (o' := _) ?_ (each_c (o' := _) ?_ (each_c (o' := _) ?_ (each_c (o' := _) ?_ (each_c (o' := _) ?_ (each_c (o' := _) ?_ (each_c (o' := _) ?_ (each_n)))))))))))))))
      -- 0: move t4
      · intro w1 hg Ar seen
        have s4 := seen.slot 4 (v := .slice (some ⟨gm, 0, none⟩) 2 cm) (by kernel_rfl) rfl
        refine does_plain rfl fun K Q' hK => ?_
        go_simp; exact hK _ _ (Grow.refl _) rfl
      -- 1: indexAddr 63 t30 0:i64
      · intro w1 hg Ar seen
        obtain ⟨v0, e0, h0⟩ := seen.dep 0 (d := 30) (by kernel_rfl) (by kernel_rfl) rfl
        rcases h0 with rfl
        refine does_plain rfl fun K Q' hK => ?_
        go_simp; exact hK _ _ (Grow.refl _) rfl
      -- 2: load 25 t31
      · intro w1 hg Ar seen
        obtain ⟨v1, e1, h1⟩ := seen.dep 1 (d := 31) (by kernel_rfl) (by kernel_rfl) rfl
        rcases h1 with rfl
        refine does_plain rfl fun K Q' hK => ?_
        have hc := cell_later hg HC0.out
        go_simp; exact hK _ _ (Grow.refl _) rfl
      -- 3: indexAddr 25 t32 0:i64
      · intro w1 hg Ar seen
        obtain ⟨v2, e2, h2⟩ := seen.dep 2 (d := 32) (by kernel_rfl) (by kernel_rfl) rfl
        rcases h2 with rfl
        refine does_plain rfl fun K Q' hK => ?_
        have hn := HN0.out
        go_simp; exact hK _ _ (Grow.refl _) rfl
      -- 4: load 27 t33
      · intro w1 hg Ar seen
        obtain ⟨v3, e3, h3⟩ := seen.dep 3 (d := 33) (by kernel_rfl) (by kernel_rfl) rfl
        rcases h3 with rfl
        refine does_plain rfl fun K Q' hK => ?_
        refine wp_load_mid 27 _ rfl g0 0 (by simp [Act.eval, e3]) vh.arr.toList _ (range_later hg HR0.out) Try.underlying27 rfl iSize ?_
        exact hK _ _ (Grow.refl _) rfl
      -- 5: call fn33<resps.need> [4325481:i64, 1:i64] T[3, 3]
      · intro w1 hg Ar seen
        refine does_plain rfl fun K Q' hK => ?_
        go_simp
        refine (sneed_any _ _ _).mono ?_
        rintro e u ⟨rfl, hb⟩
        exact hK _ _ hb rfl
      -- 6: call fn33<resps.need> [4325522:i64, 9:i64] T[3, 3]
      · intro w1 hg Ar seen
        refine does_plain rfl fun K Q' hK => ?_
        go_simp
        refine (sneed_any _ _ _).mono ?_
        rintro e u ⟨rfl, hb⟩
        exact hK _ _ hb rfl
      -- 7: call fn33<resps.need> [4325389:i64, 2:i64] T[3, 3]
      · intro w1 hg Ar seen
        refine does_plain rfl fun K Q' hK => ?_
        go_simp
        refine (sneed_any _ _ _).mono ?_
        rintro e u ⟨rfl, hb⟩
        exact hK _ _ hb rfl
      -- 8: buildSlice 69 3 [(0, t35), (1, t36), (2, t37)]
      · intro w1 hg Ar seen
        obtain ⟨v5, e5, h5⟩ := seen.dep 5 (d := 35) (by kernel_rfl) (by kernel_rfl) rfl
        rcases h5 with rfl
        obtain ⟨v6, e6, h6⟩ := seen.dep 6 (d := 36) (by kernel_rfl) (by kernel_rfl) rfl
        rcases h6 with rfl
        obtain ⟨v7, e7, h7⟩ := seen.dep 7 (d := 37) (by kernel_rfl) (by kernel_rfl) rfl
        rcases h7 with rfl
        refine does_plain rfl fun K Q' hK => ?_
        refine wp_build_flds _ 67 3 _ rfl rHeadF rfl (by decide) (by decide) (by simp [Act.eval, e5, e6, e7]; rfl) (fldCells rHeadF).toArray (by simp) i Try.underlying69 hi hz0 hz1 (by kernel_rfl) ?_
        intro s hs
        exact hK _ _ ((Below.refl _ _).alloc (Nat.le_refl _) _) ⟨s, rfl, hs⟩
      -- 9: call fn32<pay.Parse> [t34, t38] T[27, 69]
      · intro w1 hg Ar seen
        obtain ⟨v4, e4, h4⟩ := seen.dep 4 (d := 34) (by kernel_rfl) (by kernel_rfl) rfl
        rcases h4 with rfl
        obtain ⟨v8, e8, h8⟩ := seen.dep 8 (d := 38) (by kernel_rfl) (by kernel_rfl) rfl
        refine does_plain rfl fun K Q' hK => ?_
        obtain ⟨sf, rfl, hsf⟩ := h8
        go_simp
        refine (parse_any vh sf rHeadF _ (HO0.out.below hg) hsf).mono ?_
        intro e u hres
        obtain ⟨so, rfl, h1, hb⟩ := parsed_ok hres hp2 (Nat.le_trans B1.out.size hg.size)
        exact hK _ _ hb ⟨so, rfl, h1⟩
      -- 10: move t39
      · intro w1 hg Ar seen
        obtain ⟨v9, e9, h9⟩ := seen.dep 9 (d := 39) (by kernel_rfl) (by kernel_rfl) rfl
        refine does_plain rfl fun K Q' hK => ?_
        go_simp
        exact hK _ _ (Grow.refl _) h9
      -- 11: extract t29 0
      · intro w1 hg Ar seen
        obtain ⟨v10, e10, h10⟩ := seen.dep 10 (d := 29) (by kernel_rfl) (by kernel_rfl) rfl
        refine does_plain rfl fun K Q' hK => ?_
        obtain ⟨so, rfl, h1⟩ := h10
        go_simp
        exact hK _ _ (Grow.refl _) ⟨so, rfl, h1⟩
      -- 12: extract t29 1
      · intro w1 hg Ar seen
        obtain ⟨v10, e10, h10⟩ := seen.dep 10 (d := 29) (by kernel_rfl) (by kernel_rfl) rfl
        refine does_plain rfl fun K Q' hK => ?_
        obtain ⟨so, rfl, h1⟩ := h10
        go_simp; exact hK _ _ (Grow.refl _) rfl
      -- 13: assign t40
      · intro w1 hg Ar seen
        obtain ⟨v11, e11, h11⟩ := seen.dep 11 (d := 40) (by kernel_rfl) (by kernel_rfl) rfl
        refine does_plain rfl fun K Q' hK => ?_
        go_simp
        exact hK _ _ (Grow.refl _) h11
      -- 14: assign t41
      · intro w1 hg Ar seen
        obtain ⟨v12, e12, h12⟩ := seen.dep 12 (d := 41) (by kernel_rfl) (by kernel_rfl) rfl
        rcases h12 with rfl
        refine does_plain rfl fun K Q' hK => ?_
        go_simp; exact hK _ _ (Grow.refl _) rfl
  intro w1 hg
  refine upon_w' (js := [0, 1, 2, 3, 4, 5, 6, 7, 8, 9, 10, 11, 12, 13, 14]) (by rfl) ?_
  refine upon_c (x := some 30) (by kernel_rfl) rfl fun v0 h0 => ?_
  rcases h0 with rfl
  refine upon_c (x := some 31) (by kernel_rfl) rfl fun v1 h1 => ?_
  rcases h1 with rfl
  refine upon_c (x := some 32) (by kernel_rfl) rfl fun v2 h2 => ?_
  rcases h2 with rfl
  refine upon_c (x := some 33) (by kernel_rfl) rfl fun v3 h3 => ?_
  rcases h3 with rfl
  refine upon_c (x := some 34) (by kernel_rfl) rfl fun v4 h4 => ?_
  rcases h4 with rfl
  refine upon_c (x := some 35) (by kernel_rfl) rfl fun v5 h5 => ?_
  rcases h5 with rfl
  refine upon_c (x := some 36) (by kernel_rfl) rfl fun v6 h6 => ?_
  rcases h6 with rfl
  refine upon_c (x := some 37) (by kernel_rfl) rfl fun v7 h7 => ?_
  rcases h7 with rfl
  refine upon_c (x := some 38) (by kernel_rfl) rfl fun v8 h8 => ?_
  refine upon_c (x := some 39) (by kernel_rfl) rfl fun v9 h9 => ?_
  refine upon_c (x := some 29) (by kernel_rfl) rfl fun v10 h10 => ?_
  refine upon_c (x := some 40) (by kernel_rfl) rfl fun v11 h11 => ?_
  refine upon_c (x := some 41) (by kernel_rfl) rfl fun v12 h12 => ?_
  rcases h12 with rfl
  refine upon_c (x := some 6) (by kernel_rfl) rfl fun v13 h13 => ?_
  refine upon_c (x := some 5) (by kernel_rfl) rfl fun v14 h14 => ?_
  rcases h14 with rfl
  refine upon_n ?_
  go_simp
  obtain ⟨so, rfl, hrow⟩ := h13
  clear h8 h9 h10 h11
  have B2 := hid (B1.out.below hg)
  have HM2 := hid (HM.out.below hg)
  have HRW := hid hrow
  clear hrow hg B1 HM
  have hpr := parse_rows hp2
  obtain ⟨hrl, hneed⟩ := hpr
  obtain ⟨y0, y1, y2, rfl⟩ := rows3 hrl
  obtain ⟨x0, u0, hx0⟩ := hneed 0 _ rfl rfl
  obtain ⟨x1, u1, hx1⟩ := hneed 1 _ rfl rfl
  simp only [List.getElem?_cons_zero, List.getElem?_cons_succ, Option.some.injEq] at hx0 hx1
  subst hx0; subst hx1
  obtain ⟨gh, ch, rfl⟩ := HRW.out.shape (by simp)
  have HH := HRW
  clear hrl hneed HRW HC0 HR0 HO0 HN0
  obtain ⟨s0, l0, g0, vv, -, -, hc0, ha0, hn0, rfl, hr0, ho0, -⟩ := HH.out.hd (k := 0) rfl
  rw [ha0] at hc0
  have HC0 := hid hc0; have HR0 := hid hr0; have HO0 := hid ho0; have HN0 := hid hn0
  clear hc0 ha0 hr0 ho0 hn0
  go_upto_region 9 with (fail)
  rcases hp3 : parseV rVerF vv.it with c | n
  · have HE := hid (readRs_v HT.out hp1 hp2 hp3)
    refine wp_region_each 14 [.eq (.slice (some ⟨gh, 0, none⟩) 3 ch), .eq (.pointer (some ⟨gh, 0, none⟩)), .eq (.slice (some ⟨g0, 0, none⟩) s0.n s0.c), .eq (.pointer (some ⟨g0, 0, none⟩)), .eq (.agg vv.arr), .eq (.agg (needF 4325482 2).arr), .eq (.agg (needF 4325483 2).arr), stF rVerF, .eq (.tuple #[.slice none 0 0, .int .i64 c]), .eq (.tuple #[.slice none 0 0, .int .i64 c]), .eq (.slice none 0 0), .eq (.int .i64 c), .eq (.slice none 0 0), .eq (.int .i64 c)] (by kernel_rfl) (by kernel_rfl) (by kernel_rfl) (by kernel_rfl) ?_ ?_
    · as_aux_lemma =>
        refine each_c (o' := _) ?_ (each_c (o' := _) ?_ (each_c (o' := _) ?_ (each_c (o' := _) ?_ (each_c (o' := _) ?_ (each_c (o' := _) ?_ (each_c (o' := _) ?_ (each_c (o' := _) ?_ (each_c (o' := _) ?_ (each_c (o' := _) ?_ (each_c (o' := _) ?_ (each_c (o' := _) ?_ (each_c (o' := _) ?_ (each_c (o' := _) ?_ (each_n))))))))))))))
        -- 0: move t6
        · intro w1 hg Ar seen
          have s6 := seen.slot 6 (v := .slice (some ⟨gh, 0, none⟩) 3 ch) (by kernel_rfl) rfl
          refine does_plain rfl fun K Q' hK => ?_
          go_simp; exact hK _ _ (Grow.refl _) rfl
        -- 1: indexAddr 63 t47 0:i64
        · intro w1 hg Ar seen
          obtain ⟨v0, e0, h0⟩ := seen.dep 0 (d := 47) (by kernel_rfl) (by kernel_rfl) rfl
          rcases h0 with rfl
          refine does_plain rfl fun K Q' hK => ?_
          go_simp; exact hK _ _ (Grow.refl _) rfl
        -- 2: load 25 t48
        · intro w1 hg Ar seen
          obtain ⟨v1, e1, h1⟩ := seen.dep 1 (d := 48) (by kernel_rfl) (by kernel_rfl) rfl
          rcases h1 with rfl
          refine does_plain rfl fun K Q' hK => ?_
          have hc := cell_later hg HC0.out
          go_simp; exact hK _ _ (Grow.refl _) rfl
        -- 3: indexAddr 25 t49 0:i64
        · intro w1 hg Ar seen
          obtain ⟨v2, e2, h2⟩ := seen.dep 2 (d := 49) (by kernel_rfl) (by kernel_rfl) rfl
          rcases h2 with rfl
          refine does_plain rfl fun K Q' hK => ?_
          have hn := HN0.out
          go_simp; exact hK _ _ (Grow.refl _) rfl
        -- 4: load 27 t50
        · intro w1 hg Ar seen
          obtain ⟨v3, e3, h3⟩ := seen.dep 3 (d := 50) (by kernel_rfl) (by kernel_rfl) rfl
          rcases h3 with rfl
          refine does_plain rfl fun K Q' hK => ?_
          refine wp_load_mid 27 _ rfl g0 0 (by simp [Act.eval, e3]) vv.arr.toList _ (range_later hg HR0.out) Try.underlying27 rfl iSize ?_
          exact hK _ _ (Grow.refl _) rfl
        -- 5: call fn33<resps.need> [4325482:i64, 2:i64] T[3, 3]
        · intro w1 hg Ar seen
          refine does_plain rfl fun K Q' hK => ?_
          go_simp
          refine (sneed_any _ _ _).mono ?_
          rintro e u ⟨rfl, hb⟩
          exact hK _ _ hb rfl
        -- 6: call fn33<resps.need> [4325483:i64, 2:i64] T[3, 3]
        · intro w1 hg Ar seen
          refine does_plain rfl fun K Q' hK => ?_
          go_simp
          refine (sneed_any _ _ _).mono ?_
          rintro e u ⟨rfl, hb⟩
          exact hK _ _ hb rfl
        -- 7: buildSlice 69 2 [(0, t52), (1, t53)]
        · intro w1 hg Ar seen
          obtain ⟨v5, e5, h5⟩ := seen.dep 5 (d := 52) (by kernel_rfl) (by kernel_rfl) rfl
          rcases h5 with rfl
          obtain ⟨v6, e6, h6⟩ := seen.dep 6 (d := 53) (by kernel_rfl) (by kernel_rfl) rfl
          rcases h6 with rfl
          refine does_plain rfl fun K Q' hK => ?_
          refine wp_build_flds _ 67 2 _ rfl rVerF rfl (by decide) (by decide) (by simp [Act.eval, e5, e6]; rfl) (fldCells rVerF).toArray (by simp) i Try.underlying69 hi hz0 hz1 (by kernel_rfl) ?_
          intro s hs
          exact hK _ _ ((Below.refl _ _).alloc (Nat.le_refl _) _) ⟨s, rfl, hs⟩
        -- 8: call fn32<pay.Parse> [t51, t54] T[27, 69]
        · intro w1 hg Ar seen
          obtain ⟨v4, e4, h4⟩ := seen.dep 4 (d := 51) (by kernel_rfl) (by kernel_rfl) rfl
          rcases h4 with rfl
          obtain ⟨v7, e7, h7⟩ := seen.dep 7 (d := 54) (by kernel_rfl) (by kernel_rfl) rfl
          refine does_plain rfl fun K Q' hK => ?_
          obtain ⟨sf, rfl, hsf⟩ := h7
          go_simp
          refine (parse_any vv sf rVerF _ (HO0.out.below hg) hsf).mono ?_
          intro e u hres
          obtain ⟨rfl, hb⟩ := parsed_err hres hp3
          exact hK _ _ hb rfl
        -- 9: move t55
        · intro w1 hg Ar seen
          obtain ⟨v8, e8, h8⟩ := seen.dep 8 (d := 55) (by kernel_rfl) (by kernel_rfl) rfl
          rcases h8 with rfl
          refine does_plain rfl fun K Q' hK => ?_
          go_simp; exact hK _ _ (Grow.refl _) rfl
        -- 10: extract t46 0
        · intro w1 hg Ar seen
          obtain ⟨v9, e9, h9⟩ := seen.dep 9 (d := 46) (by kernel_rfl) (by kernel_rfl) rfl
          rcases h9 with rfl
          refine does_plain rfl fun K Q' hK => ?_
          go_simp; exact hK _ _ (Grow.refl _) rfl
        -- 11: extract t46 1
        · intro w1 hg Ar seen
          obtain ⟨v9, e9, h9⟩ := seen.dep 9 (d := 46) (by kernel_rfl) (by kernel_rfl) rfl
          rcases h9 with rfl
          refine does_plain rfl fun K Q' hK => ?_
          go_simp; exact hK _ _ (Grow.refl _) rfl
        -- 12: assign t56
        · intro w1 hg Ar seen
          obtain ⟨v10, e10, h10⟩ := seen.dep 10 (d := 56) (by kernel_rfl) (by kernel_rfl) rfl
          rcases h10 with rfl
          refine does_plain rfl fun K Q' hK => ?_
          go_simp; exact hK _ _ (Grow.refl _) rfl
        -- 13: assign t57
        · intro w1 hg Ar seen
          obtain ⟨v11, e11, h11⟩ := seen.dep 11 (d := 57) (by kernel_rfl) (by kernel_rfl) rfl
          rcases h11 with rfl
          refine does_plain rfl fun K Q' hK => ?_
          go_simp; exact hK _ _ (Grow.refl _) rfl
    intro w1 hg
    refine upon_w' (js := [0, 1, 2, 3, 4, 5, 6, 7, 8, 9, 10, 11, 12, 13]) (by rfl) ?_
    refine upon_c (x := some 47) (by kernel_rfl) rfl fun v0 h0 => ?_
    rcases h0 with rfl
    refine upon_c (x := some 48) (by kernel_rfl) rfl fun v1 h1 => ?_
    rcases h1 with rfl
    refine upon_c (x := some 49) (by kernel_rfl) rfl fun v2 h2 => ?_
    rcases h2 with rfl
    refine upon_c (x := some 50) (by kernel_rfl) rfl fun v3 h3 => ?_
    rcases h3 with rfl
    refine upon_c (x := some 51) (by kernel_rfl) rfl fun v4 h4 => ?_
    rcases h4 with rfl
    refine upon_c (x := some 52) (by kernel_rfl) rfl fun v5 h5 => ?_
    rcases h5 with rfl
    refine upon_c (x := some 53) (by kernel_rfl) rfl fun v6 h6 => ?_
    rcases h6 with rfl
    refine upon_c (x := some 54) (by kernel_rfl) rfl fun v7 h7 => ?_
    refine upon_c (x := some 55) (by kernel_rfl) rfl fun v8 h8 => ?_
    rcases h8 with rfl
    refine upon_c (x := some 46) (by kernel_rfl) rfl fun v9 h9 => ?_
    rcases h9 with rfl
    refine upon_c (x := some 56) (by kernel_rfl) rfl fun v10 h10 => ?_
    rcases h10 with rfl
    refine upon_c (x := some 57) (by kernel_rfl) rfl fun v11 h11 => ?_
    rcases h11 with rfl
    refine upon_c (x := some 7) (by kernel_rfl) rfl fun v12 h12 => ?_
    rcases h12 with rfl
    refine upon_c (x := some 5) (by kernel_rfl) rfl fun v13 h13 => ?_
    rcases h13 with rfl
    refine upon_n ?_
    go_simp
    have B3 := hid (B2.out.below hg)
    have hc := parse_code hp3
    have HC := hid hc
    clear hg hp3 B2 h7
    go_wp2_with (first | (refine wpList_build_obj rfl 31 _ rfl #[] rfl _ (pBuild0 _) ?_) | (refine wpList_store_obj rfl 31 _ _ rfl (b + 1) rfl rpZ.arr rfl _ _ B3.out.res rfl pSize (parr_one _) ?_; intro w10 hb10 hc10 hs10; have HB10 := hid hb10; have HC10 := hid hc10; clear hb10 hc10 hs10))
    refine bodyPost_ret (results_cell_tmp rfl _ _ (b + 1) _ _ _ _ rfl HB10.out Try.underlying31 rfl pSize _ rfl) rfl ?_
    rw [HE.out]
    exact ⟨rfl, by rw [HBE.out]; exact B3.out.done HC10.out⟩
  refine wp_region_each 14 [.eq (.slice (some ⟨gh, 0, none⟩) 3 ch), .eq (.pointer (some ⟨gh, 0, none⟩)), .eq (.slice (some ⟨g0, 0, none⟩) s0.n s0.c), .eq (.pointer (some ⟨g0, 0, none⟩)), .eq (.agg vv.arr), .eq (.agg (needF 4325482 2).arr), .eq (.agg (needF 4325483 2).arr), stF rVerF, stRowsT 25 27 (b + 2) (b + 2) n, stRowsT 25 27 (b + 2) (b + 2) n, stRows 25 27 (b + 2) (b + 2) n, .eq (.int .i64 0), stRows 25 27 (b + 2) (b + 2) n, .eq (.int .i64 0)] (by kernel_rfl) (by kernel_rfl) (by kernel_rfl) (by kernel_rfl) ?_ ?_
  · as_aux_lemma =>
      refine each_c (o' := _) ?_ (each_c (o' := _) ?_ (each_c (o' := _) ?_ (each_c (o' := _) ?_ (each_c (o' := _) ?_ (each_c (o' := _) ?_ (each_c (o' := _) ?_ (each_c (o' := _) ?_ (each_c (o' := _) ?_ (each_c (o' := _) ?_ (each_c (o' := _) ?_ (each_c (o' := _) ?_ (each_c (o' := _) ?_ (each_c (o' := _) ?_ (each_n))))))))))))))
      -- 0: move t6
      · intro w1 hg Ar seen
        have s6 := seen.slot 6 (v := .slice (some ⟨gh, 0, none⟩) 3 ch) (by kernel_rfl) rfl
        refine does_plain rfl fun K Q' hK => ?_
        go_simp; exact hK _ _ (Grow.refl _) rfl
      -- 1: indexAddr 63 t47 0:i64
      · intro w1 hg Ar seen
        obtain ⟨v0, e0, h0⟩ := seen.dep 0 (d := 47) (by kernel_rfl) (by kernel_rfl) rfl
        rcases h0 with rfl
        refine does_plain rfl fun K Q' hK => ?_
        go_simp; exact hK _ _ (Grow.refl _) rfl
      -- 2: load 25 t48
      · intro w1 hg Ar seen
        obtain ⟨v1, e1, h1⟩ := seen.dep 1 (d := 48) (by kernel_rfl) (by kernel_rfl) rfl
        rcases h1 with rfl
        refine does_plain rfl fun K Q' hK => ?_
        have hc := cell_later hg HC0.out
        go_simp; exact hK _ _ (Grow.refl _) rfl
      -- 3: indexAddr 25 t49 0:i64
      · intro w1 hg Ar seen
        obtain ⟨v2, e2, h2⟩ := seen.dep 2 (d := 49) (by kernel_rfl) (by kernel_rfl) rfl
        rcases h2 with rfl
        refine does_plain rfl fun K Q' hK => ?_
        have hn := HN0.out
        go_simp; exact hK _ _ (Grow.refl _) rfl
      -- 4: load 27 t50
      · intro w1 hg Ar seen
        obtain ⟨v3, e3, h3⟩ := seen.dep 3 (d := 50) (by kernel_rfl) (by kernel_rfl) rfl
        rcases h3 with rfl
        refine does_plain rfl fun K Q' hK => ?_
        refine wp_load_mid 27 _ rfl g0 0 (by simp [Act.eval, e3]) vv.arr.toList _ (range_later hg HR0.out) Try.underlying27 rfl iSize ?_
        exact hK _ _ (Grow.refl _) rfl
      -- 5: call fn33<resps.need> [4325482:i64, 2:i64] T[3, 3]
      · intro w1 hg Ar seen
        refine does_plain rfl fun K Q' hK => ?_
        go_simp
        refine (sneed_any _ _ _).mono ?_
        rintro e u ⟨rfl, hb⟩
        exact hK _ _ hb rfl
      -- 6: call fn33<resps.need> [4325483:i64, 2:i64] T[3, 3]
      · intro w1 hg Ar seen
        refine does_plain rfl fun K Q' hK => ?_
        go_simp
        refine (sneed_any _ _ _).mono ?_
        rintro e u ⟨rfl, hb⟩
        exact hK _ _ hb rfl
      -- 7: buildSlice 69 2 [(0, t52), (1, t53)]
      · intro w1 hg Ar seen
        obtain ⟨v5, e5, h5⟩ := seen.dep 5 (d := 52) (by kernel_rfl) (by kernel_rfl) rfl
        rcases h5 with rfl
        obtain ⟨v6, e6, h6⟩ := seen.dep 6 (d := 53) (by kernel_rfl) (by kernel_rfl) rfl
        rcases h6 with rfl
        refine does_plain rfl fun K Q' hK => ?_
        refine wp_build_flds _ 67 2 _ rfl rVerF rfl (by decide) (by decide) (by simp [Act.eval, e5, e6]; rfl) (fldCells rVerF).toArray (by simp) i Try.underlying69 hi hz0 hz1 (by kernel_rfl) ?_
        intro s hs
        exact hK _ _ ((Below.refl _ _).alloc (Nat.le_refl _) _) ⟨s, rfl, hs⟩
      -- 8: call fn32<pay.Parse> [t51, t54] T[27, 69]
      · intro w1 hg Ar seen
        obtain ⟨v4, e4, h4⟩ := seen.dep 4 (d := 51) (by kernel_rfl) (by kernel_rfl) rfl
        rcases h4 with rfl
        obtain ⟨v7, e7, h7⟩ := seen.dep 7 (d := 54) (by kernel_rfl) (by kernel_rfl) rfl
        refine does_plain rfl fun K Q' hK => ?_
        obtain ⟨sf, rfl, hsf⟩ := h7
        go_simp
        refine (parse_any vv sf rVerF _ (HO0.out.below hg) hsf).mono ?_
        intro e u hres
        obtain ⟨so, rfl, h1, hb⟩ := parsed_ok hres hp3 (Nat.le_trans B2.out.size hg.size)
        exact hK _ _ hb ⟨so, rfl, h1⟩
      -- 9: move t55
      · intro w1 hg Ar seen
        obtain ⟨v8, e8, h8⟩ := seen.dep 8 (d := 55) (by kernel_rfl) (by kernel_rfl) rfl
        refine does_plain rfl fun K Q' hK => ?_
        go_simp
        exact hK _ _ (Grow.refl _) h8
      -- 10: extract t46 0
      · intro w1 hg Ar seen
        obtain ⟨v9, e9, h9⟩ := seen.dep 9 (d := 46) (by kernel_rfl) (by kernel_rfl) rfl
        refine does_plain rfl fun K Q' hK => ?_
        obtain ⟨so, rfl, h1⟩ := h9
        go_simp
        exact hK _ _ (Grow.refl _) ⟨so, rfl, h1⟩
      -- 11: extract t46 1
      · intro w1 hg Ar seen
        obtain ⟨v9, e9, h9⟩ := seen.dep 9 (d := 46) (by kernel_rfl) (by kernel_rfl) rfl
        refine does_plain rfl fun K Q' hK => ?_
        obtain ⟨so, rfl, h1⟩ := h9
        go_simp; exact hK _ _ (Grow.refl _) rfl
      -- 12: assign t56
      · intro w1 hg Ar seen
        obtain ⟨v10, e10, h10⟩ := seen.dep 10 (d := 56) (by kernel_rfl) (by kernel_rfl) rfl
        refine does_plain rfl fun K Q' hK => ?_
        go_simp
        exact hK _ _ (Grow.refl _) h10
      -- 13: assign t57
      · intro w1 hg Ar seen
        obtain ⟨v11, e11, h11⟩ := seen.dep 11 (d := 57) (by kernel_rfl) (by kernel_rfl) rfl
        rcases h11 with rfl
        refine does_plain rfl fun K Q' hK => ?_
        go_simp; exact hK _ _ (Grow.refl _) rfl
  intro w1 hg
  refine upon_w' (js := [0, 1, 2, 3, 4, 5, 6, 7, 8, 9, 10, 11, 12, 13]) (by rfl) ?_
  refine upon_c (x := some 47) (by kernel_rfl) rfl fun v0 h0 => ?_
  rcases h0 with rfl
  refine upon_c (x := some 48) (by kernel_rfl) rfl fun v1 h1 => ?_
  rcases h1 with rfl
  refine upon_c (x := some 49) (by kernel_rfl) rfl fun v2 h2 => ?_
  rcases h2 with rfl
  refine upon_c (x := some 50) (by kernel_rfl) rfl fun v3 h3 => ?_
  rcases h3 with rfl
  refine upon_c (x := some 51) (by kernel_rfl) rfl fun v4 h4 => ?_
  rcases h4 with rfl
  refine upon_c (x := some 52) (by kernel_rfl) rfl fun v5 h5 => ?_
  rcases h5 with rfl
  refine upon_c (x := some 53) (by kernel_rfl) rfl fun v6 h6 => ?_
  rcases h6 with rfl
  refine upon_c (x := some 54) (by kernel_rfl) rfl fun v7 h7 => ?_
  refine upon_c (x := some 55) (by kernel_rfl) rfl fun v8 h8 => ?_
  refine upon_c (x := some 46) (by kernel_rfl) rfl fun v9 h9 => ?_
  refine upon_c (x := some 56) (by kernel_rfl) rfl fun v10 h10 => ?_
  refine upon_c (x := some 57) (by kernel_rfl) rfl fun v11 h11 => ?_
  rcases h11 with rfl
  refine upon_c (x := some 7) (by kernel_rfl) rfl fun v12 h12 => ?_
  refine upon_c (x := some 5) (by kernel_rfl) rfl fun v13 h13 => ?_
  rcases h13 with rfl
  refine upon_n ?_
  go_simp
  obtain ⟨so, rfl, hrow⟩ := h12
  clear h7 h8 h9 h10
  have B3 := hid (B2.out.below hg)
  have HM3 := hid (HM2.out.below hg)
  have HH3 := hid (HH.out.below hg)
  have HRW := hid hrow
  clear hrow hg B2 HM2 HH
  have hpr := parse_rows hp3
  obtain ⟨hrl, hneed⟩ := hpr
  obtain ⟨z0, z1, rfl⟩ := rows2 hrl
  obtain ⟨gv, cv, rfl⟩ := HRW.out.shape (by simp)
  have HN3 := HRW
  clear hrl hneed HRW HC0 HR0 HO0 HN0
  obtain ⟨sa, la, hma, hsa, hca, -, -⟩ := HN3.out.an (k := 0) rfl
  obtain ⟨sb, lb, hmb, hsb, hcb, -, -⟩ := HN3.out.an (k := 1) rfl
  obtain ⟨sc, lc, gt, vt, -, -, hct, hat, hnt, rfl, hrt, -, -⟩ := HH3.out.hd (k := 1) rfl
  obtain ⟨se, le, hme, hse, hce, -, -⟩ := HH3.out.an (k := 2) rfl
  obtain ⟨s1, l1, hm1, hs1, hc1, hn1, hall1⟩ := HM3.out.an (k := 1) rfl
  rw [hat] at hct
  have HMA := hid hma; have HSA := hid hsa; have HCA := hid hca; have HMB := hid hmb; have HSB := hid hsb; have HCB := hid hcb
  have HME := hid hme; have HSE := hid hse; have HCE := hid hce
  have HM1 := hid hm1; have HS1 := hid hs1; have HC1 := hid hc1; have HN1 := hid hn1; have HA1 := hid hall1
  have HRV := hid (fun (l : List RsI) => readRs_q (l := l) HT.out hp1 hp2 hp3)
  have HRE := hid (fun (c : Int) => readRs_i (c := c) HT.out hp1 hp2 hp3)
  simp only [List.getD_cons_zero, List.getD_cons_succ] at HRV HRE
  have htm : (firstI (vt.it :: u1)).int = vt.int := by unfold firstI; rw [List.headD_cons, ItV.it_eq]
  rw [htm] at HRV
  obtain ⟨tm, htm2⟩ : ∃ t, vt.int = t := ⟨_, rfl⟩
  have hk2 := range_cell hrt 2 (v := .int .i64 vt.int) rfl
  rw [htm2] at HRV hk2
  rw [Nat.zero_add] at hk2
  clear hma hsa hca hmb hsb hcb hme hse hce hm1 hs1 hc1 hn1 hall1 HM3 HH3 HN3 hp1 hp2 hp3 HTG HT htm htm2 hrt hat
  go_upto_region 12 with (fail)
  obtain ⟨W3, hw3⟩ : ∃ W, W = w1 := ⟨_, rfl⟩
  subst hw3
  obtain ⟨z, hzw⟩ : ∃ z, z = W3.heap.size := ⟨_, rfl⟩
  have HZW := hid hzw
  have HBZ : Hid (b + 2 ≤ z) := by show _ ≤ _; rw [hzw]; exact B3.out.size
  clear hzw
  obtain ⟨n0, hq⟩ : ∃ n, numV z0 0 = n := ⟨_, rfl⟩
  have En0 : Hid (numV (la.map ItV.it) 0 = n0) := by show _ = _; rw [HMA.out]; exact hq
  rw [hq] at HRV
  clear hq
  obtain ⟨n1, hq⟩ : ∃ n, numV z1 0 = n := ⟨_, rfl⟩
  have En1 : Hid (numV (lb.map ItV.it) 0 = n1) := by show _ = _; rw [HMB.out]; exact hq
  rw [hq] at HRV
  clear hq
  obtain ⟨n4, hq⟩ : ∃ n, numV y2 0 = n := ⟨_, rfl⟩
  have En4 : Hid (numV (le.map ItV.it) 0 = n4) := by show _ = _; rw [HME.out]; exact hq
  rw [hq] at HRV
  clear hq
  go_upto_region 13 with (first | (refine wpList_build_obj rfl 31 _ rfl #[(0, .int .i64 tm)] rfl _ (pBuild1 tm _) ?_) | (refine wpList_alloc_obj rfl 31 rfl _ pZero ?_) | (refine wpList_store_obj rfl 31 _ _ rfl W3.heap.size rfl (RsV.arr { time := tm }) rfl _ _ (block_new W3 _) rfl pSize (parr_one _) ?_; intro w4 hb4 hc4 hs4; have HB4 := hid hb4; have HC4 := hid hc4; clear hb4 hc4 hs4))
  clear hct hk2 hnt
  have hbel : Below W3.heap.size W3 w4 := ((Below.refl _ W3).alloc (Nat.le_refl _) _).trans (HC4.out.below (fun k hk => by rw [List.mem_singleton.1 hk]; exact Nat.le_refl _) (by simp))
  have HBW : Hid (Below z W3 w4) := by show Below z W3 w4; rw [HZW.out]; exact hbel
  have hps : W3.heap.size < w4.heap.size := block_lt HB4.out
  have hc := cell_later hbel HC1.out
  obtain ⟨p, hpz⟩ : ∃ p, p = W3.heap.size := ⟨_, rfl⟩
  have HZP : Hid (z ≤ p) := by show z ≤ p; rw [HZW.out, hpz]; exact Nat.le_refl _
  obtain ⟨z4, hz4⟩ : ∃ z, z = w4.heap.size := ⟨_, rfl⟩
  have HZ4 := hid hz4
  have HPZ : Hid (p < z4) := by show p < z4; rw [hz4, hpz]; exact hps
  rw [← hpz] at HB4 ⊢
  clear hbel hps hz4 HC4 HMA HMB HME HC1 hpz
  obtain ⟨ka, kn, kc⟩ := s1
  simp only at hc
  have hnn : kn ≤ 1000000 := by have h1 := HN1.out; have h2 := HK6.out; simp only at h1; omega
  have HKN : Hid (l1.length = kn) := HS1.out.klen
  clear HN1
  go_wp2_with fail
  clear hc
  go_loopw [73] (fun y wr => ∃ (k : Nat) (s : Sl) (lq : List RsIV), k ≤ kn ∧ y = .int .i64 k ∧ s.n = k ∧ readRsIs (m1.take k) = .ok (lq.map RsIV.rq) ∧ Below z W3 wr ∧ z4 ≤ wr.heap.size ∧ OwnRs 44 wr z4 s lq ∧ (∀ x ∈ lq, ∀ k ∈ x.foot, k ≠ p ∧ k ≠ b + 1) ∧ wr.heap[p]? = some (.cells (RsV.arr { time := tm, its := s, items := lq }) 31 (0, 0))) (fun y _ => kn - (intOf y).toNat)
  case atStart => exact ⟨0, {}, [], Nat.zero_le _, rfl, rfl, rfl, HBW.out, by rw [HZ4.out]; exact Nat.le_refl _, OwnRs.nil _ _ _, by simp, HB4.out⟩
  case round =>
    clear HBW HB4
    obtain ⟨k, s, lq, hk, rfl, hsk, hri, hbw, hzw, ho, hpf, hpb⟩ := hrel
    have HBW := hid hbw; have HZW4 := hid hzw; have HO := hid ho; have HPF := hid hpf; have HPB := hid hpb; have HRI := hid hri; have HSK := hid hsk
    clear hbw hzw ho hpf hpb hri hsk
    have hbr : Below W3.heap.size W3 wr := by rw [← HZW.out]; exact HBW.out
    have HBR := hid hbr
    clear hbr
    by_cases hlt : k < kn
    · obtain ⟨bx, ox, x, hax, hx, hrow⟩ := (HS1.out.below HBR.out).row (k := k) hlt
      simp only at hax
      subst hax
      have HXM : Hid (m1[k]? = some x.it) := by
        show _ = _
        rw [← HM1.out, List.getElem?_map, hx]; rfl
      have HX := hid (((HA1.out x (List.mem_of_getElem? hx)).1).below HBR.out)
      have HR := hid hrow
      clear hx hrow
      go_upto_region 16 with (first | (refine wpList_load_mid rfl 27 _ rfl bx (ox + k * 5) rfl x.arr.toList _ HR.out Try.underlying27 rfl iSize ?_; simp only [Array.toArray_toList]) | (refine wpList_alloc_obj rfl 27 rfl _ iZero ?_) | (refine wpList_store_obj rfl 27 _ _ rfl wr.heap.size rfl _ rfl _ _ (block_new wr _) rfl iSize (arr_one x) ?_; intro w5 hb5 hc5 hs5; have HB5 := hid hb5; have HC5 := hid hc5; have HS5 := hid hs5; clear hb5 hc5 hs5))
      have hbel : Below wr.heap.size wr w5 := ((Below.refl _ wr).alloc (Nat.le_refl _) _).trans (HC5.out.below (fun k hk => by rw [List.mem_singleton.1 hk]; exact Nat.le_refl _) (by simp))
      have HBL5 := hid hbel
      have HX5 := hid (HX.out.below hbel)
      clear hbel HC5 HS5 HR HX
      obtain ⟨c, hcw⟩ : ∃ c, c = wr.heap.size := ⟨_, rfl⟩
      rw [← hcw] at HB5 HBL5 ⊢
      have HCW := hid hcw
      clear hcw
      go_wp2_with (refine wpList_load_row rfl 27 _ rfl c rfl _ _ _ _ HB5.out Try.underlying27 rfl iSize ?_)
      refine (ritem_any x _ HX5.out).mono ?_
      intro e w6 hres
      have hc5 : c ≤ w5.heap.size := by rw [HCW.out]; exact HBL5.out.size
      have HC5 := hid hc5
      clear hc5 HB5
      cases hrx : readRsI x.it with
      | error cc =>
        rw [hrx] at hres
        obtain ⟨rfl, hcz, hb6⟩ := hres
        have HE := hid (HRE.out cc ((readRsIs_one HRI.out HXM.out).2 cc hrx))
        have HBL6 := hid (HBL5.out.trans (hb6.mono HC5.out))
        have HCZ := hid hcz
        have H6 := hid (Nat.le_trans HC5.out hb6.size)
        clear hb6 hrx HX5 hcz
        go_upto_region 17 with (first | (refine wpList_alloc_obj rfl 44 rfl _ sZero ?_) | (refine wpList_store_obj rfl 44 _ _ rfl w6.heap.size rfl rsZ.arr rfl _ _ (block_new w6 _) rfl sSize (sarr_one rsZ) ?_; intro w7 hb7 hc7 hs7; have HB7 := hid hb7; have HC7 := hid hc7; clear hb7 hc7 hs7))
        have hbel7 := HBL6.out.trans (((Below.refl _ w6).alloc H6.out _).trans (HC7.out.below (B := c) (fun k hk => by rw [List.mem_singleton.1 hk]; exact H6.out) (by simp; exact Nat.le_succ_of_le H6.out)))
        rw [HCW.out] at hbel7
        have B7 := hid ((B3.out.below HBR.out).below hbel7)
        have hcz := HCZ.out
        clear hbel7 HBL6 HBL5 HC7 HB7 HCZ
        go_wp2_with (first | (refine wpList_build_obj rfl 31 _ rfl #[] rfl _ (pBuild0 _) ?_) | (refine wpList_store_obj rfl 31 _ _ rfl (b + 1) rfl rpZ.arr rfl _ _ B7.out.res rfl pSize (parr_one _) ?_; intro w10 hb10 hc10 hs10; have HB10 := hid hb10; have HC10 := hid hc10; clear hb10 hc10 hs10))
        refine bodyPost_ret (results_cell_tmp rfl _ _ (b + 1) _ _ _ _ rfl HB10.out Try.underlying31 rfl pSize _ rfl) rfl ?_
        rw [HE.out]
        exact ⟨rfl, by rw [HBE.out]; exact B7.out.done HC10.out⟩
      | ok yy =>
        rw [hrx] at hres
        obtain ⟨v', rfl, hvq, hvo, hvf, hb6⟩ := hres
        have HRN := hid ((readRsIs_one HRI.out HXM.out).1 yy hrx)
        have HBL6 := hid (HBL5.out.trans (hb6.mono HC5.out))
        have H6 := hid (Nat.le_trans HC5.out hb6.size)
        have HVQ := hid hvq; have HVO := hid hvo; have HVF := hid hvf
        clear hb6 hrx HX5 hvq hvo hvf
        go_upto_region 17 with (first | (refine wpList_alloc_obj rfl 44 rfl _ sZero ?_) | (refine wpList_store_obj rfl 44 _ _ rfl w6.heap.size rfl v'.arr rfl _ _ (block_new w6 _) rfl sSize (sarr_one v') ?_; intro w7 hb7 hc7 hs7; have HB7 := hid hb7; have HC7 := hid hc7; clear hb7 hc7 hs7))
        have hbe7 := (((Below.refl w6.heap.size w6).alloc (Nat.le_refl _) (.cells rsZ.arr 44)).trans (HC7.out.below (B := w6.heap.size) (fun k hk => by rw [List.mem_singleton.1 hk]; exact Nat.le_refl _) (by simp)))
        have hbel7 := HBL6.out.trans (hbe7.mono H6.out)
        have HVO7 := hid (HVO.out.below hbe7)
        have hz7 : c ≤ w7.heap.size := Nat.le_trans H6.out hbe7.size
        rw [HCW.out] at hbel7 hz7
        have HO7 := hid (HO.out.below hbel7)
        have HPB7 := hid ((hbel7.block _ (block_lt HPB.out)).trans HPB.out)
        have HBL7 := hid hbel7
        have HZ7 := hid hz7
        obtain ⟨q, hqw⟩ : ∃ q, q = w6.heap.size := ⟨_, rfl⟩
        rw [← hqw] at HB7 ⊢
        have HRLT : Hid (∀ k, s.v.ownBlock = some k → k < c) := fun k hk => by rw [HCW.out]; exact (HO.out.own.lt k hk).2
        have HPC : Hid (p < c) := by show p < c; rw [HCW.out]; exact block_lt HPB.out
        have H65 : Hid (c ≤ w5.heap.size) := HC5
        clear hbel7 hz7 hbe7 HBL6 HBL5 HC7 HVO HO hqw HPB
        go_upto_region 19 with (fail)
        have hc4 := cell_of_block (j := 1) HPB7.out (rv1 _)
        simp only at hc4
        go_upto_region 20 with (first | (refine wpList_load_row rfl 44 _ rfl q rfl _ _ _ _ HB7.out Try.underlying44 rfl sSize ?_) | (refine wpList_build_rs rfl 29 44 _ rfl v' rfl iq Try.underlying29 hiq hy0 hy1 ?_) | (at_builtin; go_must (refine wpList_append_c rfl _ _ 29 rfl z4 44 iq _ 13 152 Try.underlying29 hiq hy0 hy1 hy2 rfl (by decide) (.slice s.a s.n s.c) s.n _ rfl (HO7.out.below ((Below.refl _ _).alloc (Nat.le_refl _) (.cells v'.arr 44))).own _ 1 _ v'.cells rfl (RdC.new _ _ _ _ v'.cells (by simp [RsIV.cells]) 13 rfl _ rfl) (by have := rs_one [v']; simpa [rsCells] using this) (fun hx => by cases hx) (by unfold maxLen; have := HSK.out; omega) (by have := HSK.out; omega) (by have := HZW4.out; have := HZ7.out; simp; omega) ?_); intro a' c' w8 hown hgw hfr; have HO8 := hid hown; have HG8 := hid hgw; have HF8 := hid hfr; have hch : Chg s.v.ownBlock.toList w7 w8 := ((Chg.refl _ w7).alloc _).grown hgw (fun k hk => .inl (by rw [hk]; simp)); have hpb8 := (hch.block p (block_lt HPB7.out) (HO7.out.ahead HPZ.out)).trans HPB7.out; have HPB8 := hid hpb8; have hq4 := cell_of_block (j := 1) hpb8 (rv1 _); have hfz : ∀ j, w8.frozen? ⟨p, j, none⟩ = false := (fun j => frozen_of_block HPB8.out); clear hown hgw hfr hch hpb8))
        clear hq4 hfz hc4
        have ho8 : OwnRs 44 w8 z4 ⟨a', s.n + 1, c'⟩ (lq ++ [v']) :=
          HO7.out.app ((Below.refl _ _).alloc (Nat.le_refl _) _) v' HVO7.out (fun k hk he => by have := HRLT.out k he; have := HVF.out k hk; have := H65.out; omega) (by rw [rs_app]; simpa [rsCells] using HO8.out) HG8.out HF8.out
        have hch : Chg s.v.ownBlock.toList w7 w8 := ((Chg.refl _ w7).alloc _).grown HG8.out (fun k hk => .inl (by rw [hk]; simp))
        have hcb : Chg [p] w8 (w8.setCell ⟨p, 1, none⟩ (.slice a' (s.n + 1) c')) := (Chg.refl [p] w8).setCell (.inl (by simp)) _
        have hnf : ∀ x ∈ lq ++ [v'], ∀ k ∈ x.foot, k ≠ p ∧ k ≠ b + 1 := fun x hx k hm => by
          rcases List.mem_append.1 hx with h' | h'
          · exact HPF.out x h' k hm
          · rw [List.mem_singleton.1 h'] at hm
            have := HVF.out k hm; have := H65.out; have := HPC.out; have := HZP.out; have := HBZ.out; omega
        have ho9 := ho8.chg hcb (fun k hk hm => by have := List.mem_singleton.1 hm; subst this; exact ho8.ahead HPZ.out (by rw [hk]; simp)) (fun x hx k hk hm => by have := List.mem_singleton.1 hm; exact (hnf x hx k hk).1 this)
        have hpb9 : (w8.setCell ⟨p, 1, none⟩ (.slice a' (s.n + 1) c')).heap[p]? = some (.cells (RsV.arr { time := tm, its := ⟨a', s.n + 1, c'⟩, items := lq ++ [v'] }) 31 (0, 0)) := block_setCell HPB8.out _
        have hz4 : z ≤ z4 := Nat.le_of_lt (Nat.lt_of_le_of_lt HZP.out HPZ.out)
        have hbw9 : Below z W3 (w8.setCell ⟨p, 1, none⟩ (.slice a' (s.n + 1) c')) :=
          (HBW.out.trans (HBL7.out.mono (Nat.le_trans hz4 HZW4.out))).trans ((hch.below (B := z) (fun k hk => by
            rcases Nat.lt_or_ge k z4 with h' | h'
            · exact absurd hk (HO7.out.ahead h')
            · omega) (Nat.le_trans hz4 (Nat.le_trans HZW4.out (by rw [← HCW.out]; rw [HCW.out]; exact HZ7.out)))).trans (hcb.below (B := z) (fun k hk => by rw [List.mem_singleton.1 hk]; exact HZP.out) (Nat.le_trans hz4 (Nat.le_trans HZW4.out (Nat.le_trans HZ7.out hch.size)))))
        have hz9 : z4 ≤ (w8.setCell ⟨p, 1, none⟩ (.slice a' (s.n + 1) c')).heap.size := Nat.le_trans HZW4.out (Nat.le_trans HZ7.out (Nat.le_trans hch.size hcb.size))
        have hrn : readRsIs (m1.take (k + 1)) = .ok ((lq ++ [v']).map RsIV.rq) := by rw [HRN.out, List.map_append, List.map_cons, List.map_nil, HVQ.out]
        have H9 := hid (And.intro hrn (And.intro hbw9 (And.intro hz9 (And.intro ho9 (And.intro hnf hpb9)))))
        clear ho8 hch hcb hnf ho9 hpb9 hz4 hbw9 hz9 hrn
        go_wp2_with fail
        go_roundw
        case rel =>
          have hsk := HSK.out
          first
            | exact ⟨k + 1, ⟨a', s.n + 1, c'⟩, lq ++ [v'], by omega, by go_num, by simp; omega, H9.out⟩
            | ((repeat apply Exists.intro); exact ⟨⟨k + 1, ⟨a', s.n + 1, c'⟩, lq ++ [v'], by omega, by go_num, by simp; omega, H9.out⟩, rfl⟩)
        case measure => simp [intOf]; omega
    · obtain rfl : k = kn := by omega
      have HRI2 : Hid (readRsIs m1 = .ok (lq.map RsIV.rq)) := by
        have := HRI.out
        rwa [List.take_of_length_le (by rw [← HM1.out, List.length_map]; have := HKN.out; omega)] at this
      have HEQ := hid (HRV.out (lq.map RsIV.rq) HRI2.out)
      have HB := hid (B3.out.below HBR.out)
      have HCA' := hid (cell_later HBR.out HCA.out)
      have HSA' := hid (HSA.out.below HBR.out)
      have HCB' := hid (cell_later HBR.out HCB.out)
      have HSB' := hid (HSB.out.below HBR.out)
      have HCE' := hid (cell_later HBR.out HCE.out)
      have HSE' := hid (HSE.out.below HBR.out)
      have HQL : Hid (((lq.map RsIV.rq).length : Int) = (s.n : Int)) := by show _ = _; rw [List.length_map, HO.out.len]
      rw [HQL.out] at HEQ
      have HQO : Hid (RsV.ok wr { time := tm, its := s, items := lq }) := ⟨HO.out.sl (Nat.le_trans (Nat.le_of_eq HSK.out) (by omega)), HO.out.ok⟩
      have HSB2 : Hid (∀ k ∈ s.blk, z4 ≤ k) := blk_own HO.out.own
      clear HRI HRI2 HRV HRE HCA HSA HCB HSB HCE HSE HS1 HA1 HM1 HBR HBW HO HQL HKN
      go_upto_region 21 with (fail)
      by_cases h0 : n0 = 1
      rotate_left
      · have H0 : Hid ((n0 != 1) = true) := by show _ = _; simpa using h0
        have HE : Hid (readRs v.it = .error 4) := by show _ = _; rw [HEQ.out, if_pos (by rw [H0.out]; rfl)]
        clear h0
        refine wp_region_each 22 [.eq (.slice (some ⟨gv, 0, none⟩) 2 cv), .eq (.pointer (some ⟨gv, 0, none⟩)), .eq (.slice sa.a sa.n sa.c), .eq (.int .i64 n0), .eq (.bool true), .eq (.bool true), .eq undef, .eq undef, .eq undef, .eq undef, .eq undef, .eq (.bool true), .eq (.bool true), .eq undef, .eq undef, .eq undef, .eq undef, .eq undef, .eq undef, .eq undef, .eq undef, .eq (.bool true)] (by kernel_rfl) (by kernel_rfl) (by kernel_rfl) (by kernel_rfl) ?_ ?_
        · as_aux_lemma =>
            refine each_c (o' := _) ?_ (each_c (o' := _) ?_ (each_c (o' := _) ?_ (each_c (o' := _) ?_ (each_c (o' := _) ?_ (each_c (o' := _) ?_ (each_c (o' := _) ?_ (each_c (o' := _) ?_ (each_c (o' := _) ?_ (each_c (o' := _) ?_ (each_c (o' := _) ?_ (each_c (o' := _) ?_ (each_c (o' := _) ?_ (each_c (o' := _) ?_ (each_c (o' := _) ?_ (each_c (o' := _) ?_ (each_c (o' := _) ?_ (each_c (o' := _) ?_ (each_c (o' := _) ?_ (each_c (o' := _) ?_ (each_c (o' := _) ?_ (each_c (o' := _) ?_ (each_n))))))))))))))))))))))
            -- 0: move t7
            · intro w1 hg Ar seen
              have s7 := seen.slot 7 (v := .slice (some ⟨gv, 0, none⟩) 2 cv) (by kernel_rfl) rfl
              refine does_plain rfl fun K Q' hK => ?_
              go_simp; exact hK _ _ (Grow.refl _) rfl
            -- 1: indexAddr 63 t93 0:i64
            · intro w1 hg Ar seen
              obtain ⟨v0, e0, h0⟩ := seen.dep 0 (d := 93) (by kernel_rfl) (by kernel_rfl) rfl
              rcases h0 with rfl
              refine does_plain rfl fun K Q' hK => ?_
              go_simp; exact hK _ _ (Grow.refl _) rfl
            -- 2: load 25 t94
            · intro w1 hg Ar seen
              obtain ⟨v1, e1, h1⟩ := seen.dep 1 (d := 94) (by kernel_rfl) (by kernel_rfl) rfl
              rcases h1 with rfl
              refine does_plain rfl fun K Q' hK => ?_
              have hc := cell_later hg HCA'.out
              go_simp; exact hK _ _ (Grow.refl _) rfl
            -- 3: call fn35<resps.number> [t95] T[25]
            · intro w1 hg Ar seen
              obtain ⟨v2, e2, h2⟩ := seen.dep 2 (d := 95) (by kernel_rfl) (by kernel_rfl) rfl
              rcases h2 with rfl
              refine does_plain rfl fun K Q' hK => ?_
              go_simp
              refine (snumber_any sa la _ (HSA'.out.below hg)).mono ?_
              rintro e u ⟨rfl, rfl⟩
              exact hK _ _ (Grow.refl _) (by rw [En0.out]; rfl)
            -- 4: binOp BinOp.neq 3 t96 1:i64 3
            · intro w1 hg Ar seen
              obtain ⟨v3, e3, h3⟩ := seen.dep 3 (d := 96) (by kernel_rfl) (by kernel_rfl) rfl
              rcases h3 with rfl
              refine does_plain rfl fun K Q' hK => ?_
              have hz := H0.out
              go_simp; exact hK _ _ (Grow.refl _) rfl
            -- 5: move t97
            · intro w1 hg Ar seen
              obtain ⟨v4, e4, h4⟩ := seen.dep 4 (d := 97) (by kernel_rfl) (by kernel_rfl) rfl
              rcases h4 with rfl
              refine does_plain rfl fun K Q' hK => ?_
              go_simp; exact hK _ _ (Grow.refl _) rfl
            -- 6: move t7
            · intro w1 hg Ar seen
              obtain ⟨v5, e5, h5⟩ := seen.dep 5 (d := 98) (by kernel_rfl) (by kernel_rfl) rfl
              rcases h5 with rfl
              exact does_off rfl (by kernel_rfl) e5 ne_tf (Grow.refl _) rfl
            -- 7: indexAddr 63 t99 1:i64
            · intro w1 hg Ar seen
              obtain ⟨v5, e5, h5⟩ := seen.dep 5 (d := 98) (by kernel_rfl) (by kernel_rfl) rfl
              rcases h5 with rfl
              exact does_off rfl (by kernel_rfl) e5 ne_tf (Grow.refl _) rfl
            -- 8: load 25 t100
            · intro w1 hg Ar seen
              obtain ⟨v5, e5, h5⟩ := seen.dep 5 (d := 98) (by kernel_rfl) (by kernel_rfl) rfl
              rcases h5 with rfl
              exact does_off rfl (by kernel_rfl) e5 ne_tf (Grow.refl _) rfl
            -- 9: call fn35<resps.number> [t101] T[25]
            · intro w1 hg Ar seen
              obtain ⟨v5, e5, h5⟩ := seen.dep 5 (d := 98) (by kernel_rfl) (by kernel_rfl) rfl
              rcases h5 with rfl
              exact does_off rfl (by kernel_rfl) e5 ne_tf (Grow.refl _) rfl
            -- 10: binOp BinOp.neq 3 t102 4:i64 3
            · intro w1 hg Ar seen
              obtain ⟨v5, e5, h5⟩ := seen.dep 5 (d := 98) (by kernel_rfl) (by kernel_rfl) rfl
              rcases h5 with rfl
              exact does_off rfl (by kernel_rfl) e5 ne_tf (Grow.refl _) rfl
            -- 11: pick t98 true t103
            · intro w1 hg Ar seen
              obtain ⟨v5, e5, h5⟩ := seen.dep 5 (d := 98) (by kernel_rfl) (by kernel_rfl) rfl
              rcases h5 with rfl
              obtain ⟨v10, e10, h10⟩ := seen.dep 10 (d := 103) (by kernel_rfl) (by kernel_rfl) rfl
              rcases h10 with rfl
              refine does_plain rfl fun K Q' hK => ?_
              go_simp; exact hK _ _ (Grow.refl _) rfl
            -- 12: move t104
            · intro w1 hg Ar seen
              obtain ⟨v11, e11, h11⟩ := seen.dep 11 (d := 104) (by kernel_rfl) (by kernel_rfl) rfl
              rcases h11 with rfl
              refine does_plain rfl fun K Q' hK => ?_
              go_simp; exact hK _ _ (Grow.refl _) rfl
            -- 13: move t6
            · intro w1 hg Ar seen
              obtain ⟨v12, e12, h12⟩ := seen.dep 12 (d := 105) (by kernel_rfl) (by kernel_rfl) rfl
              rcases h12 with rfl
              exact does_off rfl (by kernel_rfl) e12 ne_tf (Grow.refl _) rfl
            -- 14: indexAddr 63 t106 2:i64
            · intro w1 hg Ar seen
              obtain ⟨v12, e12, h12⟩ := seen.dep 12 (d := 105) (by kernel_rfl) (by kernel_rfl) rfl
              rcases h12 with rfl
              exact does_off rfl (by kernel_rfl) e12 ne_tf (Grow.refl _) rfl
            -- 15: load 25 t107
            · intro w1 hg Ar seen
              obtain ⟨v12, e12, h12⟩ := seen.dep 12 (d := 105) (by kernel_rfl) (by kernel_rfl) rfl
              rcases h12 with rfl
              exact does_off rfl (by kernel_rfl) e12 ne_tf (Grow.refl _) rfl
            -- 16: call fn35<resps.number> [t108] T[25]
            · intro w1 hg Ar seen
              obtain ⟨v12, e12, h12⟩ := seen.dep 12 (d := 105) (by kernel_rfl) (by kernel_rfl) rfl
              rcases h12 with rfl
              exact does_off rfl (by kernel_rfl) e12 ne_tf (Grow.refl _) rfl
            -- 17: fieldAddr 31 t8 1
            · intro w1 hg Ar seen
              obtain ⟨v12, e12, h12⟩ := seen.dep 12 (d := 105) (by kernel_rfl) (by kernel_rfl) rfl
              rcases h12 with rfl
              exact does_off rfl (by kernel_rfl) e12 ne_tf (Grow.refl _) rfl
            -- 18: load 29 t110
            · intro w1 hg Ar seen
              obtain ⟨v12, e12, h12⟩ := seen.dep 12 (d := 105) (by kernel_rfl) (by kernel_rfl) rfl
              rcases h12 with rfl
              exact does_off rfl (by kernel_rfl) e12 ne_tf (Grow.refl _) rfl
            -- 19: call len [t111] T[29]
            · intro w1 hg Ar seen
              obtain ⟨v12, e12, h12⟩ := seen.dep 12 (d := 105) (by kernel_rfl) (by kernel_rfl) rfl
              rcases h12 with rfl
              exact does_off rfl (by kernel_rfl) e12 ne_tf (Grow.refl _) rfl
            -- 20: binOp BinOp.neq 3 t109 t112 3
            · intro w1 hg Ar seen
              obtain ⟨v12, e12, h12⟩ := seen.dep 12 (d := 105) (by kernel_rfl) (by kernel_rfl) rfl
              rcases h12 with rfl
              exact does_off rfl (by kernel_rfl) e12 ne_tf (Grow.refl _) rfl
            -- 21: pick t105 true t113
            · intro w1 hg Ar seen
              obtain ⟨v12, e12, h12⟩ := seen.dep 12 (d := 105) (by kernel_rfl) (by kernel_rfl) rfl
              rcases h12 with rfl
              obtain ⟨v20, e20, h20⟩ := seen.dep 20 (d := 113) (by kernel_rfl) (by kernel_rfl) rfl
              rcases h20 with rfl
              refine does_plain rfl fun K Q' hK => ?_
              go_simp; exact hK _ _ (Grow.refl _) rfl
        intro w1 hg
        refine upon_w' (js := [0, 1, 2, 3, 4, 5, 6, 7, 8, 9, 10, 11, 12, 13, 14, 15, 16, 17, 18, 19, 20, 21]) (by rfl) ?_
        refine upon_c (x := some 93) (by kernel_rfl) rfl fun v0 h0 => ?_
        rcases h0 with rfl
        refine upon_c (x := some 94) (by kernel_rfl) rfl fun v1 h1 => ?_
        rcases h1 with rfl
        refine upon_c (x := some 95) (by kernel_rfl) rfl fun v2 h2 => ?_
        rcases h2 with rfl
        refine upon_c (x := some 96) (by kernel_rfl) rfl fun v3 h3 => ?_
        rcases h3 with rfl
        refine upon_c (x := some 97) (by kernel_rfl) rfl fun v4 h4 => ?_
        rcases h4 with rfl
        refine upon_c (x := some 98) (by kernel_rfl) rfl fun v5 h5 => ?_
        rcases h5 with rfl
        refine upon_c (x := some 99) (by kernel_rfl) rfl fun v6 h6 => ?_
        rcases h6 with rfl
        refine upon_c (x := some 100) (by kernel_rfl) rfl fun v7 h7 => ?_
        rcases h7 with rfl
        refine upon_c (x := some 101) (by kernel_rfl) rfl fun v8 h8 => ?_
        rcases h8 with rfl
        refine upon_c (x := some 102) (by kernel_rfl) rfl fun v9 h9 => ?_
        rcases h9 with rfl
        refine upon_c (x := some 103) (by kernel_rfl) rfl fun v10 h10 => ?_
        rcases h10 with rfl
        refine upon_c (x := some 104) (by kernel_rfl) rfl fun v11 h11 => ?_
        rcases h11 with rfl
        refine upon_c (x := some 105) (by kernel_rfl) rfl fun v12 h12 => ?_
        rcases h12 with rfl
        refine upon_c (x := some 106) (by kernel_rfl) rfl fun v13 h13 => ?_
        rcases h13 with rfl
        refine upon_c (x := some 107) (by kernel_rfl) rfl fun v14 h14 => ?_
        rcases h14 with rfl
        refine upon_c (x := some 108) (by kernel_rfl) rfl fun v15 h15 => ?_
        rcases h15 with rfl
        refine upon_c (x := some 109) (by kernel_rfl) rfl fun v16 h16 => ?_
        rcases h16 with rfl
        refine upon_c (x := some 110) (by kernel_rfl) rfl fun v17 h17 => ?_
        rcases h17 with rfl
        refine upon_c (x := some 111) (by kernel_rfl) rfl fun v18 h18 => ?_
        rcases h18 with rfl
        refine upon_c (x := some 112) (by kernel_rfl) rfl fun v19 h19 => ?_
        rcases h19 with rfl
        refine upon_c (x := some 113) (by kernel_rfl) rfl fun v20 h20 => ?_
        rcases h20 with rfl
        refine upon_c (x := some 114) (by kernel_rfl) rfl fun v21 h21 => ?_
        rcases h21 with rfl
        refine upon_n ?_
        go_simp
        have HB2 := hid (HB.out.below hg)
        clear hg
        go_wp2_with (first | (refine wpList_build_obj rfl 31 _ rfl #[] rfl _ (pBuild0 _) ?_) | (refine wpList_store_obj rfl 31 _ _ rfl (b + 1) rfl rpZ.arr rfl _ _ HB2.out.res rfl pSize (parr_one _) ?_; intro w10 hb10 hc10 hs10; have HB10 := hid hb10; have HC10 := hid hc10; clear hb10 hc10 hs10))
        refine bodyPost_ret (results_cell_tmp rfl _ _ (b + 1) _ _ _ _ rfl HB10.out Try.underlying31 rfl pSize _ rfl) rfl ?_
        rw [HE.out]
        exact ⟨rfl, by rw [HBE.out]; exact HB2.out.done HC10.out⟩
      have H0 : Hid ((n0 != 1) = false) := by show _ = _; simp [h0]
      clear h0
      by_cases h1 : n1 = 4
      rotate_left
      · have H1 : Hid ((n1 != 4) = true) := by show _ = _; simpa using h1
        have HE : Hid (readRs v.it = .error 4) := by show _ = _; rw [HEQ.out, if_pos (by rw [H1.out]; simp)]
        clear h1
        refine wp_region_each 22 [.eq (.slice (some ⟨gv, 0, none⟩) 2 cv), .eq (.pointer (some ⟨gv, 0, none⟩)), .eq (.slice sa.a sa.n sa.c), .eq (.int .i64 n0), .eq (.bool false), .eq (.bool false), .eq (.slice (some ⟨gv, 0, none⟩) 2 cv), .eq (.pointer (some ⟨gv, 1, none⟩)), .eq (.slice sb.a sb.n sb.c), .eq (.int .i64 n1), .eq (.bool true), .eq (.bool true), .eq (.bool true), .eq undef, .eq undef, .eq undef, .eq undef, .eq undef, .eq undef, .eq undef, .eq undef, .eq (.bool true)] (by kernel_rfl) (by kernel_rfl) (by kernel_rfl) (by kernel_rfl) ?_ ?_
        · as_aux_lemma =>
            refine each_c (o' := _) ?_ (each_c (o' := _) ?_ (each_c (o' := _) ?_ (each_c (o' := _) ?_ (each_c (o' := _) ?_ (each_c (o' := _) ?_ (each_c (o' := _) ?_ (each_c (o' := _) ?_ (each_c (o' := _) ?_ (each_c (o' := _) ?_ (each_c (o' := _) ?_ (each_c (o' := _) ?_ (each_c (o' := _) ?_ (each_c (o' := _) ?_ (each_c (o' := _) ?_ (each_c (o' := _) ?_ (each_c (o' := _) ?_ (each_c (o' := _) ?_ (each_c (o' := _) ?_ (each_c (o' := _) ?_ (each_c (o' := _) ?_ (each_c (o' := _) ?_ (each_n))))))))))))))))))))))
            -- 0: move t7
            · intro w1 hg Ar seen
              have s7 := seen.slot 7 (v := .slice (some ⟨gv, 0, none⟩) 2 cv) (by kernel_rfl) rfl
              refine does_plain rfl fun K Q' hK => ?_
              go_simp; exact hK _ _ (Grow.refl _) rfl
            -- 1: indexAddr 63 t93 0:i64
            · intro w1 hg Ar seen
              obtain ⟨v0, e0, h0⟩ := seen.dep 0 (d := 93) (by kernel_rfl) (by kernel_rfl) rfl
              rcases h0 with rfl
              refine does_plain rfl fun K Q' hK => ?_
              go_simp; exact hK _ _ (Grow.refl _) rfl
            -- 2: load 25 t94
            · intro w1 hg Ar seen
              obtain ⟨v1, e1, h1⟩ := seen.dep 1 (d := 94) (by kernel_rfl) (by kernel_rfl) rfl
              rcases h1 with rfl
              refine does_plain rfl fun K Q' hK => ?_
              have hc := cell_later hg HCA'.out
              go_simp; exact hK _ _ (Grow.refl _) rfl
            -- 3: call fn35<resps.number> [t95] T[25]
            · intro w1 hg Ar seen
              obtain ⟨v2, e2, h2⟩ := seen.dep 2 (d := 95) (by kernel_rfl) (by kernel_rfl) rfl
              rcases h2 with rfl
              refine does_plain rfl fun K Q' hK => ?_
              go_simp
              refine (snumber_any sa la _ (HSA'.out.below hg)).mono ?_
              rintro e u ⟨rfl, rfl⟩
              exact hK _ _ (Grow.refl _) (by rw [En0.out]; rfl)
            -- 4: binOp BinOp.neq 3 t96 1:i64 3
            · intro w1 hg Ar seen
              obtain ⟨v3, e3, h3⟩ := seen.dep 3 (d := 96) (by kernel_rfl) (by kernel_rfl) rfl
              rcases h3 with rfl
              refine does_plain rfl fun K Q' hK => ?_
              have hz := H0.out
              go_simp; exact hK _ _ (Grow.refl _) rfl
            -- 5: move t97
            · intro w1 hg Ar seen
              obtain ⟨v4, e4, h4⟩ := seen.dep 4 (d := 97) (by kernel_rfl) (by kernel_rfl) rfl
              rcases h4 with rfl
              refine does_plain rfl fun K Q' hK => ?_
              go_simp; exact hK _ _ (Grow.refl _) rfl
            -- 6: move t7
            · intro w1 hg Ar seen
              obtain ⟨v5, e5, h5⟩ := seen.dep 5 (d := 98) (by kernel_rfl) (by kernel_rfl) rfl
              rcases h5 with rfl
              have s7 := seen.slot 7 (v := .slice (some ⟨gv, 0, none⟩) 2 cv) (by kernel_rfl) rfl
              refine does_on rfl (by kernel_rfl) e5 fun K Q' hK => ?_
              clear e5
              go_simp; exact hK _ _ (Grow.refl _) rfl
            -- 7: indexAddr 63 t99 1:i64
            · intro w1 hg Ar seen
              obtain ⟨v6, e6, h6⟩ := seen.dep 6 (d := 99) (by kernel_rfl) (by kernel_rfl) rfl
              rcases h6 with rfl
              obtain ⟨v5, e5, h5⟩ := seen.dep 5 (d := 98) (by kernel_rfl) (by kernel_rfl) rfl
              rcases h5 with rfl
              refine does_on rfl (by kernel_rfl) e5 fun K Q' hK => ?_
              clear e5
              go_simp; exact hK _ _ (Grow.refl _) rfl
            -- 8: load 25 t100
            · intro w1 hg Ar seen
              obtain ⟨v7, e7, h7⟩ := seen.dep 7 (d := 100) (by kernel_rfl) (by kernel_rfl) rfl
              rcases h7 with rfl
              obtain ⟨v5, e5, h5⟩ := seen.dep 5 (d := 98) (by kernel_rfl) (by kernel_rfl) rfl
              rcases h5 with rfl
              refine does_on rfl (by kernel_rfl) e5 fun K Q' hK => ?_
              clear e5
              have hc := cell_later hg HCB'.out
              go_simp; exact hK _ _ (Grow.refl _) rfl
            -- 9: call fn35<resps.number> [t101] T[25]
            · intro w1 hg Ar seen
              obtain ⟨v8, e8, h8⟩ := seen.dep 8 (d := 101) (by kernel_rfl) (by kernel_rfl) rfl
              rcases h8 with rfl
              obtain ⟨v5, e5, h5⟩ := seen.dep 5 (d := 98) (by kernel_rfl) (by kernel_rfl) rfl
              rcases h5 with rfl
              refine does_on rfl (by kernel_rfl) e5 fun K Q' hK => ?_
              clear e5
              go_simp
              refine (snumber_any sb lb _ (HSB'.out.below hg)).mono ?_
              rintro e u ⟨rfl, rfl⟩
              exact hK _ _ (Grow.refl _) (by rw [En1.out]; rfl)
            -- 10: binOp BinOp.neq 3 t102 4:i64 3
            · intro w1 hg Ar seen
              obtain ⟨v9, e9, h9⟩ := seen.dep 9 (d := 102) (by kernel_rfl) (by kernel_rfl) rfl
              rcases h9 with rfl
              obtain ⟨v5, e5, h5⟩ := seen.dep 5 (d := 98) (by kernel_rfl) (by kernel_rfl) rfl
              rcases h5 with rfl
              refine does_on rfl (by kernel_rfl) e5 fun K Q' hK => ?_
              clear e5
              have hz := H1.out
              go_simp; exact hK _ _ (Grow.refl _) rfl
            -- 11: pick t98 true t103
            · intro w1 hg Ar seen
              obtain ⟨v5, e5, h5⟩ := seen.dep 5 (d := 98) (by kernel_rfl) (by kernel_rfl) rfl
              rcases h5 with rfl
              obtain ⟨v10, e10, h10⟩ := seen.dep 10 (d := 103) (by kernel_rfl) (by kernel_rfl) rfl
              rcases h10 with rfl
              refine does_plain rfl fun K Q' hK => ?_
              go_simp; exact hK _ _ (Grow.refl _) rfl
            -- 12: move t104
            · intro w1 hg Ar seen
              obtain ⟨v11, e11, h11⟩ := seen.dep 11 (d := 104) (by kernel_rfl) (by kernel_rfl) rfl
              rcases h11 with rfl
              refine does_plain rfl fun K Q' hK => ?_
              go_simp; exact hK _ _ (Grow.refl _) rfl
            -- 13: move t6
            · intro w1 hg Ar seen
              obtain ⟨v12, e12, h12⟩ := seen.dep 12 (d := 105) (by kernel_rfl) (by kernel_rfl) rfl
              rcases h12 with rfl
              exact does_off rfl (by kernel_rfl) e12 ne_tf (Grow.refl _) rfl
            -- 14: indexAddr 63 t106 2:i64
            · intro w1 hg Ar seen
              obtain ⟨v12, e12, h12⟩ := seen.dep 12 (d := 105) (by kernel_rfl) (by kernel_rfl) rfl
              rcases h12 with rfl
              exact does_off rfl (by kernel_rfl) e12 ne_tf (Grow.refl _) rfl
            -- 15: load 25 t107
            · intro w1 hg Ar seen
              obtain ⟨v12, e12, h12⟩ := seen.dep 12 (d := 105) (by kernel_rfl) (by kernel_rfl) rfl
              rcases h12 with rfl
              exact does_off rfl (by kernel_rfl) e12 ne_tf (Grow.refl _) rfl
            -- 16: call fn35<resps.number> [t108] T[25]
            · intro w1 hg Ar seen
              obtain ⟨v12, e12, h12⟩ := seen.dep 12 (d := 105) (by kernel_rfl) (by kernel_rfl) rfl
              rcases h12 with rfl
              exact does_off rfl (by kernel_rfl) e12 ne_tf (Grow.refl _) rfl
            -- 17: fieldAddr 31 t8 1
            · intro w1 hg Ar seen
              obtain ⟨v12, e12, h12⟩ := seen.dep 12 (d := 105) (by kernel_rfl) (by kernel_rfl) rfl
              rcases h12 with rfl
              exact does_off rfl (by kernel_rfl) e12 ne_tf (Grow.refl _) rfl
            -- 18: load 29 t110
            · intro w1 hg Ar seen
              obtain ⟨v12, e12, h12⟩ := seen.dep 12 (d := 105) (by kernel_rfl) (by kernel_rfl) rfl
              rcases h12 with rfl
              exact does_off rfl (by kernel_rfl) e12 ne_tf (Grow.refl _) rfl
            -- 19: call len [t111] T[29]
            · intro w1 hg Ar seen
              obtain ⟨v12, e12, h12⟩ := seen.dep 12 (d := 105) (by kernel_rfl) (by kernel_rfl) rfl
              rcases h12 with rfl
              exact does_off rfl (by kernel_rfl) e12 ne_tf (Grow.refl _) rfl
            -- 20: binOp BinOp.neq 3 t109 t112 3
            · intro w1 hg Ar seen
              obtain ⟨v12, e12, h12⟩ := seen.dep 12 (d := 105) (by kernel_rfl) (by kernel_rfl) rfl
              rcases h12 with rfl
              exact does_off rfl (by kernel_rfl) e12 ne_tf (Grow.refl _) rfl
            -- 21: pick t105 true t113
            · intro w1 hg Ar seen
              obtain ⟨v12, e12, h12⟩ := seen.dep 12 (d := 105) (by kernel_rfl) (by kernel_rfl) rfl
              rcases h12 with rfl
              obtain ⟨v20, e20, h20⟩ := seen.dep 20 (d := 113) (by kernel_rfl) (by kernel_rfl) rfl
              rcases h20 with rfl
              refine does_plain rfl fun K Q' hK => ?_
              go_simp; exact hK _ _ (Grow.refl _) rfl
        intro w1 hg
        refine upon_w' (js := [0, 1, 2, 3, 4, 5, 6, 7, 8, 9, 10, 11, 12, 13, 14, 15, 16, 17, 18, 19, 20, 21]) (by rfl) ?_
        refine upon_c (x := some 93) (by kernel_rfl) rfl fun v0 h0 => ?_
        rcases h0 with rfl
        refine upon_c (x := some 94) (by kernel_rfl) rfl fun v1 h1 => ?_
        rcases h1 with rfl
        refine upon_c (x := some 95) (by kernel_rfl) rfl fun v2 h2 => ?_
        rcases h2 with rfl
        refine upon_c (x := some 96) (by kernel_rfl) rfl fun v3 h3 => ?_
        rcases h3 with rfl
        refine upon_c (x := some 97) (by kernel_rfl) rfl fun v4 h4 => ?_
        rcases h4 with rfl
        refine upon_c (x := some 98) (by kernel_rfl) rfl fun v5 h5 => ?_
        rcases h5 with rfl
        refine upon_c (x := some 99) (by kernel_rfl) rfl fun v6 h6 => ?_
        rcases h6 with rfl
        refine upon_c (x := some 100) (by kernel_rfl) rfl fun v7 h7 => ?_
        rcases h7 with rfl
        refine upon_c (x := some 101) (by kernel_rfl) rfl fun v8 h8 => ?_
        rcases h8 with rfl
        refine upon_c (x := some 102) (by kernel_rfl) rfl fun v9 h9 => ?_
        rcases h9 with rfl
        refine upon_c (x := some 103) (by kernel_rfl) rfl fun v10 h10 => ?_
        rcases h10 with rfl
        refine upon_c (x := some 104) (by kernel_rfl) rfl fun v11 h11 => ?_
        rcases h11 with rfl
        refine upon_c (x := some 105) (by kernel_rfl) rfl fun v12 h12 => ?_
        rcases h12 with rfl
        refine upon_c (x := some 106) (by kernel_rfl) rfl fun v13 h13 => ?_
        rcases h13 with rfl
        refine upon_c (x := some 107) (by kernel_rfl) rfl fun v14 h14 => ?_
        rcases h14 with rfl
        refine upon_c (x := some 108) (by kernel_rfl) rfl fun v15 h15 => ?_
        rcases h15 with rfl
        refine upon_c (x := some 109) (by kernel_rfl) rfl fun v16 h16 => ?_
        rcases h16 with rfl
        refine upon_c (x := some 110) (by kernel_rfl) rfl fun v17 h17 => ?_
        rcases h17 with rfl
        refine upon_c (x := some 111) (by kernel_rfl) rfl fun v18 h18 => ?_
        rcases h18 with rfl
        refine upon_c (x := some 112) (by kernel_rfl) rfl fun v19 h19 => ?_
        rcases h19 with rfl
        refine upon_c (x := some 113) (by kernel_rfl) rfl fun v20 h20 => ?_
        rcases h20 with rfl
        refine upon_c (x := some 114) (by kernel_rfl) rfl fun v21 h21 => ?_
        rcases h21 with rfl
        refine upon_n ?_
        go_simp
        have HB2 := hid (HB.out.below hg)
        clear hg
        go_wp2_with (first | (refine wpList_build_obj rfl 31 _ rfl #[] rfl _ (pBuild0 _) ?_) | (refine wpList_store_obj rfl 31 _ _ rfl (b + 1) rfl rpZ.arr rfl _ _ HB2.out.res rfl pSize (parr_one _) ?_; intro w10 hb10 hc10 hs10; have HB10 := hid hb10; have HC10 := hid hc10; clear hb10 hc10 hs10))
        refine bodyPost_ret (results_cell_tmp rfl _ _ (b + 1) _ _ _ _ rfl HB10.out Try.underlying31 rfl pSize _ rfl) rfl ?_
        rw [HE.out]
        exact ⟨rfl, by rw [HBE.out]; exact HB2.out.done HC10.out⟩
      have H1 : Hid ((n1 != 4) = false) := by show _ = _; simp [h1]
      clear h1
      by_cases h2 : n4 = (s.n : Int)
      rotate_left
      · have H2 : Hid ((n4 != (s.n : Int)) = true) := by show _ = _; simpa using h2
        have HE : Hid (readRs v.it = .error 4) := by show _ = _; rw [HEQ.out, if_pos (by rw [H2.out]; simp)]
        clear h2
        refine wp_region_each 22 [.eq (.slice (some ⟨gv, 0, none⟩) 2 cv), .eq (.pointer (some ⟨gv, 0, none⟩)), .eq (.slice sa.a sa.n sa.c), .eq (.int .i64 n0), .eq (.bool false), .eq (.bool false), .eq (.slice (some ⟨gv, 0, none⟩) 2 cv), .eq (.pointer (some ⟨gv, 1, none⟩)), .eq (.slice sb.a sb.n sb.c), .eq (.int .i64 n1), .eq (.bool false), .eq (.bool false), .eq (.bool false), .eq (.slice (some ⟨gh, 0, none⟩) 3 ch), .eq (.pointer (some ⟨gh, 2, none⟩)), .eq (.slice se.a se.n se.c), .eq (.int .i64 n4), .eq (.pointer (some ⟨p, 1, none⟩)), .eq (.slice s.a s.n s.c), .eq (.int .i64 (s.n : Int)), .eq (.bool true), .eq (.bool true)] (by kernel_rfl) (by kernel_rfl) (by kernel_rfl) (by kernel_rfl) ?_ ?_
        · as_aux_lemma =>
            refine each_c (o' := _) ?_ (each_c (o' := _) ?_ (each_c (o' := _) ?_ (each_c (o' := _) ?_ (each_c (o' := _) ?_ (each_c (o' := _) ?_ (each_c (o' := _) ?_ (each_c (o' := _) ?_ (each_c (o' := _) ?_ (each_c (o' := _) ?_ (each_c (o' := _) ?_ (each_c (o' := _) ?_ (each_c (o' := _) ?_ (each_c (o' := _) ?_ (each_c (o' := _) ?_ (each_c (o' := _) ?_ (each_c (o' := _) ?_ (each_c (o' := _) ?_ (each_c (o' := _) ?_ (each_c (o' := _) ?_ (each_c (o' := _) ?_ (each_c (o' := _) ?_ (each_n))))))))))))))))))))))
            -- 0: move t7
            · intro w1 hg Ar seen
              have s7 := seen.slot 7 (v := .slice (some ⟨gv, 0, none⟩) 2 cv) (by kernel_rfl) rfl
              refine does_plain rfl fun K Q' hK => ?_
              go_simp; exact hK _ _ (Grow.refl _) rfl
            -- 1: indexAddr 63 t93 0:i64
            · intro w1 hg Ar seen
              obtain ⟨v0, e0, h0⟩ := seen.dep 0 (d := 93) (by kernel_rfl) (by kernel_rfl) rfl
              rcases h0 with rfl
              refine does_plain rfl fun K Q' hK => ?_
              go_simp; exact hK _ _ (Grow.refl _) rfl
            -- 2: load 25 t94
            · intro w1 hg Ar seen
              obtain ⟨v1, e1, h1⟩ := seen.dep 1 (d := 94) (by kernel_rfl) (by kernel_rfl) rfl
              rcases h1 with rfl
              refine does_plain rfl fun K Q' hK => ?_
              have hc := cell_later hg HCA'.out
              go_simp; exact hK _ _ (Grow.refl _) rfl
            -- 3: call fn35<resps.number> [t95] T[25]
            · intro w1 hg Ar seen
              obtain ⟨v2, e2, h2⟩ := seen.dep 2 (d := 95) (by kernel_rfl) (by kernel_rfl) rfl
              rcases h2 with rfl
              refine does_plain rfl fun K Q' hK => ?_
              go_simp
              refine (snumber_any sa la _ (HSA'.out.below hg)).mono ?_
              rintro e u ⟨rfl, rfl⟩
              exact hK _ _ (Grow.refl _) (by rw [En0.out]; rfl)
            -- 4: binOp BinOp.neq 3 t96 1:i64 3
            · intro w1 hg Ar seen
              obtain ⟨v3, e3, h3⟩ := seen.dep 3 (d := 96) (by kernel_rfl) (by kernel_rfl) rfl
              rcases h3 with rfl
              refine does_plain rfl fun K Q' hK => ?_
              have hz := H0.out
              go_simp; exact hK _ _ (Grow.refl _) rfl
            -- 5: move t97
            · intro w1 hg Ar seen
              obtain ⟨v4, e4, h4⟩ := seen.dep 4 (d := 97) (by kernel_rfl) (by kernel_rfl) rfl
              rcases h4 with rfl
              refine does_plain rfl fun K Q' hK => ?_
              go_simp; exact hK _ _ (Grow.refl _) rfl
            -- 6: move t7
            · intro w1 hg Ar seen
              obtain ⟨v5, e5, h5⟩ := seen.dep 5 (d := 98) (by kernel_rfl) (by kernel_rfl) rfl
              rcases h5 with rfl
              have s7 := seen.slot 7 (v := .slice (some ⟨gv, 0, none⟩) 2 cv) (by kernel_rfl) rfl
              refine does_on rfl (by kernel_rfl) e5 fun K Q' hK => ?_
              clear e5
              go_simp; exact hK _ _ (Grow.refl _) rfl
            -- 7: indexAddr 63 t99 1:i64
            · intro w1 hg Ar seen
              obtain ⟨v6, e6, h6⟩ := seen.dep 6 (d := 99) (by kernel_rfl) (by kernel_rfl) rfl
              rcases h6 with rfl
              obtain ⟨v5, e5, h5⟩ := seen.dep 5 (d := 98) (by kernel_rfl) (by kernel_rfl) rfl
              rcases h5 with rfl
              refine does_on rfl (by kernel_rfl) e5 fun K Q' hK => ?_
              clear e5
              go_simp; exact hK _ _ (Grow.refl _) rfl
            -- 8: load 25 t100
            · intro w1 hg Ar seen
              obtain ⟨v7, e7, h7⟩ := seen.dep 7 (d := 100) (by kernel_rfl) (by kernel_rfl) rfl
              rcases h7 with rfl
              obtain ⟨v5, e5, h5⟩ := seen.dep 5 (d := 98) (by kernel_rfl) (by kernel_rfl) rfl
              rcases h5 with rfl
              refine does_on rfl (by kernel_rfl) e5 fun K Q' hK => ?_
              clear e5
              have hc := cell_later hg HCB'.out
              go_simp; exact hK _ _ (Grow.refl _) rfl
            -- 9: call fn35<resps.number> [t101] T[25]
            · intro w1 hg Ar seen
              obtain ⟨v8, e8, h8⟩ := seen.dep 8 (d := 101) (by kernel_rfl) (by kernel_rfl) rfl
              rcases h8 with rfl
              obtain ⟨v5, e5, h5⟩ := seen.dep 5 (d := 98) (by kernel_rfl) (by kernel_rfl) rfl
              rcases h5 with rfl
              refine does_on rfl (by kernel_rfl) e5 fun K Q' hK => ?_
              clear e5
              go_simp
              refine (snumber_any sb lb _ (HSB'.out.below hg)).mono ?_
              rintro e u ⟨rfl, rfl⟩
              exact hK _ _ (Grow.refl _) (by rw [En1.out]; rfl)
            -- 10: binOp BinOp.neq 3 t102 4:i64 3
            · intro w1 hg Ar seen
              obtain ⟨v9, e9, h9⟩ := seen.dep 9 (d := 102) (by kernel_rfl) (by kernel_rfl) rfl
              rcases h9 with rfl
              obtain ⟨v5, e5, h5⟩ := seen.dep 5 (d := 98) (by kernel_rfl) (by kernel_rfl) rfl
              rcases h5 with rfl
              refine does_on rfl (by kernel_rfl) e5 fun K Q' hK => ?_
              clear e5
              have hz := H1.out
              go_simp; exact hK _ _ (Grow.refl _) rfl
            -- 11: pick t98 true t103
            · intro w1 hg Ar seen
              obtain ⟨v5, e5, h5⟩ := seen.dep 5 (d := 98) (by kernel_rfl) (by kernel_rfl) rfl
              rcases h5 with rfl
              obtain ⟨v10, e10, h10⟩ := seen.dep 10 (d := 103) (by kernel_rfl) (by kernel_rfl) rfl
              rcases h10 with rfl
              refine does_plain rfl fun K Q' hK => ?_
              go_simp; exact hK _ _ (Grow.refl _) rfl
            -- 12: move t104
            · intro w1 hg Ar seen
              obtain ⟨v11, e11, h11⟩ := seen.dep 11 (d := 104) (by kernel_rfl) (by kernel_rfl) rfl
              rcases h11 with rfl
              refine does_plain rfl fun K Q' hK => ?_
              go_simp; exact hK _ _ (Grow.refl _) rfl
            -- 13: move t6
            · intro w1 hg Ar seen
              obtain ⟨v12, e12, h12⟩ := seen.dep 12 (d := 105) (by kernel_rfl) (by kernel_rfl) rfl
              rcases h12 with rfl
              have s6 := seen.slot 6 (v := .slice (some ⟨gh, 0, none⟩) 3 ch) (by kernel_rfl) rfl
              refine does_on rfl (by kernel_rfl) e12 fun K Q' hK => ?_
              clear e12
              go_simp; exact hK _ _ (Grow.refl _) rfl
            -- 14: indexAddr 63 t106 2:i64
            · intro w1 hg Ar seen
              obtain ⟨v13, e13, h13⟩ := seen.dep 13 (d := 106) (by kernel_rfl) (by kernel_rfl) rfl
              rcases h13 with rfl
              obtain ⟨v12, e12, h12⟩ := seen.dep 12 (d := 105) (by kernel_rfl) (by kernel_rfl) rfl
              rcases h12 with rfl
              refine does_on rfl (by kernel_rfl) e12 fun K Q' hK => ?_
              clear e12
              go_simp; exact hK _ _ (Grow.refl _) rfl
            -- 15: load 25 t107
            · intro w1 hg Ar seen
              obtain ⟨v14, e14, h14⟩ := seen.dep 14 (d := 107) (by kernel_rfl) (by kernel_rfl) rfl
              rcases h14 with rfl
              obtain ⟨v12, e12, h12⟩ := seen.dep 12 (d := 105) (by kernel_rfl) (by kernel_rfl) rfl
              rcases h12 with rfl
              refine does_on rfl (by kernel_rfl) e12 fun K Q' hK => ?_
              clear e12
              have hc := cell_later hg HCE'.out
              go_simp; exact hK _ _ (Grow.refl _) rfl
            -- 16: call fn35<resps.number> [t108] T[25]
            · intro w1 hg Ar seen
              obtain ⟨v15, e15, h15⟩ := seen.dep 15 (d := 108) (by kernel_rfl) (by kernel_rfl) rfl
              rcases h15 with rfl
              obtain ⟨v12, e12, h12⟩ := seen.dep 12 (d := 105) (by kernel_rfl) (by kernel_rfl) rfl
              rcases h12 with rfl
              refine does_on rfl (by kernel_rfl) e12 fun K Q' hK => ?_
              clear e12
              go_simp
              refine (snumber_any se le _ (HSE'.out.below hg)).mono ?_
              rintro e u ⟨rfl, rfl⟩
              exact hK _ _ (Grow.refl _) (by rw [En4.out]; rfl)
            -- 17: fieldAddr 31 t8 1
            · intro w1 hg Ar seen
              obtain ⟨v12, e12, h12⟩ := seen.dep 12 (d := 105) (by kernel_rfl) (by kernel_rfl) rfl
              rcases h12 with rfl
              have s8 := seen.slot 8 (v := .pointer (some ⟨p, 0, none⟩)) (by kernel_rfl) rfl
              refine does_on rfl (by kernel_rfl) e12 fun K Q' hK => ?_
              clear e12
              go_simp; exact hK _ _ (Grow.refl _) rfl
            -- 18: load 29 t110
            · intro w1 hg Ar seen
              obtain ⟨v17, e17, h17⟩ := seen.dep 17 (d := 110) (by kernel_rfl) (by kernel_rfl) rfl
              rcases h17 with rfl
              obtain ⟨v12, e12, h12⟩ := seen.dep 12 (d := 105) (by kernel_rfl) (by kernel_rfl) rfl
              rcases h12 with rfl
              refine does_on rfl (by kernel_rfl) e12 fun K Q' hK => ?_
              clear e12
              have hc := cell_of_block (j := 1) ((hg.block _ (block_lt HPB.out)).trans HPB.out) (rv1 _)
              go_simp; exact hK _ _ (Grow.refl _) rfl
            -- 19: call len [t111] T[29]
            · intro w1 hg Ar seen
              obtain ⟨v18, e18, h18⟩ := seen.dep 18 (d := 111) (by kernel_rfl) (by kernel_rfl) rfl
              rcases h18 with rfl
              obtain ⟨v12, e12, h12⟩ := seen.dep 12 (d := 105) (by kernel_rfl) (by kernel_rfl) rfl
              rcases h12 with rfl
              refine does_on rfl (by kernel_rfl) e12 fun K Q' hK => ?_
              clear e12
              go_simp; exact hK _ _ (Grow.refl _) rfl
            -- 20: binOp BinOp.neq 3 t109 t112 3
            · intro w1 hg Ar seen
              obtain ⟨v16, e16, h16⟩ := seen.dep 16 (d := 109) (by kernel_rfl) (by kernel_rfl) rfl
              rcases h16 with rfl
              obtain ⟨v19, e19, h19⟩ := seen.dep 19 (d := 112) (by kernel_rfl) (by kernel_rfl) rfl
              rcases h19 with rfl
              obtain ⟨v12, e12, h12⟩ := seen.dep 12 (d := 105) (by kernel_rfl) (by kernel_rfl) rfl
              rcases h12 with rfl
              refine does_on rfl (by kernel_rfl) e12 fun K Q' hK => ?_
              clear e12
              have hz := H2.out
              go_simp; exact hK _ _ (Grow.refl _) rfl
            -- 21: pick t105 true t113
            · intro w1 hg Ar seen
              obtain ⟨v12, e12, h12⟩ := seen.dep 12 (d := 105) (by kernel_rfl) (by kernel_rfl) rfl
              rcases h12 with rfl
              obtain ⟨v20, e20, h20⟩ := seen.dep 20 (d := 113) (by kernel_rfl) (by kernel_rfl) rfl
              rcases h20 with rfl
              refine does_plain rfl fun K Q' hK => ?_
              go_simp; exact hK _ _ (Grow.refl _) rfl
        intro w1 hg
        refine upon_w' (js := [0, 1, 2, 3, 4, 5, 6, 7, 8, 9, 10, 11, 12, 13, 14, 15, 16, 17, 18, 19, 20, 21]) (by rfl) ?_
        refine upon_c (x := some 93) (by kernel_rfl) rfl fun v0 h0 => ?_
        rcases h0 with rfl
        refine upon_c (x := some 94) (by kernel_rfl) rfl fun v1 h1 => ?_
        rcases h1 with rfl
        refine upon_c (x := some 95) (by kernel_rfl) rfl fun v2 h2 => ?_
        rcases h2 with rfl
        refine upon_c (x := some 96) (by kernel_rfl) rfl fun v3 h3 => ?_
        rcases h3 with rfl
        refine upon_c (x := some 97) (by kernel_rfl) rfl fun v4 h4 => ?_
        rcases h4 with rfl
        refine upon_c (x := some 98) (by kernel_rfl) rfl fun v5 h5 => ?_
        rcases h5 with rfl
        refine upon_c (x := some 99) (by kernel_rfl) rfl fun v6 h6 => ?_
        rcases h6 with rfl
        refine upon_c (x := some 100) (by kernel_rfl) rfl fun v7 h7 => ?_
        rcases h7 with rfl
        refine upon_c (x := some 101) (by kernel_rfl) rfl fun v8 h8 => ?_
        rcases h8 with rfl
        refine upon_c (x := some 102) (by kernel_rfl) rfl fun v9 h9 => ?_
        rcases h9 with rfl
        refine upon_c (x := some 103) (by kernel_rfl) rfl fun v10 h10 => ?_
        rcases h10 with rfl
        refine upon_c (x := some 104) (by kernel_rfl) rfl fun v11 h11 => ?_
        rcases h11 with rfl
        refine upon_c (x := some 105) (by kernel_rfl) rfl fun v12 h12 => ?_
        rcases h12 with rfl
        refine upon_c (x := some 106) (by kernel_rfl) rfl fun v13 h13 => ?_
        rcases h13 with rfl
        refine upon_c (x := some 107) (by kernel_rfl) rfl fun v14 h14 => ?_
        rcases h14 with rfl
        refine upon_c (x := some 108) (by kernel_rfl) rfl fun v15 h15 => ?_
        rcases h15 with rfl
        refine upon_c (x := some 109) (by kernel_rfl) rfl fun v16 h16 => ?_
        rcases h16 with rfl
        refine upon_c (x := some 110) (by kernel_rfl) rfl fun v17 h17 => ?_
        rcases h17 with rfl
        refine upon_c (x := some 111) (by kernel_rfl) rfl fun v18 h18 => ?_
        rcases h18 with rfl
        refine upon_c (x := some 112) (by kernel_rfl) rfl fun v19 h19 => ?_
        rcases h19 with rfl
        refine upon_c (x := some 113) (by kernel_rfl) rfl fun v20 h20 => ?_
        rcases h20 with rfl
        refine upon_c (x := some 114) (by kernel_rfl) rfl fun v21 h21 => ?_
        rcases h21 with rfl
        refine upon_n ?_
        go_simp
        have HB2 := hid (HB.out.below hg)
        clear hg
        go_wp2_with (first | (refine wpList_build_obj rfl 31 _ rfl #[] rfl _ (pBuild0 _) ?_) | (refine wpList_store_obj rfl 31 _ _ rfl (b + 1) rfl rpZ.arr rfl _ _ HB2.out.res rfl pSize (parr_one _) ?_; intro w10 hb10 hc10 hs10; have HB10 := hid hb10; have HC10 := hid hc10; clear hb10 hc10 hs10))
        refine bodyPost_ret (results_cell_tmp rfl _ _ (b + 1) _ _ _ _ rfl HB10.out Try.underlying31 rfl pSize _ rfl) rfl ?_
        rw [HE.out]
        exact ⟨rfl, by rw [HBE.out]; exact HB2.out.done HC10.out⟩
      have H2 : Hid ((n4 != (s.n : Int)) = false) := by show _ = _; simp [h2]
      have HE : Hid (readRs v.it = .ok (RsV.rq { time := tm, its := s, items := lq })) := by show _ = _; rw [HEQ.out, if_neg (by rw [H0.out, H1.out, H2.out]; simp)]; rfl
      clear h2
      refine wp_region_each 22 [.eq (.slice (some ⟨gv, 0, none⟩) 2 cv), .eq (.pointer (some ⟨gv, 0, none⟩)), .eq (.slice sa.a sa.n sa.c), .eq (.int .i64 n0), .eq (.bool false), .eq (.bool false), .eq (.slice (some ⟨gv, 0, none⟩) 2 cv), .eq (.pointer (some ⟨gv, 1, none⟩)), .eq (.slice sb.a sb.n sb.c), .eq (.int .i64 n1), .eq (.bool false), .eq (.bool false), .eq (.bool false), .eq (.slice (some ⟨gh, 0, none⟩) 3 ch), .eq (.pointer (some ⟨gh, 2, none⟩)), .eq (.slice se.a se.n se.c), .eq (.int .i64 n4), .eq (.pointer (some ⟨p, 1, none⟩)), .eq (.slice s.a s.n s.c), .eq (.int .i64 (s.n : Int)), .eq (.bool false), .eq (.bool false)] (by kernel_rfl) (by kernel_rfl) (by kernel_rfl) (by kernel_rfl) ?_ ?_
      · as_aux_lemma =>
          refine each_c (o' := _) ?_ (each_c (o' := _) ?_ (each_c (o' := _) ?_ (each_c (o' := _) ?_ (each_c (o' := _) ?_ (each_c (o' := _) ?_ (each_c (o' := _) ?_ (each_c (o' := _) ?_ (each_c (o' := _) ?_ (each_c (o' := _) ?_ (each_c (o' := _) ?_ (each_c (o' := _) ?_ (each_c (o' := _) ?_ (each_c (o' := _) ?_ (each_c (o' := _) ?_ (each_c (o' := _) ?_ (each_c (o' := _) ?_ (each_c (o' := _) ?_ (each_c (o' := _) ?_ (each_c (o' := _) ?_ (each_c (o' := _) ?_ (each_c (o' := _) ?_ (each_n))))))))))))))))))))))
          -- 0: move t7
          · intro w1 hg Ar seen
            have s7 := seen.slot 7 (v := .slice (some ⟨gv, 0, none⟩) 2 cv) (by kernel_rfl) rfl
            refine does_plain rfl fun K Q' hK => ?_
            go_simp; exact hK _ _ (Grow.refl _) rfl
          -- 1: indexAddr 63 t93 0:i64
          · intro w1 hg Ar seen
            obtain ⟨v0, e0, h0⟩ := seen.dep 0 (d := 93) (by kernel_rfl) (by kernel_rfl) rfl
            rcases h0 with rfl
            refine does_plain rfl fun K Q' hK => ?_
            go_simp; exact hK _ _ (Grow.refl _) rfl
          -- 2: load 25 t94
          · intro w1 hg Ar seen
            obtain ⟨v1, e1, h1⟩ := seen.dep 1 (d := 94) (by kernel_rfl) (by kernel_rfl) rfl
            rcases h1 with rfl
            refine does_plain rfl fun K Q' hK => ?_
            have hc := cell_later hg HCA'.out
            go_simp; exact hK _ _ (Grow.refl _) rfl
          -- 3: call fn35<resps.number> [t95] T[25]
          · intro w1 hg Ar seen
            obtain ⟨v2, e2, h2⟩ := seen.dep 2 (d := 95) (by kernel_rfl) (by kernel_rfl) rfl
            rcases h2 with rfl
            refine does_plain rfl fun K Q' hK => ?_
            go_simp
            refine (snumber_any sa la _ (HSA'.out.below hg)).mono ?_
            rintro e u ⟨rfl, rfl⟩
            exact hK _ _ (Grow.refl _) (by rw [En0.out]; rfl)
          -- 4: binOp BinOp.neq 3 t96 1:i64 3
          · intro w1 hg Ar seen
            obtain ⟨v3, e3, h3⟩ := seen.dep 3 (d := 96) (by kernel_rfl) (by kernel_rfl) rfl
            rcases h3 with rfl
            refine does_plain rfl fun K Q' hK => ?_
            have hz := H0.out
            go_simp; exact hK _ _ (Grow.refl _) rfl
          -- 5: move t97
          · intro w1 hg Ar seen
            obtain ⟨v4, e4, h4⟩ := seen.dep 4 (d := 97) (by kernel_rfl) (by kernel_rfl) rfl
            rcases h4 with rfl
            refine does_plain rfl fun K Q' hK => ?_
            go_simp; exact hK _ _ (Grow.refl _) rfl
          -- 6: move t7
          · intro w1 hg Ar seen
            obtain ⟨v5, e5, h5⟩ := seen.dep 5 (d := 98) (by kernel_rfl) (by kernel_rfl) rfl
            rcases h5 with rfl
            have s7 := seen.slot 7 (v := .slice (some ⟨gv, 0, none⟩) 2 cv) (by kernel_rfl) rfl
            refine does_on rfl (by kernel_rfl) e5 fun K Q' hK => ?_
            clear e5
            go_simp; exact hK _ _ (Grow.refl _) rfl
          -- 7: indexAddr 63 t99 1:i64
          · intro w1 hg Ar seen
            obtain ⟨v6, e6, h6⟩ := seen.dep 6 (d := 99) (by kernel_rfl) (by kernel_rfl) rfl
            rcases h6 with rfl
            obtain ⟨v5, e5, h5⟩ := seen.dep 5 (d := 98) (by kernel_rfl) (by kernel_rfl) rfl
            rcases h5 with rfl
            refine does_on rfl (by kernel_rfl) e5 fun K Q' hK => ?_
            clear e5
            go_simp; exact hK _ _ (Grow.refl _) rfl
          -- 8: load 25 t100
          · intro w1 hg Ar seen
            obtain ⟨v7, e7, h7⟩ := seen.dep 7 (d := 100) (by kernel_rfl) (by kernel_rfl) rfl
            rcases h7 with rfl
            obtain ⟨v5, e5, h5⟩ := seen.dep 5 (d := 98) (by kernel_rfl) (by kernel_rfl) rfl
            rcases h5 with rfl
            refine does_on rfl (by kernel_rfl) e5 fun K Q' hK => ?_
            clear e5
            have hc := cell_later hg HCB'.out
            go_simp; exact hK _ _ (Grow.refl _) rfl
          -- 9: call fn35<resps.number> [t101] T[25]
          · intro w1 hg Ar seen
            obtain ⟨v8, e8, h8⟩ := seen.dep 8 (d := 101) (by kernel_rfl) (by kernel_rfl) rfl
            rcases h8 with rfl
            obtain ⟨v5, e5, h5⟩ := seen.dep 5 (d := 98) (by kernel_rfl) (by kernel_rfl) rfl
            rcases h5 with rfl
            refine does_on rfl (by kernel_rfl) e5 fun K Q' hK => ?_
            clear e5
            go_simp
            refine (snumber_any sb lb _ (HSB'.out.below hg)).mono ?_
            rintro e u ⟨rfl, rfl⟩
            exact hK _ _ (Grow.refl _) (by rw [En1.out]; rfl)
          -- 10: binOp BinOp.neq 3 t102 4:i64 3
          · intro w1 hg Ar seen
            obtain ⟨v9, e9, h9⟩ := seen.dep 9 (d := 102) (by kernel_rfl) (by kernel_rfl) rfl
            rcases h9 with rfl
            obtain ⟨v5, e5, h5⟩ := seen.dep 5 (d := 98) (by kernel_rfl) (by kernel_rfl) rfl
            rcases h5 with rfl
            refine does_on rfl (by kernel_rfl) e5 fun K Q' hK => ?_
            clear e5
            have hz := H1.out
            go_simp; exact hK _ _ (Grow.refl _) rfl
          -- 11: pick t98 true t103
          · intro w1 hg Ar seen
            obtain ⟨v5, e5, h5⟩ := seen.dep 5 (d := 98) (by kernel_rfl) (by kernel_rfl) rfl
            rcases h5 with rfl
            obtain ⟨v10, e10, h10⟩ := seen.dep 10 (d := 103) (by kernel_rfl) (by kernel_rfl) rfl
            rcases h10 with rfl
            refine does_plain rfl fun K Q' hK => ?_
            go_simp; exact hK _ _ (Grow.refl _) rfl
          -- 12: move t104
          · intro w1 hg Ar seen
            obtain ⟨v11, e11, h11⟩ := seen.dep 11 (d := 104) (by kernel_rfl) (by kernel_rfl) rfl
            rcases h11 with rfl
            refine does_plain rfl fun K Q' hK => ?_
            go_simp; exact hK _ _ (Grow.refl _) rfl
          -- 13: move t6
          · intro w1 hg Ar seen
            obtain ⟨v12, e12, h12⟩ := seen.dep 12 (d := 105) (by kernel_rfl) (by kernel_rfl) rfl
            rcases h12 with rfl
            have s6 := seen.slot 6 (v := .slice (some ⟨gh, 0, none⟩) 3 ch) (by kernel_rfl) rfl
            refine does_on rfl (by kernel_rfl) e12 fun K Q' hK => ?_
            clear e12
            go_simp; exact hK _ _ (Grow.refl _) rfl
          -- 14: indexAddr 63 t106 2:i64
          · intro w1 hg Ar seen
            obtain ⟨v13, e13, h13⟩ := seen.dep 13 (d := 106) (by kernel_rfl) (by kernel_rfl) rfl
            rcases h13 with rfl
            obtain ⟨v12, e12, h12⟩ := seen.dep 12 (d := 105) (by kernel_rfl) (by kernel_rfl) rfl
            rcases h12 with rfl
            refine does_on rfl (by kernel_rfl) e12 fun K Q' hK => ?_
            clear e12
            go_simp; exact hK _ _ (Grow.refl _) rfl
          -- 15: load 25 t107
          · intro w1 hg Ar seen
            obtain ⟨v14, e14, h14⟩ := seen.dep 14 (d := 107) (by kernel_rfl) (by kernel_rfl) rfl
            rcases h14 with rfl
            obtain ⟨v12, e12, h12⟩ := seen.dep 12 (d := 105) (by kernel_rfl) (by kernel_rfl) rfl
            rcases h12 with rfl
            refine does_on rfl (by kernel_rfl) e12 fun K Q' hK => ?_
            clear e12
            have hc := cell_later hg HCE'.out
            go_simp; exact hK _ _ (Grow.refl _) rfl
          -- 16: call fn35<resps.number> [t108] T[25]
          · intro w1 hg Ar seen
            obtain ⟨v15, e15, h15⟩ := seen.dep 15 (d := 108) (by kernel_rfl) (by kernel_rfl) rfl
            rcases h15 with rfl
            obtain ⟨v12, e12, h12⟩ := seen.dep 12 (d := 105) (by kernel_rfl) (by kernel_rfl) rfl
            rcases h12 with rfl
            refine does_on rfl (by kernel_rfl) e12 fun K Q' hK => ?_
            clear e12
            go_simp
            refine (snumber_any se le _ (HSE'.out.below hg)).mono ?_
            rintro e u ⟨rfl, rfl⟩
            exact hK _ _ (Grow.refl _) (by rw [En4.out]; rfl)
          -- 17: fieldAddr 31 t8 1
          · intro w1 hg Ar seen
            obtain ⟨v12, e12, h12⟩ := seen.dep 12 (d := 105) (by kernel_rfl) (by kernel_rfl) rfl
            rcases h12 with rfl
            have s8 := seen.slot 8 (v := .pointer (some ⟨p, 0, none⟩)) (by kernel_rfl) rfl
            refine does_on rfl (by kernel_rfl) e12 fun K Q' hK => ?_
            clear e12
            go_simp; exact hK _ _ (Grow.refl _) rfl
          -- 18: load 29 t110
          · intro w1 hg Ar seen
            obtain ⟨v17, e17, h17⟩ := seen.dep 17 (d := 110) (by kernel_rfl) (by kernel_rfl) rfl
            rcases h17 with rfl
            obtain ⟨v12, e12, h12⟩ := seen.dep 12 (d := 105) (by kernel_rfl) (by kernel_rfl) rfl
            rcases h12 with rfl
            refine does_on rfl (by kernel_rfl) e12 fun K Q' hK => ?_
            clear e12
            have hc := cell_of_block (j := 1) ((hg.block _ (block_lt HPB.out)).trans HPB.out) (rv1 _)
            go_simp; exact hK _ _ (Grow.refl _) rfl
          -- 19: call len [t111] T[29]
          · intro w1 hg Ar seen
            obtain ⟨v18, e18, h18⟩ := seen.dep 18 (d := 111) (by kernel_rfl) (by kernel_rfl) rfl
            rcases h18 with rfl
            obtain ⟨v12, e12, h12⟩ := seen.dep 12 (d := 105) (by kernel_rfl) (by kernel_rfl) rfl
            rcases h12 with rfl
            refine does_on rfl (by kernel_rfl) e12 fun K Q' hK => ?_
            clear e12
            go_simp; exact hK _ _ (Grow.refl _) rfl
          -- 20: binOp BinOp.neq 3 t109 t112 3
          · intro w1 hg Ar seen
            obtain ⟨v16, e16, h16⟩ := seen.dep 16 (d := 109) (by kernel_rfl) (by kernel_rfl) rfl
            rcases h16 with rfl
            obtain ⟨v19, e19, h19⟩ := seen.dep 19 (d := 112) (by kernel_rfl) (by kernel_rfl) rfl
            rcases h19 with rfl
            obtain ⟨v12, e12, h12⟩ := seen.dep 12 (d := 105) (by kernel_rfl) (by kernel_rfl) rfl
            rcases h12 with rfl
            refine does_on rfl (by kernel_rfl) e12 fun K Q' hK => ?_
            clear e12
            have hz := H2.out
            go_simp; exact hK _ _ (Grow.refl _) rfl
          -- 21: pick t105 true t113
          · intro w1 hg Ar seen
            obtain ⟨v12, e12, h12⟩ := seen.dep 12 (d := 105) (by kernel_rfl) (by kernel_rfl) rfl
            rcases h12 with rfl
            obtain ⟨v20, e20, h20⟩ := seen.dep 20 (d := 113) (by kernel_rfl) (by kernel_rfl) rfl
            rcases h20 with rfl
            refine does_plain rfl fun K Q' hK => ?_
            go_simp; exact hK _ _ (Grow.refl _) rfl
      intro w1 hg
      refine upon_w' (js := [0, 1, 2, 3, 4, 5, 6, 7, 8, 9, 10, 11, 12, 13, 14, 15, 16, 17, 18, 19, 20, 21]) (by rfl) ?_
      refine upon_c (x := some 93) (by kernel_rfl) rfl fun v0 h0 => ?_
      rcases h0 with rfl
      refine upon_c (x := some 94) (by kernel_rfl) rfl fun v1 h1 => ?_
      rcases h1 with rfl
      refine upon_c (x := some 95) (by kernel_rfl) rfl fun v2 h2 => ?_
      rcases h2 with rfl
      refine upon_c (x := some 96) (by kernel_rfl) rfl fun v3 h3 => ?_
      rcases h3 with rfl
      refine upon_c (x := some 97) (by kernel_rfl) rfl fun v4 h4 => ?_
      rcases h4 with rfl
      refine upon_c (x := some 98) (by kernel_rfl) rfl fun v5 h5 => ?_
      rcases h5 with rfl
      refine upon_c (x := some 99) (by kernel_rfl) rfl fun v6 h6 => ?_
      rcases h6 with rfl
      refine upon_c (x := some 100) (by kernel_rfl) rfl fun v7 h7 => ?_
      rcases h7 with rfl
      refine upon_c (x := some 101) (by kernel_rfl) rfl fun v8 h8 => ?_
      rcases h8 with rfl
      refine upon_c (x := some 102) (by kernel_rfl) rfl fun v9 h9 => ?_
      rcases h9 with rfl
      refine upon_c (x := some 103) (by kernel_rfl) rfl fun v10 h10 => ?_
      rcases h10 with rfl
      refine upon_c (x := some 104) (by kernel_rfl) rfl fun v11 h11 => ?_
      rcases h11 with rfl
      refine upon_c (x := some 105) (by kernel_rfl) rfl fun v12 h12 => ?_
      rcases h12 with rfl
      refine upon_c (x := some 106) (by kernel_rfl) rfl fun v13 h13 => ?_
      rcases h13 with rfl
      refine upon_c (x := some 107) (by kernel_rfl) rfl fun v14 h14 => ?_
      rcases h14 with rfl
      refine upon_c (x := some 108) (by kernel_rfl) rfl fun v15 h15 => ?_
      rcases h15 with rfl
      refine upon_c (x := some 109) (by kernel_rfl) rfl fun v16 h16 => ?_
      rcases h16 with rfl
      refine upon_c (x := some 110) (by kernel_rfl) rfl fun v17 h17 => ?_
      rcases h17 with rfl
      refine upon_c (x := some 111) (by kernel_rfl) rfl fun v18 h18 => ?_
      rcases h18 with rfl
      refine upon_c (x := some 112) (by kernel_rfl) rfl fun v19 h19 => ?_
      rcases h19 with rfl
      refine upon_c (x := some 113) (by kernel_rfl) rfl fun v20 h20 => ?_
      rcases h20 with rfl
      refine upon_c (x := some 114) (by kernel_rfl) rfl fun v21 h21 => ?_
      rcases h21 with rfl
      refine upon_n ?_
      go_simp
      have HB2 := hid (HB.out.below hg)
      have HQO2 := hid (HQO.out.below hg)
      have HPB2 := hid ((hg.block _ (block_lt HPB.out)).trans HPB.out)
      clear hg
      go_wp2_with (first | (refine wpList_load_row rfl 31 _ rfl p rfl _ _ _ _ HPB2.out Try.underlying31 rfl pSize ?_) | (refine wpList_store_obj rfl 31 _ _ rfl (b + 1) rfl (RsV.arr { time := tm, its := s, items := lq }) rfl _ _ HB2.out.res rfl pSize (parr_one _) ?_; intro w10 hb10 hc10 hs10; have HB10 := hid hb10; have HC10 := hid hc10; clear hb10 hc10 hs10))
      refine bodyPost_ret (results_cell_tmp rfl _ _ (b + 1) _ _ _ _ rfl HB10.out Try.underlying31 rfl pSize _ rfl) rfl ?_
      rw [HE.out]
      refine ⟨_, rfl, rfl, ⟨HQO2.out.its.keep HC10.out (fun k hk hm => by have := List.mem_singleton.1 hm; have := HSB2.out k hk; have := HPZ.out; have := HZP.out; have := HBZ.out; omega), fun x hx => RsIV.ok.keep HC10.out (HQO2.out.each x hx) (fun k hk hm => (HPF.out x hx k hk).2 (List.mem_singleton.1 hm))⟩, by rw [HBE.out]; exact HB2.out.done HC10.out⟩
end Go.Proofs.Ytfcobmncbnkppaa
