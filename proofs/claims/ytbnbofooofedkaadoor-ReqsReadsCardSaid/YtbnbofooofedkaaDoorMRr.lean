/- The reference's version. The reference's ReadRequest. -/
import Derived.Test.YtbnbofooofedkaaDoorReq6
import Derived.Test.YtbnbofooofedkaaDoorPay13
import Derived.Test.YtbnbofooofedkaaDoorMRef
import Derived.Deep.DeepCutAuto
import Derived.Deep.CutBlock
namespace Go.Proofs.YtbnbofooofedkaaDoor
section
open Go.RowKit
set_option linter.unusedVariables false
set_option linter.unusedSimpArgs false
set_option maxRecDepth 100000
set_option maxHeartbeats 3200000
def verV (i : Itm) : Value := match parseV verF i with
 | .error c => .tuple #[.int .i64 0, .int .i64 0, .int .i64 c]
 | .ok r => .tuple #[.int .i64 (numV (r.getD 0 []) 0), .int .i64 (numV (r.getD 1 []) 0), .int .i64 0]
theorem verV_err {i : Itm} {c : Int} (h : parseV verF i = .error c) : verV i = .tuple #[.int .i64 0, .int .i64 0, .int .i64 c] := by unfold verV; rw [h]
theorem verV_ok {i : Itm} {a b : List Itm} (h : parseV verF i = .ok [a, b]) : verV i = .tuple #[.int .i64 (numV a 0), .int .i64 (numV b 0), .int .i64 0] := by unfold verV; rw [h]; rfl
theorem rversion_any (v : ItV) (w : World) (hv : v.ok w) : Calls Tryd.prog 31 #[.agg v.arr] w fun e w' => e = .returned (verV v.it) ∧ Below w.heap.size w w' := by
 obtain ⟨i, hi, hz0, hz1, hz2⟩ := info_parts fInfo
 have HV := hid hv
 clear hv
 generalize hbe : w.heap.size = b
 have HBE := hid hbe; clear hbe
 go_enter Tryd.func31, Tryd.ntmps31
 go_upto_region 1 with (fail)
 go_simp
 have hbw : Below w.heap.size w (w.alloc (.cells v.arr 27)) := (Below.refl _ _).alloc (Nat.le_refl _) _
 have hb0 := block_new w (.cells v.arr 27)
 have hsz : (w.alloc (.cells v.arr 27)).heap.size = w.heap.size + 1 := by simp
 have HV0 := hid (HV.out.below hbw)
 rw [HBE.out] at hbw hb0 hsz ⊢
 have HBW := hid hbw; have HB0 := hid hb0
 have LO : b ≤ (w.alloc (.cells v.arr 27)).heap.size := by omega
 clear hbw hb0 hsz HV
 generalize w.alloc (.cells v.arr 27) = W at *
 rcases hp : parseV verF v.it with c | r
 ·have HE := hid (verV_err hp)
  refine wp_region_each 10 [.eq (.agg v.arr), .eq (.agg (needF 4325482 2).arr), .eq (.agg (needF 4325483 2).arr), stF verF, .eq (.tuple #[.slice none 0 0, .int .i64 c]), .eq (.tuple #[.slice none 0 0, .int .i64 c]), .eq (.slice none 0 0), .eq (.int .i64 c), .eq (.slice none 0 0), .eq (.int .i64 c)] (by kernel_rfl) (by kernel_rfl) (by kernel_rfl) (by kernel_rfl) ?_ ?_
  ·all_goals
    refine each_5 ?_ ?_ ?_ ?_ ?_ (each_5 ?_ ?_ ?_ ?_ ?_ (each_n))
    ·intro w1 hg Ar seen
     have s1 := seen.sl 1 (.pointer (some ⟨b, 0, none⟩))
     refine does_plain rfl fun K Q' hK => ?_
     refine wp_load_row 27 _ rfl b (by simp [Act.eval, s1]) _ _ _ _ ((hg.block _ (block_lt HB0.out)).trans HB0.out) Tryd.underlying27 rfl iSize ?_
     exact hK _ _ (Grow.refl _) rfl
    ·intro w1 hg Ar seen
     refine does_plain rfl fun K Q' hK => ?_
     go_simp
     refine (rneed_any _ _ _).mono ?_
     rintro e u ⟨rfl, hb⟩
     exact hK _ _ hb rfl
    ·intro w1 hg Ar seen
     refine does_plain rfl fun K Q' hK => ?_
     go_simp
     refine (rneed_any _ _ _).mono ?_
     rintro e u ⟨rfl, hb⟩
     exact hK _ _ hb rfl
    ·intro w1 hg Ar seen
     have e1 := seen.de 1 9
     have e2 := seen.de 2 10
     refine does_plain rfl fun K Q' hK => ?_
     refine wp_build_flds _ 52 2 _ rfl verF rfl (by decide) (by decide) (by simp [Act.eval, e1, e2]; rfl) (fldCells verF).toArray (by simp) i Tryd.underlying54 hi hz0 hz1 (by kernel_rfl) ?_
     intro s hs
     exact hK _ _ ((Below.refl _ _).alloc (Nat.le_refl _) _) ⟨s, rfl, hs⟩
    ·intro w1 hg Ar seen
     have e0 := seen.de 0 8
     obtain ⟨v3, e3, h3⟩ := seen.dp 3 11
     refine does_plain rfl fun K Q' hK => ?_
     obtain ⟨sf, rfl, hsf⟩ := h3
     go_simp
     refine (refParse_any v sf verF _ (HV0.out.below hg) hsf (fun _ => True) (fun _ _ => trivial)).mono ?_
     intro e u hres
     obtain ⟨rfl, hb⟩ := parsedR_err hres hp
     exact hK _ _ hb rfl
    ·intro w1 hg Ar seen
     have e4 := seen.de 4 12
     refine does_plain rfl fun K Q' hK => ?_
     go_simp; exact hK _ _ (Grow.refl _) rfl
    ·intro w1 hg Ar seen
     have e5 := seen.de 5 7
     refine does_plain rfl fun K Q' hK => ?_
     go_simp; exact hK _ _ (Grow.refl _) rfl
    ·intro w1 hg Ar seen
     have e5 := seen.de 5 7
     refine does_plain rfl fun K Q' hK => ?_
     go_simp; exact hK _ _ (Grow.refl _) rfl
    ·intro w1 hg Ar seen
     have e6 := seen.de 6 13
     refine does_plain rfl fun K Q' hK => ?_
     go_simp; exact hK _ _ (Grow.refl _) rfl
    ·intro w1 hg Ar seen
     have e7 := seen.de 7 14
     refine does_plain rfl fun K Q' hK => ?_
     go_simp; exact hK _ _ (Grow.refl _) rfl
  intro w1 hg
  refine upon_w' (js := [0, 1, 2, 3, 4, 5, 6, 7, 8, 9]) (by rfl) ?_
  refine upon_e (some 8) (upon_e (some 9) (upon_e (some 10) (upon_v (some 11) fun v3 h3 => upon_e (some 12) (upon_e (some 7) (upon_e (some 13) (upon_e (some 14) (upon_e (some 5) (upon_e (some 6) (upon_n ?_)))))))))
  go_simp
  have HB1 := hid (HBW.out.trans (hg.mono LO))
  have hc := parse_code hp
  clear hg hp h3
  go_wp2_with fail
  go_ret3
  exact ⟨by rw [HE.out]; rfl, HB1.out⟩
 refine wp_region_each 10 [.eq (.agg v.arr), .eq (.agg (needF 4325482 2).arr), .eq (.agg (needF 4325483 2).arr), stF verF, stRowsTR (fun _ => True) 25 27 b r, stRowsTR (fun _ => True) 25 27 b r, stRowsR (fun _ => True) 25 27 b r, .eq (.int .i64 0), stRowsR (fun _ => True) 25 27 b r, .eq (.int .i64 0)] (by kernel_rfl) (by kernel_rfl) (by kernel_rfl) (by kernel_rfl) ?_ ?_
 ·all_goals
   refine each_5 ?_ ?_ ?_ ?_ ?_ (each_5 ?_ ?_ ?_ ?_ ?_ (each_n))
   ·intro w1 hg Ar seen
    have s1 := seen.sl 1 (.pointer (some ⟨b, 0, none⟩))
    refine does_plain rfl fun K Q' hK => ?_
    refine wp_load_row 27 _ rfl b (by simp [Act.eval, s1]) _ _ _ _ ((hg.block _ (block_lt HB0.out)).trans HB0.out) Tryd.underlying27 rfl iSize ?_
    exact hK _ _ (Grow.refl _) rfl
   ·intro w1 hg Ar seen
    refine does_plain rfl fun K Q' hK => ?_
    go_simp
    refine (rneed_any _ _ _).mono ?_
    rintro e u ⟨rfl, hb⟩
    exact hK _ _ hb rfl
   ·intro w1 hg Ar seen
    refine does_plain rfl fun K Q' hK => ?_
    go_simp
    refine (rneed_any _ _ _).mono ?_
    rintro e u ⟨rfl, hb⟩
    exact hK _ _ hb rfl
   ·intro w1 hg Ar seen
    have e1 := seen.de 1 9
    have e2 := seen.de 2 10
    refine does_plain rfl fun K Q' hK => ?_
    refine wp_build_flds _ 52 2 _ rfl verF rfl (by decide) (by decide) (by simp [Act.eval, e1, e2]; rfl) (fldCells verF).toArray (by simp) i Tryd.underlying54 hi hz0 hz1 (by kernel_rfl) ?_
    intro s hs
    exact hK _ _ ((Below.refl _ _).alloc (Nat.le_refl _) _) ⟨s, rfl, hs⟩
   ·intro w1 hg Ar seen
    have e0 := seen.de 0 8
    obtain ⟨v3, e3, h3⟩ := seen.dp 3 11
    refine does_plain rfl fun K Q' hK => ?_
    obtain ⟨sf, rfl, hsf⟩ := h3
    go_simp
    refine (refParse_any v sf verF _ (HV0.out.below hg) hsf (fun _ => True) (fun _ _ => trivial)).mono ?_
    intro e u hres
    obtain ⟨so, rfl, h1, hb⟩ := parsedR_ok hres hp (Nat.le_trans LO hg.size)
    exact hK _ _ hb ⟨so, rfl, h1⟩
   ·intro w1 hg Ar seen
    obtain ⟨v4, e4, h4⟩ := seen.dp 4 12
    refine does_plain rfl fun K Q' hK => ?_
    go_simp
    exact hK _ _ (Grow.refl _) h4
   ·intro w1 hg Ar seen
    obtain ⟨v5, e5, h5⟩ := seen.dp 5 7
    refine does_plain rfl fun K Q' hK => ?_
    obtain ⟨so, rfl, h1⟩ := h5
    go_simp
    exact hK _ _ (Grow.refl _) ⟨so, rfl, h1⟩
   ·intro w1 hg Ar seen
    obtain ⟨v5, e5, h5⟩ := seen.dp 5 7
    refine does_plain rfl fun K Q' hK => ?_
    obtain ⟨so, rfl, h1⟩ := h5
    go_simp; exact hK _ _ (Grow.refl _) rfl
   ·intro w1 hg Ar seen
    obtain ⟨v6, e6, h6⟩ := seen.dp 6 13
    refine does_plain rfl fun K Q' hK => ?_
    go_simp
    exact hK _ _ (Grow.refl _) h6
   ·intro w1 hg Ar seen
    have e7 := seen.de 7 14
    refine does_plain rfl fun K Q' hK => ?_
    go_simp; exact hK _ _ (Grow.refl _) rfl
 intro w1 hg
 refine upon_w' (js := [0, 1, 2, 3, 4, 5, 6, 7, 8, 9]) (by rfl) ?_
 refine upon_e (some 8) (upon_e (some 9) (upon_e (some 10) (upon_v (some 11) fun v3 h3 => upon_v (some 12) fun v4 h4 => upon_v (some 7) fun v5 h5 => upon_v (some 13) fun v6 h6 => upon_e (some 14) (upon_v (some 5) fun v8 h8 => upon_e (some 6) (upon_n ?_)))))
 go_simp
 obtain ⟨so, rfl, hrow⟩ := h8
 have HB1 := hid (HBW.out.trans (hg.mono LO))
 have LO1 : b ≤ w1.heap.size := Nat.le_trans LO hg.size
 have HRW := hid hrow
 have hpr := parse_rows hp
 obtain ⟨hrl, -⟩ := hpr
 obtain ⟨z0, z1, rfl⟩ := rows2 hrl
 have HE := hid (verV_ok hp)
 obtain ⟨gv, cv, rfl⟩ := HRW.out.ok.shape (by simp)
 obtain ⟨sa, la, hma, hsa, hca, -, -⟩ := HRW.out.an (k := 0) rfl
 obtain ⟨sb, lb, hmb, hsb, hcb, -, -⟩ := HRW.out.an (k := 1) rfl
 have HMA := hid hma; have HSA := hid hsa; have HCA := hid hca; have HMB := hid hmb; have HSB := hid hsb; have HCB := hid hcb
 clear hma hsa hca hmb hsb hcb hrl hp hrow hg h3 h4 h5 h6 HRW HB0 HV0 HBW LO
 go_upto_region 4 with (fail)
 refine wp_region_each 11 [.eq (.slice (some ⟨gv, 0, none⟩) 2 cv), .eq (.pointer (some ⟨gv, 0, none⟩)), .eq (.slice sa.a sa.n sa.c), .eq (.int .i64 (numV z0 0)), .eq (.slice (some ⟨gv, 0, none⟩) 2 cv), .eq (.pointer (some ⟨gv, 1, none⟩)), .eq (.slice sb.a sb.n sb.c), .eq (.int .i64 (numV z1 0)), .eq (.int .i64 (numV z0 0)), .eq (.int .i64 (numV z1 0)), .eq (.int .i64 0)] (by kernel_rfl) (by kernel_rfl) (by kernel_rfl) (by kernel_rfl) ?_ ?_
 ·all_goals
   refine each_5 ?_ ?_ ?_ ?_ ?_ (each_5 ?_ ?_ ?_ ?_ ?_ (each_c ?_ (each_n)))
   ·intro w1 hg Ar seen
    have s5 := seen.sl 5 (.slice (some ⟨gv, 0, none⟩) 2 cv)
    refine does_plain rfl fun K Q' hK => ?_
    go_simp; exact hK _ _ (Grow.refl _) rfl
   ·intro w1 hg Ar seen
    have e0 := seen.de 0 18
    refine does_plain rfl fun K Q' hK => ?_
    go_simp; exact hK _ _ (Grow.refl _) rfl
   ·intro w1 hg Ar seen
    have e1 := seen.de 1 19
    refine does_plain rfl fun K Q' hK => ?_
    have hc := cell_later hg HCA.out
    go_simp; exact hK _ _ (Grow.refl _) rfl
   ·intro w1 hg Ar seen
    have e2 := seen.de 2 20
    refine does_plain rfl fun K Q' hK => ?_
    go_simp
    refine (rnumber_any sa la 0 _ (HSA.out.below hg)).mono ?_
    rintro e u ⟨rfl, rfl⟩
    exact hK _ _ (Grow.refl _) (by rw [HMA.out]; rfl)
   ·intro w1 hg Ar seen
    have s5 := seen.sl 5 (.slice (some ⟨gv, 0, none⟩) 2 cv)
    refine does_plain rfl fun K Q' hK => ?_
    go_simp; exact hK _ _ (Grow.refl _) rfl
   ·intro w1 hg Ar seen
    have e4 := seen.de 4 22
    refine does_plain rfl fun K Q' hK => ?_
    go_simp; exact hK _ _ (Grow.refl _) rfl
   ·intro w1 hg Ar seen
    have e5 := seen.de 5 23
    refine does_plain rfl fun K Q' hK => ?_
    have hc := cell_later hg HCB.out
    go_simp; exact hK _ _ (Grow.refl _) rfl
   ·intro w1 hg Ar seen
    have e6 := seen.de 6 24
    refine does_plain rfl fun K Q' hK => ?_
    go_simp
    refine (rnumber_any sb lb 0 _ (HSB.out.below hg)).mono ?_
    rintro e u ⟨rfl, rfl⟩
    exact hK _ _ (Grow.refl _) (by rw [HMB.out]; rfl)
   ·intro w1 hg Ar seen
    have e3 := seen.de 3 21
    refine does_plain rfl fun K Q' hK => ?_
    go_simp; exact hK _ _ (Grow.refl _) rfl
   ·intro w1 hg Ar seen
    have e7 := seen.de 7 25
    refine does_plain rfl fun K Q' hK => ?_
    go_simp; exact hK _ _ (Grow.refl _) rfl
   ·intro w1 hg Ar seen
    refine does_plain rfl fun K Q' hK => ?_
    go_simp; exact hK _ _ (Grow.refl _) rfl
 intro w1 hg
 refine upon_w' (js := [0, 1, 2, 3, 4, 5, 6, 7, 8, 9, 10]) (by rfl) ?_
 refine upon_e (some 18) (upon_e (some 19) (upon_e (some 20) (upon_e (some 21) (upon_e (some 22) (upon_e (some 23) (upon_e (some 24) (upon_e (some 25) (upon_e (some 2) (upon_e (some 3) (upon_e (some 4) (upon_n ?_)))))))))))
 go_simp
 have HB2 := hid (HB1.out.trans (hg.mono LO1))
 clear hg
 go_simp
 go_wp2_with fail
 go_ret3
 exact ⟨by rw [HE.out]; rfl, HB2.out⟩
end
section
open Go.RowKit
set_option linter.unusedVariables false
set_option linter.unusedSimpArgs false
set_option maxRecDepth 100000
set_option maxHeartbeats 16000000
theorem parse_len {l : List Fld} {i : Itm} {r : List (List Itm)} (h : parseV l i = .ok r) : ∀ x ∈ r, x.length ≤ i.kids.length := by
 have step : ∀ (kids : List Itm) (st st' : Nat × List (List Itm)) (c : Nat), (∀ x ∈ st.2, x.length ≤ c) → kids.foldlM (parseStep l) st = .ok st' → ∀ x ∈ st'.2, x.length ≤ c + kids.length := by
  intro kids
  induction kids with
  | nil => intro st st' c hc h; cases h; simpa using hc
  | cons y t ih =>
   intro st st' c hc h
   rw [List.foldlM_cons] at h
   cases hs : parseStep l st y with
   | error e => rw [hs] at h; cases h
   | ok s1 =>
    rw [hs] at h
    have h1 : ∀ x ∈ s1.2, x.length ≤ c + 1 := by
     unfold parseStep at hs
     split at hs
     ·cases hs
     ·split at hs
      ·cases hs
      ·split at hs
       ·cases hs
       ·rename_i k _ _ _
        obtain rfl : _ = s1 := by injection hs
        intro x hx
        rcases List.mem_or_eq_of_mem_set hx with h' | h'
        ·have := hc x h'; omega
        ·rw [h', List.length_append]
         have hle : (st.2.getD k []).length ≤ c := by
          rw [List.getD_eq_getElem?_getD]
          cases hg : st.2[k]? with
          | none => simp
          | some z => exact hc z (List.mem_of_getElem? hg)
         simp only [List.length_cons, List.length_nil]; omega
    have := ih s1 st' (c + 1) h1 h
    intro x hx
    have := this x hx
    simp only [List.length_cons]; omega
 unfold parseV at h
 split at h
 ·cases h
 ·split at h
  ·cases h
  ·rename_i st hk
   split at h
   ·cases h
   ·simp only [Except.ok.injEq] at h
    subst h
    have := step _ _ _ 0 (fun x hx => by rw [List.eq_of_mem_replicate hx]; simp) hk
    simpa using this
theorem isEmpty_pos {α : Type} {l : List α} {n : Nat} (h : n = l.length) : (!l.isEmpty) = decide (0 < n) := by
 subst h; cases l <;> simp
theorem vBuildM (a b : Int) (w : World) : (Instr.build 32 #[(2, .int .i64 a), (3, .int .i64 b)]).run Tryd.prog w = .ok (.agg (RqV.arr { max := a, opt := b })) w := by kernel_rfl
theorem qBuildR (op : Int) (p : ItV) (w : World) : (Instr.build 41 #[(0, .int .i64 op), (3, .agg p.arr)]).run Tryd.prog w = .ok (.agg (RqIV.arr { op := op, pay := p })) w := by kernel_rfl
theorem readR_any (v : ItV) (w : World) (hv : v.ok w) (hkid : v.it.kids.length ≤ 1000000) : Calls Tryd.prog 9 #[.agg v.arr] w (ReqRead (readV v.it) w) := by
 obtain ⟨i, hi, hz0, hz1, hz2⟩ := info_parts fInfo
 obtain ⟨iq, hiq, hy0, hy1, hy2⟩ := info_parts qInfo
 have HV := hid hv; have HKID := hid hkid
 have hvl := hv.lt
 clear hv hkid
 generalize hbe : w.heap.size = b
 rw [hbe] at hvl
 have HVL : Hid (∀ k ∈ v.foot, k < b) := hvl
 have HBE := hid hbe; clear hbe hvl
 have HTG : Hid (v.it.tag = v.tag) := by show _ = _; rw [ItV.it_eq]
 go_enter Tryd.func9, Tryd.ntmps9
 go_upto_region 1 with (refine wpList_alloc_obj rfl 32 rfl _ vZero ?_)
 go_simp
 have B00 := hid (Bx2.start (T := 27) (T' := 32) (cs := v.arr) (zs := rvZ.arr) (w := w) HBE.out)
 rw [HBE.out]
 have HV00 := hid (HV.out.below (((Below.refl _ w).alloc (Nat.le_refl _) (.cells v.arr 27)).alloc (by simp) (.cells rvZ.arr 32)))
 generalize (w.alloc (.cells v.arr 27)).alloc (.cells rvZ.arr 32) = W0 at *
 clear HV
 go_upto_region 2 with (first | (refine wpList_build_obj rfl 32 _ rfl #[] rfl _ (vBuild0 _) ?_) | (refine wpList_alloc_obj rfl 32 rfl _ vZero ?_) | (refine wpList_store_obj rfl 32 _ _ rfl W0.heap.size rfl rvZ.arr rfl _ _ (block_new W0 _) rfl vSize (varr_one _) ?_; intro W hb hc hs; have HNB := hid hb; have HNC := hid hc; clear hb hc hs))
 have hbel : Below W0.heap.size W0 W := ((Below.refl _ W0).alloc (Nat.le_refl _) _).trans (HNC.out.below (fun k hk => by rw [List.mem_singleton.1 hk]; exact Nat.le_refl _) (by simp))
 have B := hid (B00.out.below hbel); have HV0 := hid (HV00.out.below hbel)
 obtain ⟨nb, hnb⟩ : ∃ n, n = W0.heap.size := ⟨_, rfl⟩
 have HNL : Hid (b + 2 ≤ nb) := by show _ ≤ _; rw [hnb]; exact B00.out.size
 rw [← hnb] at HNB ⊢
 clear hbel HNC B00 HV00 hnb
 have c0 := cell_of_block (j := 0) B.out.box (ar0 v)
 by_cases ht : v.tag = 4325496
 rotate_left
 ·have hne : (v.tag == 4325496) = false := by simpa using ht
  have HE := hid (readV_tag (i := v.it) (by rw [HTG.out]; exact ht))
  go_wp2_with (first | (refine wpList_load_row rfl 32 _ rfl nb rfl _ _ _ _ HNB.out Tryd.underlying32 rfl vSize ?_) | (refine wpList_store_obj rfl 32 _ _ rfl (b + 1) rfl rvZ.arr rfl _ _ B.out.res rfl vSize (varr_one _) ?_; intro w10 hb10 hc10 hs10; have HB10 := hid hb10; have HC10 := hid hc10; clear hb10 hc10 hs10))
  refine bodyPost_ret (results_cell_tmp rfl _ _ (b + 1) _ _ _ _ rfl HB10.out Tryd.underlying32 rfl vSize _ rfl) rfl ?_
  rw [HE.out]
  exact ⟨rfl, by rw [HBE.out]; exact B.out.done HC10.out⟩
 have HT : Hid (v.it.tag = 4325496) := HTG.out.trans ht
 go_upto_region 4 with (fail)
 clear c0 ht
 rcases hp1 : parseV msgF v.it with c | m
 ·have HE := hid (readV_m HT.out hp1)
  refine wp_region_each 10 [.eq (.agg v.arr), .eq (.agg (needF 4325495 1).arr), .eq (.agg (manyF 4325391 1).arr), stF msgF, .eq (.tuple #[.slice none 0 0, .int .i64 c]), .eq (.tuple #[.slice none 0 0, .int .i64 c]), .eq (.slice none 0 0), .eq (.int .i64 c), .eq (.slice none 0 0), .eq (.int .i64 c)] (by kernel_rfl) (by kernel_rfl) (by kernel_rfl) (by kernel_rfl) ?_ ?_
  ·all_goals
    refine each_5 ?_ ?_ ?_ ?_ ?_ (each_5 ?_ ?_ ?_ ?_ ?_ (each_n))
    ·intro w1 hg Ar seen
     have s1 := seen.sl 1 (.pointer (some ⟨b, 0, none⟩))
     refine does_plain rfl fun K Q' hK => ?_
     refine wp_load_row 27 _ rfl b (by simp [Act.eval, s1]) _ _ _ _ ((hg.block _ (block_lt B.out.box)).trans B.out.box) Tryd.underlying27 rfl iSize ?_
     exact hK _ _ (Grow.refl _) rfl
    ·intro w1 hg Ar seen
     refine does_plain rfl fun K Q' hK => ?_
     go_simp
     refine (rneed_any _ _ _).mono ?_
     rintro e u ⟨rfl, hb⟩
     exact hK _ _ hb rfl
    ·intro w1 hg Ar seen
     refine does_plain rfl fun K Q' hK => ?_
     go_simp
     refine (rmany_any _ _ _).mono ?_
     rintro e u ⟨rfl, hb⟩
     exact hK _ _ hb rfl
    ·intro w1 hg Ar seen
     have e1 := seen.de 1 20
     have e2 := seen.de 2 21
     refine does_plain rfl fun K Q' hK => ?_
     refine wp_build_flds _ 52 2 _ rfl msgF rfl (by decide) (by decide) (by simp [Act.eval, e1, e2]; rfl) (fldCells msgF).toArray (by simp) i Tryd.underlying54 hi hz0 hz1 (by kernel_rfl) ?_
     intro s hs
     exact hK _ _ ((Below.refl _ _).alloc (Nat.le_refl _) _) ⟨s, rfl, hs⟩
    ·intro w1 hg Ar seen
     have e0 := seen.de 0 19
     obtain ⟨v3, e3, h3⟩ := seen.dp 3 22
     refine does_plain rfl fun K Q' hK => ?_
     obtain ⟨sf, rfl, hsf⟩ := h3
     go_simp
     refine (refParse_any v sf msgF _ (HV0.out.below hg) hsf (· < b) HVL.out).mono ?_
     intro e u hres
     obtain ⟨rfl, hb⟩ := parsedR_err hres hp1
     exact hK _ _ hb rfl
    ·intro w1 hg Ar seen
     have e4 := seen.de 4 23
     refine does_plain rfl fun K Q' hK => ?_
     go_simp; exact hK _ _ (Grow.refl _) rfl
    ·intro w1 hg Ar seen
     have e5 := seen.de 5 18
     refine does_plain rfl fun K Q' hK => ?_
     go_simp; exact hK _ _ (Grow.refl _) rfl
    ·intro w1 hg Ar seen
     have e5 := seen.de 5 18
     refine does_plain rfl fun K Q' hK => ?_
     go_simp; exact hK _ _ (Grow.refl _) rfl
    ·intro w1 hg Ar seen
     have e6 := seen.de 6 24
     refine does_plain rfl fun K Q' hK => ?_
     go_simp; exact hK _ _ (Grow.refl _) rfl
    ·intro w1 hg Ar seen
     have e7 := seen.de 7 25
     refine does_plain rfl fun K Q' hK => ?_
     go_simp; exact hK _ _ (Grow.refl _) rfl
  intro w1 hg
  refine upon_w' (js := [0, 1, 2, 3, 4, 5, 6, 7, 8, 9]) (by rfl) ?_
  refine upon_e (some 19) (upon_e (some 20) (upon_e (some 21) (upon_v (some 22) fun v3 h3 => upon_e (some 23) (upon_e (some 18) (upon_e (some 24) (upon_e (some 25) (upon_e (some 5) (upon_e (some 6) (upon_n ?_)))))))))
  go_simp
  have B1 := hid (B.out.below hg)
  have HNB1 := hid ((hg.block _ (block_lt HNB.out)).trans HNB.out)
  have hc := parse_code hp1
  clear hg hp1 B HNB h3
  go_wp2_with (first | (refine wpList_load_row rfl 32 _ rfl nb rfl _ _ _ _ HNB1.out Tryd.underlying32 rfl vSize ?_) | (refine wpList_store_obj rfl 32 _ _ rfl (b + 1) rfl rvZ.arr rfl _ _ B1.out.res rfl vSize (varr_one _) ?_; intro w10 hb10 hc10 hs10; have HB10 := hid hb10; have HC10 := hid hc10; clear hb10 hc10 hs10))
  refine bodyPost_ret (results_cell_tmp rfl _ _ (b + 1) _ _ _ _ rfl HB10.out Tryd.underlying32 rfl vSize _ rfl) rfl ?_
  rw [HE.out]
  exact ⟨rfl, by rw [HBE.out]; exact B1.out.done HC10.out⟩
 refine wp_region_each 10 [.eq (.agg v.arr), .eq (.agg (needF 4325495 1).arr), .eq (.agg (manyF 4325391 1).arr), stF msgF, stRowsTR (· < b) 25 27 (b + 2) m, stRowsTR (· < b) 25 27 (b + 2) m, stRowsR (· < b) 25 27 (b + 2) m, .eq (.int .i64 0), stRowsR (· < b) 25 27 (b + 2) m, .eq (.int .i64 0)] (by kernel_rfl) (by kernel_rfl) (by kernel_rfl) (by kernel_rfl) ?_ ?_
 ·all_goals
   refine each_5 ?_ ?_ ?_ ?_ ?_ (each_5 ?_ ?_ ?_ ?_ ?_ (each_n))
   ·intro w1 hg Ar seen
    have s1 := seen.sl 1 (.pointer (some ⟨b, 0, none⟩))
    refine does_plain rfl fun K Q' hK => ?_
    refine wp_load_row 27 _ rfl b (by simp [Act.eval, s1]) _ _ _ _ ((hg.block _ (block_lt B.out.box)).trans B.out.box) Tryd.underlying27 rfl iSize ?_
    exact hK _ _ (Grow.refl _) rfl
   ·intro w1 hg Ar seen
    refine does_plain rfl fun K Q' hK => ?_
    go_simp
    refine (rneed_any _ _ _).mono ?_
    rintro e u ⟨rfl, hb⟩
    exact hK _ _ hb rfl
   ·intro w1 hg Ar seen
    refine does_plain rfl fun K Q' hK => ?_
    go_simp
    refine (rmany_any _ _ _).mono ?_
    rintro e u ⟨rfl, hb⟩
    exact hK _ _ hb rfl
   ·intro w1 hg Ar seen
    have e1 := seen.de 1 20
    have e2 := seen.de 2 21
    refine does_plain rfl fun K Q' hK => ?_
    refine wp_build_flds _ 52 2 _ rfl msgF rfl (by decide) (by decide) (by simp [Act.eval, e1, e2]; rfl) (fldCells msgF).toArray (by simp) i Tryd.underlying54 hi hz0 hz1 (by kernel_rfl) ?_
    intro s hs
    exact hK _ _ ((Below.refl _ _).alloc (Nat.le_refl _) _) ⟨s, rfl, hs⟩
   ·intro w1 hg Ar seen
    have e0 := seen.de 0 19
    obtain ⟨v3, e3, h3⟩ := seen.dp 3 22
    refine does_plain rfl fun K Q' hK => ?_
    obtain ⟨sf, rfl, hsf⟩ := h3
    go_simp
    refine (refParse_any v sf msgF _ (HV0.out.below hg) hsf (· < b) HVL.out).mono ?_
    intro e u hres
    obtain ⟨so, rfl, h1, hb⟩ := parsedR_ok hres hp1 (Nat.le_trans B.out.size hg.size)
    exact hK _ _ hb ⟨so, rfl, h1⟩
   ·intro w1 hg Ar seen
    obtain ⟨v4, e4, h4⟩ := seen.dp 4 23
    refine does_plain rfl fun K Q' hK => ?_
    go_simp
    exact hK _ _ (Grow.refl _) h4
   ·intro w1 hg Ar seen
    obtain ⟨v5, e5, h5⟩ := seen.dp 5 18
    refine does_plain rfl fun K Q' hK => ?_
    obtain ⟨so, rfl, h1⟩ := h5
    go_simp
    exact hK _ _ (Grow.refl _) ⟨so, rfl, h1⟩
   ·intro w1 hg Ar seen
    obtain ⟨v5, e5, h5⟩ := seen.dp 5 18
    refine does_plain rfl fun K Q' hK => ?_
    obtain ⟨so, rfl, h1⟩ := h5
    go_simp; exact hK _ _ (Grow.refl _) rfl
   ·intro w1 hg Ar seen
    obtain ⟨v6, e6, h6⟩ := seen.dp 6 24
    refine does_plain rfl fun K Q' hK => ?_
    go_simp
    exact hK _ _ (Grow.refl _) h6
   ·intro w1 hg Ar seen
    have e7 := seen.de 7 25
    refine does_plain rfl fun K Q' hK => ?_
    go_simp; exact hK _ _ (Grow.refl _) rfl
 intro w1 hg
 refine upon_w' (js := [0, 1, 2, 3, 4, 5, 6, 7, 8, 9]) (by rfl) ?_
 refine upon_e (some 19) (upon_e (some 20) (upon_e (some 21) (upon_v (some 22) fun v3 h3 => upon_v (some 23) fun v4 h4 => upon_v (some 18) fun v5 h5 => upon_v (some 24) fun v6 h6 => upon_e (some 25) (upon_v (some 5) fun v8 h8 => upon_e (some 6) (upon_n ?_)))))
 go_simp
 obtain ⟨so, rfl, hrow⟩ := h8
 clear h3 h4 h5 h6
 have B1 := hid (B.out.below hg); have HNB1 := hid ((hg.block _ (block_lt HNB.out)).trans HNB.out)
 have HRW := hid hrow
 clear hrow hg B HNB
 have B := B1; have HNB := HNB1
 clear B1 HNB1
 have hpr := parse_rows hp1
 obtain ⟨hrl, hneed⟩ := hpr
 obtain ⟨m0, m1, rfl⟩ := rows2 hrl
 obtain ⟨x0, t0, hx0⟩ := hneed 0 _ rfl rfl
 simp only [List.getElem?_cons_zero, Option.some.injEq] at hx0
 subst hx0
 obtain ⟨gm, cm, rfl⟩ := HRW.out.ok.shape (by simp)
 have HM := HRW
 have HK6 : Hid (m1.length ≤ 1000000) := Nat.le_trans (parse_len hp1 m1 (by simp)) HKID.out
 clear hrl hneed HRW
 obtain ⟨s0, l0, g0, o0, vh, -, -, hc0, ha0, hn0, rfl, hr0, ho0, hf0⟩ := HM.out.hd (k := 0) rfl
 rw [ha0] at hc0
 have HC0 := hid hc0; have HR0 := hid hr0; have HO0 := hid ho0; have HN0 := hid hn0; have HF0 := hid hf0
 clear hc0 ha0 hr0 ho0 hn0 hf0
 go_upto_region 7 with (fail)
 rcases hp2 : parseV headF vh.it with c | h
 ·have HE := hid (readV_h HT.out hp1 hp2)
  refine wp_region_each 17 [.eq (.slice (some ⟨gm, 0, none⟩) 2 cm), .eq (.pointer (some ⟨gm, 0, none⟩)), .eq (.slice (some ⟨g0, o0, none⟩) s0.n s0.c), .eq (.pointer (some ⟨g0, o0, none⟩)), .eq (.agg vh.arr), .eq (.agg (needF 4325481 1).arr), .eq (.agg (maybeF 4325456 2).arr), .eq (.agg (maybeF 4325390 5).arr), .eq (.agg (maybeF 4325392 6).arr), .eq (.agg (needF 4325389 2).arr), stF headF, .eq (.tuple #[.slice none 0 0, .int .i64 c]), .eq (.tuple #[.slice none 0 0, .int .i64 c]), .eq (.slice none 0 0), .eq (.int .i64 c), .eq (.slice none 0 0), .eq (.int .i64 c)] (by kernel_rfl) (by kernel_rfl) (by kernel_rfl) (by kernel_rfl) ?_ ?_
  ·all_goals
    refine each_5 ?_ ?_ ?_ ?_ ?_ (each_5 ?_ ?_ ?_ ?_ ?_ (each_5 ?_ ?_ ?_ ?_ ?_ (each_c ?_ (each_c ?_ (each_n)))))
    ·intro w1 hg Ar seen
     have s5 := seen.sl 5 (.slice (some ⟨gm, 0, none⟩) 2 cm)
     refine does_plain rfl fun K Q' hK => ?_
     go_simp; exact hK _ _ (Grow.refl _) rfl
    ·intro w1 hg Ar seen
     have e0 := seen.de 0 31
     refine does_plain rfl fun K Q' hK => ?_
     go_simp; exact hK _ _ (Grow.refl _) rfl
    ·intro w1 hg Ar seen
     have e1 := seen.de 1 32
     refine does_plain rfl fun K Q' hK => ?_
     have hc := cell_later hg HC0.out
     go_simp; exact hK _ _ (Grow.refl _) rfl
    ·intro w1 hg Ar seen
     have e2 := seen.de 2 33
     refine does_plain rfl fun K Q' hK => ?_
     have hn := HN0.out
     go_simp; exact hK _ _ (Grow.refl _) rfl
    ·intro w1 hg Ar seen
     have e3 := seen.de 3 34
     refine does_plain rfl fun K Q' hK => ?_
     refine wp_load_mid 27 _ rfl g0 o0 (by simp [Act.eval, e3]) vh.arr.toList _ (range_later hg HR0.out) Tryd.underlying27 rfl iSize ?_
     exact hK _ _ (Grow.refl _) rfl
    ·intro w1 hg Ar seen
     refine does_plain rfl fun K Q' hK => ?_
     go_simp
     refine (rneed_any _ _ _).mono ?_
     rintro e u ⟨rfl, hb⟩
     exact hK _ _ hb rfl
    ·intro w1 hg Ar seen
     refine does_plain rfl fun K Q' hK => ?_
     go_simp
     refine (rmaybe_any _ _ _).mono ?_
     rintro e u ⟨rfl, hb⟩
     exact hK _ _ hb rfl
    ·intro w1 hg Ar seen
     refine does_plain rfl fun K Q' hK => ?_
     go_simp
     refine (rmaybe_any _ _ _).mono ?_
     rintro e u ⟨rfl, hb⟩
     exact hK _ _ hb rfl
    ·intro w1 hg Ar seen
     refine does_plain rfl fun K Q' hK => ?_
     go_simp
     refine (rmaybe_any _ _ _).mono ?_
     rintro e u ⟨rfl, hb⟩
     exact hK _ _ hb rfl
    ·intro w1 hg Ar seen
     refine does_plain rfl fun K Q' hK => ?_
     go_simp
     refine (rneed_any _ _ _).mono ?_
     rintro e u ⟨rfl, hb⟩
     exact hK _ _ hb rfl
    ·intro w1 hg Ar seen
     have e5 := seen.de 5 36
     have e6 := seen.de 6 37
     have e7 := seen.de 7 38
     have e8 := seen.de 8 39
     have e9 := seen.de 9 40
     refine does_plain rfl fun K Q' hK => ?_
     refine wp_build_flds _ 52 5 _ rfl headF rfl (by decide) (by decide) (by simp [Act.eval, e5, e6, e7, e8, e9]; rfl) (fldCells headF).toArray (by simp) i Tryd.underlying54 hi hz0 hz1 (by kernel_rfl) ?_
     intro s hs
     exact hK _ _ ((Below.refl _ _).alloc (Nat.le_refl _) _) ⟨s, rfl, hs⟩
    ·intro w1 hg Ar seen
     have e4 := seen.de 4 35
     obtain ⟨v10, e10, h10⟩ := seen.dp 10 41
     refine does_plain rfl fun K Q' hK => ?_
     obtain ⟨sf, rfl, hsf⟩ := h10
     go_simp
     refine (refParse_any vh sf headF _ (HO0.out.below hg) hsf (· < b) HF0.out).mono ?_
     intro e u hres
     obtain ⟨rfl, hb⟩ := parsedR_err hres hp2
     exact hK _ _ hb rfl
    ·intro w1 hg Ar seen
     have e11 := seen.de 11 42
     refine does_plain rfl fun K Q' hK => ?_
     go_simp; exact hK _ _ (Grow.refl _) rfl
    ·intro w1 hg Ar seen
     have e12 := seen.de 12 30
     refine does_plain rfl fun K Q' hK => ?_
     go_simp; exact hK _ _ (Grow.refl _) rfl
    ·intro w1 hg Ar seen
     have e12 := seen.de 12 30
     refine does_plain rfl fun K Q' hK => ?_
     go_simp; exact hK _ _ (Grow.refl _) rfl
    ·intro w1 hg Ar seen
     have e13 := seen.de 13 43
     refine does_plain rfl fun K Q' hK => ?_
     go_simp; exact hK _ _ (Grow.refl _) rfl
    ·intro w1 hg Ar seen
     have e14 := seen.de 14 44
     refine does_plain rfl fun K Q' hK => ?_
     go_simp; exact hK _ _ (Grow.refl _) rfl
  intro w1 hg
  refine upon_w' (js := [0, 1, 2, 3, 4, 5, 6, 7, 8, 9, 10, 11, 12, 13, 14, 15, 16]) (by rfl) ?_
  refine upon_e (some 31) (upon_e (some 32) (upon_e (some 33) (upon_e (some 34) (upon_e (some 35) (upon_e (some 36) (upon_e (some 37) (upon_e (some 38) (upon_e (some 39) (upon_e (some 40) (upon_v (some 41) fun v10 h10 => upon_e (some 42) (upon_e (some 30) (upon_e (some 43) (upon_e (some 44) (upon_e (some 7) (upon_e (some 6) (upon_n ?_))))))))))))))))
  go_simp
  have B1 := hid (B.out.below hg)
  have HNB1 := hid ((hg.block _ (block_lt HNB.out)).trans HNB.out)
  have hc := parse_code hp2
  clear hg hp2 B HNB h10
  go_wp2_with (first | (refine wpList_load_row rfl 32 _ rfl nb rfl _ _ _ _ HNB1.out Tryd.underlying32 rfl vSize ?_) | (refine wpList_store_obj rfl 32 _ _ rfl (b + 1) rfl rvZ.arr rfl _ _ B1.out.res rfl vSize (varr_one _) ?_; intro w10 hb10 hc10 hs10; have HB10 := hid hb10; have HC10 := hid hc10; clear hb10 hc10 hs10))
  refine bodyPost_ret (results_cell_tmp rfl _ _ (b + 1) _ _ _ _ rfl HB10.out Tryd.underlying32 rfl vSize _ rfl) rfl ?_
  rw [HE.out]
  exact ⟨rfl, by rw [HBE.out]; exact B1.out.done HC10.out⟩
 refine wp_region_each 17 [.eq (.slice (some ⟨gm, 0, none⟩) 2 cm), .eq (.pointer (some ⟨gm, 0, none⟩)), .eq (.slice (some ⟨g0, o0, none⟩) s0.n s0.c), .eq (.pointer (some ⟨g0, o0, none⟩)), .eq (.agg vh.arr), .eq (.agg (needF 4325481 1).arr), .eq (.agg (maybeF 4325456 2).arr), .eq (.agg (maybeF 4325390 5).arr), .eq (.agg (maybeF 4325392 6).arr), .eq (.agg (needF 4325389 2).arr), stF headF, stRowsTR (· < b) 25 27 (b + 2) h, stRowsTR (· < b) 25 27 (b + 2) h, stRowsR (· < b) 25 27 (b + 2) h, .eq (.int .i64 0), stRowsR (· < b) 25 27 (b + 2) h, .eq (.int .i64 0)] (by kernel_rfl) (by kernel_rfl) (by kernel_rfl) (by kernel_rfl) ?_ ?_
 ·all_goals
   refine each_5 ?_ ?_ ?_ ?_ ?_ (each_5 ?_ ?_ ?_ ?_ ?_ (each_5 ?_ ?_ ?_ ?_ ?_ (each_c ?_ (each_c ?_ (each_n)))))
   ·intro w1 hg Ar seen
    have s5 := seen.sl 5 (.slice (some ⟨gm, 0, none⟩) 2 cm)
    refine does_plain rfl fun K Q' hK => ?_
    go_simp; exact hK _ _ (Grow.refl _) rfl
   ·intro w1 hg Ar seen
    have e0 := seen.de 0 31
    refine does_plain rfl fun K Q' hK => ?_
    go_simp; exact hK _ _ (Grow.refl _) rfl
   ·intro w1 hg Ar seen
    have e1 := seen.de 1 32
    refine does_plain rfl fun K Q' hK => ?_
    have hc := cell_later hg HC0.out
    go_simp; exact hK _ _ (Grow.refl _) rfl
   ·intro w1 hg Ar seen
    have e2 := seen.de 2 33
    refine does_plain rfl fun K Q' hK => ?_
    have hn := HN0.out
    go_simp; exact hK _ _ (Grow.refl _) rfl
   ·intro w1 hg Ar seen
    have e3 := seen.de 3 34
    refine does_plain rfl fun K Q' hK => ?_
    refine wp_load_mid 27 _ rfl g0 o0 (by simp [Act.eval, e3]) vh.arr.toList _ (range_later hg HR0.out) Tryd.underlying27 rfl iSize ?_
    exact hK _ _ (Grow.refl _) rfl
   ·intro w1 hg Ar seen
    refine does_plain rfl fun K Q' hK => ?_
    go_simp
    refine (rneed_any _ _ _).mono ?_
    rintro e u ⟨rfl, hb⟩
    exact hK _ _ hb rfl
   ·intro w1 hg Ar seen
    refine does_plain rfl fun K Q' hK => ?_
    go_simp
    refine (rmaybe_any _ _ _).mono ?_
    rintro e u ⟨rfl, hb⟩
    exact hK _ _ hb rfl
   ·intro w1 hg Ar seen
    refine does_plain rfl fun K Q' hK => ?_
    go_simp
    refine (rmaybe_any _ _ _).mono ?_
    rintro e u ⟨rfl, hb⟩
    exact hK _ _ hb rfl
   ·intro w1 hg Ar seen
    refine does_plain rfl fun K Q' hK => ?_
    go_simp
    refine (rmaybe_any _ _ _).mono ?_
    rintro e u ⟨rfl, hb⟩
    exact hK _ _ hb rfl
   ·intro w1 hg Ar seen
    refine does_plain rfl fun K Q' hK => ?_
    go_simp
    refine (rneed_any _ _ _).mono ?_
    rintro e u ⟨rfl, hb⟩
    exact hK _ _ hb rfl
   ·intro w1 hg Ar seen
    have e5 := seen.de 5 36
    have e6 := seen.de 6 37
    have e7 := seen.de 7 38
    have e8 := seen.de 8 39
    have e9 := seen.de 9 40
    refine does_plain rfl fun K Q' hK => ?_
    refine wp_build_flds _ 52 5 _ rfl headF rfl (by decide) (by decide) (by simp [Act.eval, e5, e6, e7, e8, e9]; rfl) (fldCells headF).toArray (by simp) i Tryd.underlying54 hi hz0 hz1 (by kernel_rfl) ?_
    intro s hs
    exact hK _ _ ((Below.refl _ _).alloc (Nat.le_refl _) _) ⟨s, rfl, hs⟩
   ·intro w1 hg Ar seen
    have e4 := seen.de 4 35
    obtain ⟨v10, e10, h10⟩ := seen.dp 10 41
    refine does_plain rfl fun K Q' hK => ?_
    obtain ⟨sf, rfl, hsf⟩ := h10
    go_simp
    refine (refParse_any vh sf headF _ (HO0.out.below hg) hsf (· < b) HF0.out).mono ?_
    intro e u hres
    obtain ⟨so, rfl, h1, hb⟩ := parsedR_ok hres hp2 (Nat.le_trans B.out.size hg.size)
    exact hK _ _ hb ⟨so, rfl, h1⟩
   ·intro w1 hg Ar seen
    obtain ⟨v11, e11, h11⟩ := seen.dp 11 42
    refine does_plain rfl fun K Q' hK => ?_
    go_simp
    exact hK _ _ (Grow.refl _) h11
   ·intro w1 hg Ar seen
    obtain ⟨v12, e12, h12⟩ := seen.dp 12 30
    refine does_plain rfl fun K Q' hK => ?_
    obtain ⟨so, rfl, h1⟩ := h12
    go_simp
    exact hK _ _ (Grow.refl _) ⟨so, rfl, h1⟩
   ·intro w1 hg Ar seen
    obtain ⟨v12, e12, h12⟩ := seen.dp 12 30
    refine does_plain rfl fun K Q' hK => ?_
    obtain ⟨so, rfl, h1⟩ := h12
    go_simp; exact hK _ _ (Grow.refl _) rfl
   ·intro w1 hg Ar seen
    obtain ⟨v13, e13, h13⟩ := seen.dp 13 43
    refine does_plain rfl fun K Q' hK => ?_
    go_simp
    exact hK _ _ (Grow.refl _) h13
   ·intro w1 hg Ar seen
    have e14 := seen.de 14 44
    refine does_plain rfl fun K Q' hK => ?_
    go_simp; exact hK _ _ (Grow.refl _) rfl
 intro w1 hg
 refine upon_w' (js := [0, 1, 2, 3, 4, 5, 6, 7, 8, 9, 10, 11, 12, 13, 14, 15, 16]) (by rfl) ?_
 refine upon_e (some 31) (upon_e (some 32) (upon_e (some 33) (upon_e (some 34) (upon_e (some 35) (upon_e (some 36) (upon_e (some 37) (upon_e (some 38) (upon_e (some 39) (upon_e (some 40) (upon_v (some 41) fun v10 h10 => upon_v (some 42) fun v11 h11 => upon_v (some 30) fun v12 h12 => upon_v (some 43) fun v13 h13 => upon_e (some 44) (upon_v (some 7) fun v15 h15 => upon_e (some 6) (upon_n ?_))))))))))))
 go_simp
 obtain ⟨so, rfl, hrow⟩ := h15
 clear h10 h11 h12 h13
 have B1 := hid (B.out.below hg); have HNB1 := hid ((hg.block _ (block_lt HNB.out)).trans HNB.out)
 have HM' := hid (HM.out.below hg)
 have HRW := hid hrow
 clear hrow hg B HNB HM
 have B := B1; have HNB := HNB1
 clear B1 HNB1
 have HM := HM'
 clear HM'
 have hpr := parse_rows hp2
 obtain ⟨hrl, hneed⟩ := hpr
 obtain ⟨y0, y1, y2, y3, y4, rfl⟩ := rows5 hrl
 obtain ⟨x0, u0, hx0⟩ := hneed 0 _ rfl rfl
 simp only [List.getElem?_cons_zero, List.getElem?_cons_succ, Option.some.injEq] at hx0
 subst hx0
 obtain ⟨gh, ch, rfl⟩ := HRW.out.ok.shape (by simp)
 have HH := HRW
 clear hrl hneed HRW HC0 HR0 HO0 HN0 HF0
 obtain ⟨sc, lc, hmc, hsc, hcc, hnc, -⟩ := HH.out.an (k := 1) rfl
 obtain ⟨sd, ld, hmd, hsd, hcd, -, -⟩ := HH.out.an (k := 2) rfl
 obtain ⟨se, le, hme, hse, hce, -, -⟩ := HH.out.an (k := 4) rfl
 have HMC := hid hmc; have HSC := hid hsc; have HCC := hid hcc; have HNC := hid hnc; have HMD := hid hmd; have HSD := hid hsd; have HCD := hid hcd
 have HME := hid hme; have HSE := hid hse; have HCE := hid hce
 clear hmc hsc hcc hnc hmd hsd hcd hme hse hce
 obtain ⟨s0, l0, g0, o0, vv, -, -, hc0, ha0, hn0, rfl, hr0, ho0, hf0⟩ := HH.out.hd (k := 0) rfl
 rw [ha0] at hc0
 have HC0 := hid hc0; have HR0 := hid hr0; have HO0 := hid ho0; have HN0 := hid hn0; have HF0 := hid hf0
 clear hc0 ha0 hr0 ho0 hn0 hf0
 go_upto_region 10 with (fail)
 obtain ⟨n2, hn2⟩ : ∃ n, numV y1 0 = n := ⟨_, rfl⟩
 have En2 : Hid (numV (lc.map ItV.it) 0 = n2) := by show _ = _; rw [HMC.out]; exact hn2
 have HN2 := hid hn2
 clear hn2
 obtain ⟨n3, hn3⟩ : ∃ n, numV y2 2 = n := ⟨_, rfl⟩
 have En3 : Hid (numV (ld.map ItV.it) 2 = n3) := by show _ = _; rw [HMD.out]; exact hn3
 have HN3 := hid hn3
 clear hn3
 obtain ⟨n4, hn4⟩ : ∃ n, numV y4 0 = n := ⟨_, rfl⟩
 have En4 : Hid (numV (le.map ItV.it) 0 = n4) := by show _ = _; rw [HME.out]; exact hn4
 have HN4 := hid hn4
 clear hn4
 obtain ⟨W2, hw2⟩ : ∃ W, W = w1 := ⟨_, rfl⟩
 subst hw2
 obtain ⟨z, hzw⟩ : ∃ z, z = W2.heap.size := ⟨_, rfl⟩
 have HZW := hid hzw
 have HBZ : Hid (b + 2 ≤ z) := by show _ ≤ _; rw [hzw]; exact B.out.size
 clear hzw
 refine wp_region_each 10 [.eq (.slice (some ⟨gh, 0, none⟩) 5 ch), .eq (.pointer (some ⟨gh, 1, none⟩)), .eq (.slice sc.a sc.n sc.c), .eq (.int .i64 n2), .eq (.slice (some ⟨gh, 0, none⟩) 5 ch), .eq (.pointer (some ⟨gh, 2, none⟩)), .eq (.slice sd.a sd.n sd.c), .eq (.int .i64 n3), .eq (.agg (RqV.arr { max := n2, opt := n3 })), stNewQ 32 rvZ.arr z] (by kernel_rfl) (by kernel_rfl) (by kernel_rfl) (by kernel_rfl) ?_ ?_
 ·all_goals
   refine each_5 ?_ ?_ ?_ ?_ ?_ (each_5 ?_ ?_ ?_ ?_ ?_ (each_n))
   ·intro w1 hg Ar seen
    have s7 := seen.sl 7 (.slice (some ⟨gh, 0, none⟩) 5 ch)
    refine does_plain rfl fun K Q' hK => ?_
    go_simp; exact hK _ _ (Grow.refl _) rfl
   ·intro w1 hg Ar seen
    have e0 := seen.de 0 49
    refine does_plain rfl fun K Q' hK => ?_
    go_simp; exact hK _ _ (Grow.refl _) rfl
   ·intro w1 hg Ar seen
    have e1 := seen.de 1 50
    refine does_plain rfl fun K Q' hK => ?_
    have hc := cell_later hg HCC.out
    go_simp; exact hK _ _ (Grow.refl _) rfl
   ·intro w1 hg Ar seen
    have e2 := seen.de 2 51
    refine does_plain rfl fun K Q' hK => ?_
    go_simp
    refine (rnumber_any sc lc 0 _ (HSC.out.below hg)).mono ?_
    rintro e u ⟨rfl, rfl⟩
    exact hK _ _ (Grow.refl _) (by rw [En2.out]; rfl)
   ·intro w1 hg Ar seen
    have s7 := seen.sl 7 (.slice (some ⟨gh, 0, none⟩) 5 ch)
    refine does_plain rfl fun K Q' hK => ?_
    go_simp; exact hK _ _ (Grow.refl _) rfl
   ·intro w1 hg Ar seen
    have e4 := seen.de 4 53
    refine does_plain rfl fun K Q' hK => ?_
    go_simp; exact hK _ _ (Grow.refl _) rfl
   ·intro w1 hg Ar seen
    have e5 := seen.de 5 54
    refine does_plain rfl fun K Q' hK => ?_
    have hc := cell_later hg HCD.out
    go_simp; exact hK _ _ (Grow.refl _) rfl
   ·intro w1 hg Ar seen
    have e6 := seen.de 6 55
    refine does_plain rfl fun K Q' hK => ?_
    go_simp
    refine (rnumber_any sd ld 2 _ (HSD.out.below hg)).mono ?_
    rintro e u ⟨rfl, rfl⟩
    exact hK _ _ (Grow.refl _) (by rw [En3.out]; rfl)
   ·intro w1 hg Ar seen
    have e3 := seen.de 3 52
    have e7 := seen.de 7 56
    refine does_plain rfl fun K Q' hK => ?_
    refine wp_build_obj 32 _ rfl #[(2, .int .i64 n2), (3, .int .i64 n3)] (by simp [Act.eval, e3, e7]) _ (vBuildM _ _ _) ?_
    exact hK _ _ (Grow.refl _) rfl
   ·intro w1 hg Ar seen
    refine does_plain rfl fun K Q' hK => ?_
    refine wp_alloc_obj 32 rfl rvZ.arr vZero ?_
    exact hK _ _ ((Below.refl _ _).alloc (Nat.le_refl _) _) ⟨_, rfl, block_new _ _, Nat.le_trans (Nat.le_of_eq HZW.out) hg.size⟩
 intro w1 hg
 refine upon_w' (js := [0, 1, 2, 3, 4, 5, 6, 7, 8, 9]) (by rfl) ?_
 refine upon_e (some 49) (upon_e (some 50) (upon_e (some 51) (upon_e (some 52) (upon_e (some 53) (upon_e (some 54) (upon_e (some 55) (upon_e (some 56) (upon_e (some 57) (upon_v (some 8) fun v9 h9 => upon_n ?_)))))))))
 obtain ⟨p, rfl, hp, hzp⟩ := h9
 have HP := hid hp; have HZP := hid hzp
 have hg' := hg
 unfold Grow at hg'
 rw [← HZW.out] at hg'
 have HGG := hid hg'
 have HSZ1 : Hid (z ≤ w1.heap.size) := by show _ ≤ _; rw [HZW.out]; exact hg.size
 clear hp hzp hg' hg
 go_simp
 go_upto_region 11 with (refine wpList_store_obj rfl 32 _ _ rfl p rfl (RqV.arr { max := n2, opt := n3 }) rfl _ _ HP.out rfl vSize (varr_one _) ?_; intro w4 hb4 hc4 hs4; have HB4 := hid hb4; have HC4 := hid hc4; clear hb4 hc4 hs4)
 have hbel := HGG.out.trans (HC4.out.below (B := z) (fun k hk => by rw [List.mem_singleton.1 hk]; exact HZP.out) HSZ1.out)
 have HBW4 := hid hbel
 have hgr : Below W2.heap.size W2 w4 := by rw [← HZW.out]; exact hbel
 have HC04 := hid (cell_later hgr HC0.out); have HR04 := hid (range_later hgr HR0.out); have HO04 := hid (HO0.out.below hgr)
 clear hbel hgr HC4 HP HGG HSZ1 HC0 HR0 HO0 HSC HSD HCD
 have hq := HC04.out; have hn := HN0.out
 go_wp2_with (refine wpList_load_mid rfl 27 _ rfl g0 o0 rfl vv.arr.toList _ HR04.out Tryd.underlying27 rfl iSize ?_; simp only [Array.toArray_toList])
 clear hq hn
 refine (rversion_any vv _ HO04.out).mono ?_
 rintro e W3 ⟨rfl, hb⟩
 have HBW3 := hid (HBW4.out.trans (hb.mono (show z ≤ _ by rw [HZW.out]; exact HBW4.out.size)))
 have HBQ := hid ((hb.block _ (block_lt HB4.out)).trans HB4.out)
 have HZ3 : Hid (p < W3.heap.size) := block_lt HBQ.out
 clear hb HC04 HR04 HO04 HN0 HF0 HB4 HBW4
 have hp0 := cell_of_block (j := 0) HBQ.out (qr0 _)
 have hp1' := cell_of_block (j := 1) HBQ.out (qr1 _)
 have hfp : ∀ j, W3.frozen? ⟨p, j, none⟩ = false := fun j => frozen_of_block HBQ.out
 rcases hp3 : parseV verF vv.it with c | n
 ·have HE := hid (readV_v HT.out hp1 hp2 hp3)
  have hc := parse_code hp3
  rw [verV_err hp3]
  clear hp1 hp2 hp3
  go_upto_region 13 with (fail)
  have hch : Chg [p] W3 ((W3.setCell ⟨p, 0, none⟩ (.int .i64 0)).setCell ⟨p, 1, none⟩ (.int .i64 0)) := ((Chg.refl [p] W3).setCell (.inl (by simp)) _).setCell (.inl (by simp)) _
  have hbz := HBW3.out.trans (hch.below (B := z) (fun k hk => by rw [List.mem_singleton.1 hk]; exact HZP.out) (by rw [HZW.out]; exact HBW3.out.size))
  rw [HZW.out] at hbz
  have B5 := hid (B.out.below hbz)
  have HNB5 := hid ((hbz.block _ (block_lt HNB.out)).trans HNB.out)
  clear hbz B HNB HM HH
  clear hch hp0 hp1' hfp
  generalize (W3.setCell ⟨p, 0, none⟩ (.int .i64 0)).setCell ⟨p, 1, none⟩ (.int .i64 0) = W5 at *
  go_wp2_with (first | (refine wpList_load_row rfl 32 _ rfl nb rfl _ _ _ _ HNB5.out Tryd.underlying32 rfl vSize ?_) | (refine wpList_store_obj rfl 32 _ _ rfl (b + 1) rfl rvZ.arr rfl _ _ B5.out.res rfl vSize (varr_one _) ?_; intro w10 hb10 hc10 hs10; have HB10 := hid hb10; have HC10 := hid hc10; clear hb10 hc10 hs10))
  refine bodyPost_ret (results_cell_tmp rfl _ _ (b + 1) _ _ _ _ rfl HB10.out Tryd.underlying32 rfl vSize _ rfl) rfl ?_
  rw [HE.out]
  exact ⟨rfl, by rw [HBE.out]; exact B5.out.done HC10.out⟩
 have hpr := parse_rows hp3
 obtain ⟨hrl, -⟩ := hpr
 obtain ⟨z0, z1, rfl⟩ := rows2 hrl
 rw [verV_ok hp3]
 clear hrl
 obtain ⟨sm, lm, hm1, hs1, hc1, hn1, hall1⟩ := HM.out.an (k := 1) rfl
 have HMm := hid hm1; have HSm := hid hs1; have HCm := hid hc1; have HNm := hid hn1; have HAm := hid hall1
 have HRV := hid (fun (l : List RqI) (q : Rq) => readV_q (l := l) (q := q) HT.out hp1 hp2 hp3)
 have HRE := hid (fun (c : Int) => readV_i (c := c) HT.out hp1 hp2 hp3)
 simp only [List.getD_cons_zero, List.getD_cons_succ] at HRV HRE
 obtain ⟨j0, hq⟩ : ∃ n, numV z0 0 = n := ⟨_, rfl⟩
 rw [hq] at HRV ⊢
 clear hq
 obtain ⟨j1, hq⟩ : ∃ n, numV z1 0 = n := ⟨_, rfl⟩
 rw [hq] at HRV ⊢
 clear hq
 rw [HN2.out, HN3.out, HN4.out] at HRV
 clear hm1 hs1 hc1 hn1 hall1 HM HH hp1 hp2 hp3 HTG HT HN2 HN3 HN4 En2 En3
 go_upto_region 14 with (fail)
 have hch : Chg [p] W3 ((W3.setCell ⟨p, 0, none⟩ (.int .i64 j0)).setCell ⟨p, 1, none⟩ (.int .i64 j1)) := ((Chg.refl [p] W3).setCell (.inl (by simp)) _).setCell (.inl (by simp)) _
 have HPB5 : Hid (((W3.setCell ⟨p, 0, none⟩ (.int .i64 j0)).setCell ⟨p, 1, none⟩ (.int .i64 j1)).heap[p]? = some (.cells (RqV.arr { major := j0, minor := j1, max := n2, opt := n3 }) 32 (0, 0))) := block_setCell (block_setCell HBQ.out _) _
 have HBW : Hid (Below z W2 ((W3.setCell ⟨p, 0, none⟩ (.int .i64 j0)).setCell ⟨p, 1, none⟩ (.int .i64 j1))) := HBW3.out.trans (hch.below (B := z) (fun k hk => by rw [List.mem_singleton.1 hk]; exact HZP.out) (by rw [HZW.out]; exact HBW3.out.size))
 have HPS : Hid (p < ((W3.setCell ⟨p, 0, none⟩ (.int .i64 j0)).setCell ⟨p, 1, none⟩ (.int .i64 j1)).heap.size) := Nat.lt_of_lt_of_le HZ3.out hch.size
 clear hch hp0 hp1' hfp HBQ HZ3 HBW3
 generalize (W3.setCell ⟨p, 0, none⟩ (.int .i64 j0)).setCell ⟨p, 1, none⟩ (.int .i64 j1) = wa at *
 obtain ⟨z4, hz4⟩ : ∃ z, z = wa.heap.size := ⟨_, rfl⟩
 have HZ4 := hid hz4
 have HPZ : Hid (p < z4) := by show p < z4; rw [hz4]; exact HPS.out
 clear hz4 HPS
 obtain ⟨ka, kn, kc⟩ := sm
 have hnn : kn ≤ 1000000 := by have h1 := HNm.out; have h2 := HK6.out; simp only at h1; omega
 have HKN : Hid (lm.length = kn) := HSm.out.klen
 clear HNm
 go_wp2_with fail
 go_loopw [9] (fun y wr => ∃ (k : Nat) (s : Sl) (lq : List RqIV), k ≤ kn ∧ y = .int .i64 k ∧ s.n = k ∧ readItems (m1.take k) = .ok (lq.map RqIV.rq) ∧ Below z W2 wr ∧ z4 ≤ wr.heap.size ∧ OwnRq 41 wr z4 s lq ∧ (∀ x ∈ lq, ∀ k ∈ x.foot, k < b) ∧ wr.heap[p]? = some (.cells (RqV.arr { major := j0, minor := j1, max := n2, opt := n3, its := s, items := lq }) 32 (0, 0))) (fun y _ => kn - (intOf y).toNat)
 case atStart => exact ⟨0, {}, [], Nat.zero_le _, rfl, rfl, rfl, HBW.out, by rw [HZ4.out]; exact Nat.le_refl _, OwnRq.nil _ _ _, by simp, HPB5.out⟩
 case round =>
  clear HBW HPB5
  obtain ⟨k, s, lq, hk, rfl, hsk, hri, hbw, hzw, ho, hpf, hpb⟩ := hrel
  have HBW := hid hbw; have HZW4 := hid hzw; have HO := hid ho; have HPF := hid hpf; have HPB := hid hpb; have HRI := hid hri; have HSK := hid hsk
  clear hbw hzw ho hpf hpb hri hsk
  have hbr : Below W2.heap.size W2 wr := by rw [← HZW.out]; exact HBW.out
  have HBR := hid hbr
  have hcm := cell_later hbr HCm.out
  clear hbr
  by_cases hlt : k < kn
  ·obtain ⟨bx, ox, x, hax, hx, hrow⟩ := (HSm.out.below HBR.out).row (k := k) hlt
   simp only at hax
   subst hax
   have HCM2 := hid hcm
   have HXM : Hid (m1[k]? = some x.it) := by
    show _ = _
    rw [← HMm.out, List.getElem?_map, hx]; rfl
   have HX := hid (((HAm.out x (List.mem_of_getElem? hx)).1).below HBR.out)
   have HXF := hid ((HAm.out x (List.mem_of_getElem? hx)).2)
   have HR := hid hrow
   clear hx hrow
   go_upto_region 17 with (fail)
   clear hcm
   have HRX : Hid (readItem x.it = match parseV itemF x.it with
    | .error c => .error c
    | .ok r => .ok { op := numV (r.getD 0 []) 0, has := !(r.getD 1 []).isEmpty, id := (firstI (r.getD 1 [])).data, pay := firstI (r.getD 2 []) }) := rfl
   have HB5 := hid (B.out.below HBR.out); have HN5 := hid ((HBR.out.block _ (block_lt HNB.out)).trans HNB.out)
   rcases hpx : parseV itemF x.it with c | r
   ·rw [hpx] at HRX
    refine wp_region_each 16 [.eq (.slice (some ⟨gm, 0, none⟩) 2 cm), .eq (.pointer (some ⟨gm, 1, none⟩)), .eq (.slice (some ⟨bx, ox, none⟩) kn kc), .eq (.int .i64 (k : Int)), .eq (.pointer (some ⟨bx, ox + k * 5, none⟩)), .eq (.agg x.arr), .eq (.agg (needF 4325468 5).arr), .eq (.agg (maybeF 4325523 8).arr), .eq (.agg (needF 4325497 1).arr), stF itemF, .eq (.tuple #[.slice none 0 0, .int .i64 c]), .eq (.tuple #[.slice none 0 0, .int .i64 c]), .eq (.slice none 0 0), .eq (.int .i64 c), .eq (.slice none 0 0), .eq (.int .i64 c)] (by kernel_rfl) (by kernel_rfl) (by kernel_rfl) (by kernel_rfl) ?_ ?_
    ·all_goals
      refine each_5 ?_ ?_ ?_ ?_ ?_ (each_5 ?_ ?_ ?_ ?_ ?_ (each_5 ?_ ?_ ?_ ?_ ?_ (each_c ?_ (each_n))))
      ·intro w1 hg Ar seen
       have s5 := seen.sl 5 (.slice (some ⟨gm, 0, none⟩) 2 cm)
       refine does_plain rfl fun K Q' hK => ?_
       go_simp; exact hK _ _ (Grow.refl _) rfl
      ·intro w1 hg Ar seen
       have e0 := seen.de 0 83
       refine does_plain rfl fun K Q' hK => ?_
       go_simp; exact hK _ _ (Grow.refl _) rfl
      ·intro w1 hg Ar seen
       have e1 := seen.de 1 84
       refine does_plain rfl fun K Q' hK => ?_
       have hc := cell_later hg HCM2.out
       go_simp; exact hK _ _ (Grow.refl _) rfl
      ·intro w1 hg Ar seen
       have s9 := seen.sl 9 (.int .i64 (k : Int))
       refine does_plain rfl fun K Q' hK => ?_
       go_simp; exact hK _ _ (Grow.refl _) rfl
      ·intro w1 hg Ar seen
       have e2 := seen.de 2 85
       have e3 := seen.de 3 86
       refine does_plain rfl fun K Q' hK => ?_
       go_simp; exact hK _ _ (Grow.refl _) rfl
      ·intro w1 hg Ar seen
       have e4 := seen.de 4 87
       refine does_plain rfl fun K Q' hK => ?_
       refine wp_load_mid 27 _ rfl bx (ox + k * 5) (by simp [Act.eval, e4]) x.arr.toList _ (range_later hg HR.out) Tryd.underlying27 rfl iSize ?_
       exact hK _ _ (Grow.refl _) rfl
      ·intro w1 hg Ar seen
       refine does_plain rfl fun K Q' hK => ?_
       go_simp
       refine (rneed_any _ _ _).mono ?_
       rintro e u ⟨rfl, hb⟩
       exact hK _ _ hb rfl
      ·intro w1 hg Ar seen
       refine does_plain rfl fun K Q' hK => ?_
       go_simp
       refine (rmaybe_any _ _ _).mono ?_
       rintro e u ⟨rfl, hb⟩
       exact hK _ _ hb rfl
      ·intro w1 hg Ar seen
       refine does_plain rfl fun K Q' hK => ?_
       go_simp
       refine (rneed_any _ _ _).mono ?_
       rintro e u ⟨rfl, hb⟩
       exact hK _ _ hb rfl
      ·intro w1 hg Ar seen
       have e6 := seen.de 6 89
       have e7 := seen.de 7 90
       have e8 := seen.de 8 91
       refine does_plain rfl fun K Q' hK => ?_
       refine wp_build_flds _ 52 3 _ rfl itemF rfl (by decide) (by decide) (by simp [Act.eval, e6, e7, e8]; rfl) (fldCells itemF).toArray (by simp) i Tryd.underlying54 hi hz0 hz1 (by kernel_rfl) ?_
       intro s hs
       exact hK _ _ ((Below.refl _ _).alloc (Nat.le_refl _) _) ⟨s, rfl, hs⟩
      ·intro w1 hg Ar seen
       have e5 := seen.de 5 88
       obtain ⟨v9, e9, h9⟩ := seen.dp 9 92
       refine does_plain rfl fun K Q' hK => ?_
       obtain ⟨sf, rfl, hsf⟩ := h9
       go_simp
       refine (refParse_any x sf itemF _ (HX.out.below hg) hsf (· < b) HXF.out).mono ?_
       intro e u hres
       obtain ⟨rfl, hb⟩ := parsedR_err hres hpx
       exact hK _ _ hb rfl
      ·intro w1 hg Ar seen
       have e10 := seen.de 10 93
       refine does_plain rfl fun K Q' hK => ?_
       go_simp; exact hK _ _ (Grow.refl _) rfl
      ·intro w1 hg Ar seen
       have e11 := seen.de 11 82
       refine does_plain rfl fun K Q' hK => ?_
       go_simp; exact hK _ _ (Grow.refl _) rfl
      ·intro w1 hg Ar seen
       have e11 := seen.de 11 82
       refine does_plain rfl fun K Q' hK => ?_
       go_simp; exact hK _ _ (Grow.refl _) rfl
      ·intro w1 hg Ar seen
       have e12 := seen.de 12 94
       refine does_plain rfl fun K Q' hK => ?_
       go_simp; exact hK _ _ (Grow.refl _) rfl
      ·intro w1 hg Ar seen
       have e13 := seen.de 13 95
       refine does_plain rfl fun K Q' hK => ?_
       go_simp; exact hK _ _ (Grow.refl _) rfl
    intro w1 hg
    refine upon_w' (js := [0, 1, 2, 3, 4, 5, 6, 7, 8, 9, 10, 11, 12, 13, 14, 15]) (by rfl) ?_
    refine upon_e (some 83) (upon_e (some 84) (upon_e (some 85) (upon_e (some 86) (upon_e (some 87) (upon_e (some 88) (upon_e (some 89) (upon_e (some 90) (upon_e (some 91) (upon_v (some 92) fun v9 h9 => upon_e (some 93) (upon_e (some 82) (upon_e (some 94) (upon_e (some 95) (upon_e (some 10) (upon_e (some 11) (upon_n ?_)))))))))))))))
    go_simp
    have HE := hid (HRE.out c ((readItems_one HRI.out HXM.out).2 c HRX.out))
    have B6 := hid (HB5.out.below hg); have HN6 := hid ((hg.block _ (block_lt HN5.out)).trans HN5.out)
    have hc := parse_code hpx
    clear hg hpx HB5 HN5 h9
    go_wp2_with (first | (refine wpList_load_row rfl 32 _ rfl nb rfl _ _ _ _ HN6.out Tryd.underlying32 rfl vSize ?_) | (refine wpList_store_obj rfl 32 _ _ rfl (b + 1) rfl rvZ.arr rfl _ _ B6.out.res rfl vSize (varr_one _) ?_; intro w10 hb10 hc10 hs10; have HB10 := hid hb10; have HC10 := hid hc10; clear hb10 hc10 hs10))
    refine bodyPost_ret (results_cell_tmp rfl _ _ (b + 1) _ _ _ _ rfl HB10.out Tryd.underlying32 rfl vSize _ rfl) rfl ?_
    rw [HE.out]
    exact ⟨rfl, by rw [HBE.out]; exact B6.out.done HC10.out⟩
   rw [hpx] at HRX
   refine wp_region_each 16 [.eq (.slice (some ⟨gm, 0, none⟩) 2 cm), .eq (.pointer (some ⟨gm, 1, none⟩)), .eq (.slice (some ⟨bx, ox, none⟩) kn kc), .eq (.int .i64 (k : Int)), .eq (.pointer (some ⟨bx, ox + k * 5, none⟩)), .eq (.agg x.arr), .eq (.agg (needF 4325468 5).arr), .eq (.agg (maybeF 4325523 8).arr), .eq (.agg (needF 4325497 1).arr), stF itemF, stRowsTR (· < b) 25 27 0 r, stRowsTR (· < b) 25 27 0 r, stRowsR (· < b) 25 27 0 r, .eq (.int .i64 0), stRowsR (· < b) 25 27 0 r, .eq (.int .i64 0)] (by kernel_rfl) (by kernel_rfl) (by kernel_rfl) (by kernel_rfl) ?_ ?_
   ·all_goals
     refine each_5 ?_ ?_ ?_ ?_ ?_ (each_5 ?_ ?_ ?_ ?_ ?_ (each_5 ?_ ?_ ?_ ?_ ?_ (each_c ?_ (each_n))))
     ·intro w1 hg Ar seen
      have s5 := seen.sl 5 (.slice (some ⟨gm, 0, none⟩) 2 cm)
      refine does_plain rfl fun K Q' hK => ?_
      go_simp; exact hK _ _ (Grow.refl _) rfl
     ·intro w1 hg Ar seen
      have e0 := seen.de 0 83
      refine does_plain rfl fun K Q' hK => ?_
      go_simp; exact hK _ _ (Grow.refl _) rfl
     ·intro w1 hg Ar seen
      have e1 := seen.de 1 84
      refine does_plain rfl fun K Q' hK => ?_
      have hc := cell_later hg HCM2.out
      go_simp; exact hK _ _ (Grow.refl _) rfl
     ·intro w1 hg Ar seen
      have s9 := seen.sl 9 (.int .i64 (k : Int))
      refine does_plain rfl fun K Q' hK => ?_
      go_simp; exact hK _ _ (Grow.refl _) rfl
     ·intro w1 hg Ar seen
      have e2 := seen.de 2 85
      have e3 := seen.de 3 86
      refine does_plain rfl fun K Q' hK => ?_
      go_simp; exact hK _ _ (Grow.refl _) rfl
     ·intro w1 hg Ar seen
      have e4 := seen.de 4 87
      refine does_plain rfl fun K Q' hK => ?_
      refine wp_load_mid 27 _ rfl bx (ox + k * 5) (by simp [Act.eval, e4]) x.arr.toList _ (range_later hg HR.out) Tryd.underlying27 rfl iSize ?_
      exact hK _ _ (Grow.refl _) rfl
     ·intro w1 hg Ar seen
      refine does_plain rfl fun K Q' hK => ?_
      go_simp
      refine (rneed_any _ _ _).mono ?_
      rintro e u ⟨rfl, hb⟩
      exact hK _ _ hb rfl
     ·intro w1 hg Ar seen
      refine does_plain rfl fun K Q' hK => ?_
      go_simp
      refine (rmaybe_any _ _ _).mono ?_
      rintro e u ⟨rfl, hb⟩
      exact hK _ _ hb rfl
     ·intro w1 hg Ar seen
      refine does_plain rfl fun K Q' hK => ?_
      go_simp
      refine (rneed_any _ _ _).mono ?_
      rintro e u ⟨rfl, hb⟩
      exact hK _ _ hb rfl
     ·intro w1 hg Ar seen
      have e6 := seen.de 6 89
      have e7 := seen.de 7 90
      have e8 := seen.de 8 91
      refine does_plain rfl fun K Q' hK => ?_
      refine wp_build_flds _ 52 3 _ rfl itemF rfl (by decide) (by decide) (by simp [Act.eval, e6, e7, e8]; rfl) (fldCells itemF).toArray (by simp) i Tryd.underlying54 hi hz0 hz1 (by kernel_rfl) ?_
      intro s hs
      exact hK _ _ ((Below.refl _ _).alloc (Nat.le_refl _) _) ⟨s, rfl, hs⟩
     ·intro w1 hg Ar seen
      have e5 := seen.de 5 88
      obtain ⟨v9, e9, h9⟩ := seen.dp 9 92
      refine does_plain rfl fun K Q' hK => ?_
      obtain ⟨sf, rfl, hsf⟩ := h9
      go_simp
      refine (refParse_any x sf itemF _ (HX.out.below hg) hsf (· < b) HXF.out).mono ?_
      intro e u hres
      obtain ⟨so, rfl, h1, hb⟩ := parsedR_ok hres hpx (Nat.le_trans (Nat.zero_le _) hg.size)
      exact hK _ _ hb ⟨so, rfl, h1⟩
     ·intro w1 hg Ar seen
      obtain ⟨v10, e10, h10⟩ := seen.dp 10 93
      refine does_plain rfl fun K Q' hK => ?_
      go_simp
      exact hK _ _ (Grow.refl _) h10
     ·intro w1 hg Ar seen
      obtain ⟨v11, e11, h11⟩ := seen.dp 11 82
      refine does_plain rfl fun K Q' hK => ?_
      obtain ⟨so, rfl, h1⟩ := h11
      go_simp
      exact hK _ _ (Grow.refl _) ⟨so, rfl, h1⟩
     ·intro w1 hg Ar seen
      obtain ⟨v11, e11, h11⟩ := seen.dp 11 82
      refine does_plain rfl fun K Q' hK => ?_
      obtain ⟨so, rfl, h1⟩ := h11
      go_simp; exact hK _ _ (Grow.refl _) rfl
     ·intro w1 hg Ar seen
      obtain ⟨v12, e12, h12⟩ := seen.dp 12 94
      refine does_plain rfl fun K Q' hK => ?_
      go_simp
      exact hK _ _ (Grow.refl _) h12
     ·intro w1 hg Ar seen
      have e13 := seen.de 13 95
      refine does_plain rfl fun K Q' hK => ?_
      go_simp; exact hK _ _ (Grow.refl _) rfl
   intro w1 hg
   refine upon_w' (js := [0, 1, 2, 3, 4, 5, 6, 7, 8, 9, 10, 11, 12, 13, 14, 15]) (by rfl) ?_
   refine upon_e (some 83) (upon_e (some 84) (upon_e (some 85) (upon_e (some 86) (upon_e (some 87) (upon_e (some 88) (upon_e (some 89) (upon_e (some 90) (upon_e (some 91) (upon_v (some 92) fun v9 h9 => upon_v (some 93) fun v10 h10 => upon_v (some 82) fun v11 h11 => upon_v (some 94) fun v12 h12 => upon_e (some 95) (upon_v (some 10) fun v14 h14 => upon_e (some 11) (upon_n ?_)))))))))))
   go_simp
   obtain ⟨so, rfl, hrow⟩ := h14
   have HRW := hid hrow
   have hpr := parse_rows hpx
   obtain ⟨hrl, hneed⟩ := hpr
   have HWR := hid (show Below wr.heap.size wr w1 from hg)
   clear h9 h10 h11 h12 hrow hg hpx HB5 HN5 HR HX HXF HCM2
   obtain ⟨r0, r1, r2, rfl⟩ := rows3 hrl
   obtain ⟨x2, t2, hx2⟩ := hneed 2 _ rfl rfl
   simp only [List.getElem?_cons_zero, List.getElem?_cons_succ, Option.some.injEq] at hx2
   subst hx2
   obtain ⟨g, scc, rfl⟩ := HRW.out.ok.shape (by simp)
   clear hrl hneed
   obtain ⟨s0, l0, hm0, hs0, hc0, hn0, ha0⟩ := HRW.out.an (k := 0) rfl
   have HM0 := hid hm0; have HS0 := hid hs0; have HC0 := hid hc0
   clear hm0 hs0 hc0 hn0 ha0
   obtain ⟨s1, l1, hm1, hs1, hc1, hn1, ha1⟩ := HRW.out.an (k := 1) rfl
   have HM1 := hid hm1; have HS1 := hid hs1; have HC1 := hid hc1; have HN1 := hid hn1; have HA1 := hid ha1
   clear hm1 hs1 hc1 hn1 ha1
   obtain ⟨s2, l2, g2, f2, v2, -, -, hc2, ha2, hn2, rfl, hr2, ho2, hf2⟩ := HRW.out.hd (k := 2) rfl
   rw [ha2] at hc2
   have HC2 := hid hc2; have HN2' := hid hn2; have HR2 := hid hr2; have HO2 := hid ho2; have HF2 := hid hf2
   clear hc2 ha2 hn2 hr2 ho2 hf2 HRW
   simp only [List.getD_cons_zero, List.getD_cons_succ] at HRX
   go_upto_region 20 with (fail)
   obtain ⟨W5, hw3⟩ : ∃ W, W = w1 := ⟨_, rfl⟩
   subst hw3
   obtain ⟨z5, hzw⟩ : ∃ z5, z5 = W5.heap.size := ⟨_, rfl⟩
   have HZW5 := hid hzw
   clear hzw
   obtain ⟨n0, hq⟩ : ∃ n, numV r0 0 = n := ⟨_, rfl⟩
   have EN0 : Hid (numV (l0.map ItV.it) 0 = n0) := by show _ = _; rw [HM0.out]; exact hq
   rw [hq] at HRX
   clear hq
   rw [isEmpty_pos HN1.out] at HRX
   refine wp_region_each 11 [.eq (.slice (some ⟨g, 0, none⟩) 3 scc), .eq (.pointer (some ⟨g, 0, none⟩)), .eq (.slice s0.a s0.n s0.c), .eq (.int .i64 n0), .eq (.slice (some ⟨g, 0, none⟩) 3 scc), .eq (.pointer (some ⟨g, 2, none⟩)), .eq (.slice (some ⟨g2, f2, none⟩) s2.n s2.c), .eq (.pointer (some ⟨g2, f2, none⟩)), .eq (.agg v2.arr), .eq (.agg (RqIV.arr { op := n0, pay := v2 })), stNewQ 41 rqZ.arr z5] (by kernel_rfl) (by kernel_rfl) (by kernel_rfl) (by kernel_rfl) ?_ ?_
   ·all_goals
     refine each_5 ?_ ?_ ?_ ?_ ?_ (each_5 ?_ ?_ ?_ ?_ ?_ (each_c ?_ (each_n)))
     ·intro w1 hg Ar seen
      have s10 := seen.sl 10 (.slice (some ⟨g, 0, none⟩) 3 scc)
      refine does_plain rfl fun K Q' hK => ?_
      go_simp; exact hK _ _ (Grow.refl _) rfl
     ·intro w1 hg Ar seen
      have e0 := seen.de 0 100
      refine does_plain rfl fun K Q' hK => ?_
      go_simp; exact hK _ _ (Grow.refl _) rfl
     ·intro w1 hg Ar seen
      have e1 := seen.de 1 101
      refine does_plain rfl fun K Q' hK => ?_
      have hc := cell_later hg HC0.out
      go_simp; exact hK _ _ (Grow.refl _) rfl
     ·intro w1 hg Ar seen
      have e2 := seen.de 2 102
      refine does_plain rfl fun K Q' hK => ?_
      go_simp
      refine (rnumber_any s0 l0 0 _ (HS0.out.below hg)).mono ?_
      rintro e u ⟨rfl, rfl⟩
      exact hK _ _ (Grow.refl _) (by rw [EN0.out]; rfl)
     ·intro w1 hg Ar seen
      have s10 := seen.sl 10 (.slice (some ⟨g, 0, none⟩) 3 scc)
      refine does_plain rfl fun K Q' hK => ?_
      go_simp; exact hK _ _ (Grow.refl _) rfl
     ·intro w1 hg Ar seen
      have e4 := seen.de 4 104
      refine does_plain rfl fun K Q' hK => ?_
      go_simp; exact hK _ _ (Grow.refl _) rfl
     ·intro w1 hg Ar seen
      have e5 := seen.de 5 105
      refine does_plain rfl fun K Q' hK => ?_
      have hc := cell_later hg HC2.out
      go_simp; exact hK _ _ (Grow.refl _) rfl
     ·intro w1 hg Ar seen
      have e6 := seen.de 6 106
      refine does_plain rfl fun K Q' hK => ?_
      have hn := HN2'.out
      go_simp; exact hK _ _ (Grow.refl _) rfl
     ·intro w1 hg Ar seen
      have e7 := seen.de 7 107
      refine does_plain rfl fun K Q' hK => ?_
      refine wp_load_mid 27 _ rfl g2 f2 (by simp [Act.eval, e7]) v2.arr.toList _ (range_later hg HR2.out) Tryd.underlying27 rfl iSize ?_
      exact hK _ _ (Grow.refl _) rfl
     ·intro w1 hg Ar seen
      have e3 := seen.de 3 103
      have e8 := seen.de 8 108
      refine does_plain rfl fun K Q' hK => ?_
      refine wp_build_obj 41 _ rfl #[(0, .int .i64 n0), (3, .agg v2.arr)] (by simp [Act.eval, e3, e8]) _ (qBuildR _ _ _) ?_
      exact hK _ _ (Grow.refl _) rfl
     ·intro w1 hg Ar seen
      refine does_plain rfl fun K Q' hK => ?_
      refine wp_alloc_obj 41 rfl rqZ.arr qZero ?_
      exact hK _ _ ((Below.refl _ _).alloc (Nat.le_refl _) _) ⟨_, rfl, block_new _ _, Nat.le_trans (Nat.le_of_eq HZW5.out) hg.size⟩
   intro w1 hg
   refine upon_w' (js := [0, 1, 2, 3, 4, 5, 6, 7, 8, 9, 10]) (by rfl) ?_
   refine upon_e (some 100) (upon_e (some 101) (upon_e (some 102) (upon_e (some 103) (upon_e (some 104) (upon_e (some 105) (upon_e (some 106) (upon_e (some 107) (upon_e (some 108) (upon_e (some 109) (upon_v (some 12) fun v10 h10 => upon_n ?_))))))))))
   obtain ⟨px, rfl, hp, hzp⟩ := h10
   have HP := hid hp; have HZP5 := hid hzp
   have hg' := hg
   unfold Grow at hg'
   rw [← HZW5.out] at hg'
   have HGG := hid hg'
   have HSZ1 : Hid (z5 ≤ w1.heap.size) := by show _ ≤ _; rw [HZW5.out]; exact hg.size
   clear hp hzp hg' hg
   go_simp
   go_upto_region 21 with (refine wpList_store_obj rfl 41 _ _ rfl px rfl (RqIV.arr { op := n0, pay := v2 }) rfl _ _ HP.out rfl qSize (qarr_one _) ?_; intro w4 hb4 hc4 hs4; have HBX := hid hb4; have HCX := hid hc4; clear hb4 hc4 hs4)
   have HBW5 : Hid (Below z5 W5 w4) := HGG.out.trans (HCX.out.below (B := z5) (fun k hk => by rw [List.mem_singleton.1 hk]; exact HZP5.out) HSZ1.out)
   have HZ5 : Hid (z5 ≤ w4.heap.size) := Nat.le_trans HSZ1.out HCX.out.size
   clear HP HCX HGG HSZ1
   have hbx : Below W5.heap.size W5 w4 := by rw [← HZW5.out]; exact HBW5.out
   have hc1 := cell_later hbx HC1.out
   clear hbx
   go_upto_if 114 with (fail)
   clear hc1
   obtain ⟨D1, hD1⟩ : ∃ D, (firstI r1).data = D := ⟨_, rfl⟩
   have HD1 := hid hD1
   clear hD1
   go_cut [] (fun wx => ∃ ids : Sl, wx.heap[px]? = some (.cells (RqIV.arr { op := n0, has := decide (0 < s1.n), id := D1, ids := ids, pay := v2 }) 41 (0, 0)) ∧ SlC W5 ids (D1.map B8) ∧ (∀ k ∈ ids.blk, k < b) ∧ Below z5 W5 wx ∧ z5 ≤ wx.heap.size)
   case first =>
    have hbx : Below W5.heap.size W5 w4 := by rw [← HZW5.out]; exact HBW5.out
    by_cases hn1 : 0 < s1.n
    ·obtain ⟨g1, f1, v1, ha1, hv1, -, -, -, hk1, -⟩ := HS1.out.kid hn1
     obtain ⟨ho1, hf1⟩ := HA1.out v1 (List.mem_of_getElem? hv1)
     have hr1 : firstI r1 = v1.it := by
      have hm := HM1.out
      cases l1 with
      | nil => simp at hv1
      | cons x t => simp at hv1; subst hv1; rw [← hm]; rfl
     rw [Nat.zero_mul, Nat.add_zero] at hk1
     have hfz : ∀ j, w4.frozen? ⟨px, j, none⟩ = false := fun j => frozen_of_block HBX.out
     have hq1 := cell_of_block (j := 1) HBX.out (xr1 _)
     have HHK := hid hk1; have HHA := hid ha1; have HHN := hid hn1
     have HD : Hid (D1 = v1.data) := by show _ = _; rw [← HD1.out, hr1, ItV.it_eq]
     have HO := hid (ItV.ok_iff.1 ho1).1; have HF := hid (fun k hk => hf1 k (ItV.mem_foot.2 (.inl hk)))
     have HTD : Hid (decide (0 < s1.n) = true) := by show _ = _; simpa using hn1
     clear hv1 hk1 ha1 ho1 hf1 hr1 hbx
     go_upto_region 23 with (fail)
     have HB5 : Hid ((w4.setCell ⟨px, 1, none⟩ (.bool true)).heap[px]? = some (.cells (RqIV.arr { op := n0, has := true, pay := v2 }) 41 (0, 0))) := block_setCell HBX.out _
     have HB6 := hid (HBW5.out.setCell (p := ⟨px, 1, none⟩) HZP5.out (.bool true))
     have HSZ : Hid (z5 ≤ (w4.setCell ⟨px, 1, none⟩ (.bool true)).heap.size) := Nat.le_trans HZ5.out (by simp [World.setCell])
     clear hfz hq1 HBX HBW5 HZ5
     generalize w4.setCell ⟨px, 1, none⟩ (.bool true) = w5 at *
     have hbx5 : Below W5.heap.size W5 w5 := by rw [← HZW5.out]; exact HB6.out
     have hc1 := cell_later hbx5 HC1.out
     rw [HHA.out] at hc1
     have hk := cell_later hbx5 HHK.out
     have hfz : ∀ j, w5.frozen? ⟨px, j, none⟩ = false := fun j => frozen_of_block HB5.out
     have hq2 := cell_of_block (j := 2) HB5.out (xr2 _)
     have HB7 : Hid ((w5.setCell ⟨px, 2, none⟩ (.slice v1.ds.a v1.ds.n v1.ds.c)).heap[px]? = some (.cells (RqIV.arr { op := n0, has := true, id := v1.data, ids := v1.ds, pay := v2 }) 41 (0, 0))) := block_setCell HB5.out _
     have HB8 := hid (HB6.out.setCell (p := ⟨px, 2, none⟩) HZP5.out (.slice v1.ds.a v1.ds.n v1.ds.c))
     clear hbx5
     go_wp2_with fail
     go_meet
     exact ⟨v1.ds, by rw [HD.out, HTD.out]; exact HB7.out, by rw [HD.out]; exact HO.out, HF.out, HB8.out, Nat.le_trans HSZ.out (by simp [World.setCell])⟩
    ·have HD : Hid (D1 = []) := by
      show _ = _
      have : r1 = [] := List.eq_nil_of_length_eq_zero (by rw [← HN1.out]; omega)
      rw [← HD1.out, this]; rfl
     have HTD : Hid (decide (0 < s1.n) = false) := by show _ = _; simpa using hn1
     clear hbx
     go_wp2_with fail
     go_meet
     exact ⟨{}, by rw [HD.out, HTD.out]; exact HBX.out, by rw [HD.out]; exact SlC.nil _, by simp [Sl.blk], HBW5.out, HZ5.out⟩
   case rest =>
   clear HBX HBW5 HZ5
   obtain ⟨ids, hpx, hids, hidl, hbw, hz5⟩ := hcut
   have HPX := hid hpx; have HID := hid hids; have HIL := hid hidl; have HBW5 := hid hbw; have HZ5 := hid hz5
   clear hpx hids hidl hbw hz5
   have hbx : Below W5.heap.size W5 wc := by rw [← HZW5.out]; exact HBW5.out
   obtain ⟨v', hv'⟩ : ∃ v : RqIV, v = { op := n0, has := decide (0 < s1.n), id := D1, ids := ids, pay := v2 } := ⟨_, rfl⟩
   have HB7 : Hid (wc.heap[px]? = some (.cells v'.arr 41 (0, 0))) := by show wc.heap[px]? = some (.cells v'.arr 41 (0, 0)); rw [hv']; exact HPX.out
   have HVO7 : Hid (v'.ok wc) := by show v'.ok wc; rw [hv']; exact ⟨HID.out.below hbx, HO2.out.below hbx⟩
   have HVF : Hid (∀ k ∈ v'.foot, k < b) := by
    show ∀ k ∈ v'.foot, k < b
    rw [hv']
    intro k hk
    rcases List.mem_append.1 hk with h' | h'
    ·exact HIL.out k h'
    ·exact HF2.out k h'
   have HVQ : Hid (readItem x.it = .ok v'.rq) := by
    show _ = _
    rw [hv', HRX.out]
    unfold RqIV.rq
    rw [← HD1.out]; rfl
   have HRN := hid ((readItems_one HRI.out HXM.out).1 v'.rq HVQ.out)
   have hbel7 : Below wr.heap.size wr wc := HWR.out.trans (hbx.mono HWR.out.size)
   have HO7 := hid (HO.out.below hbel7)
   have HPB7 := hid ((hbel7.block _ (block_lt HPB.out)).trans HPB.out)
   have HBL7 := hid hbel7
   have HZ7 : Hid (wr.heap.size ≤ wc.heap.size) := hbel7.size
   clear hv' hbx hbel7 HPX HID HIL HO2 HF2 HBW5 HZ5 HO HPB HVQ HRX HWR
   have hc4 := cell_of_block (j := 4) HPB7.out (qr4 _)
   simp only at hc4
   go_upto_region 16 with (first | (refine wpList_load_row rfl 41 _ rfl px rfl _ _ _ _ HB7.out Tryd.underlying41 rfl qSize ?_) | (refine wpList_build_rq rfl 30 41 _ rfl v' rfl iq Tryd.underlying30 hiq hy0 hy1 ?_) | (at_builtin; go_must (refine wpList_append_c rfl _ _ 30 rfl z4 41 iq _ 8 112 Tryd.underlying30 hiq hy0 hy1 hy2 rfl (by decide) (.slice s.a s.n s.c) s.n _ rfl (HO7.out.below ((Below.refl _ _).alloc (Nat.le_refl _) (.cells v'.arr 41))).own _ 1 _ v'.cells rfl (RdC.new _ _ _ _ v'.cells (by simp [RqIV.cells]) 8 rfl _ rfl) (by have := rq_one [v']; simpa [rqCells] using this) (fun hx => by cases hx) (by unfold maxLen; have := HSK.out; omega) (by have := HSK.out; omega) (by have := HZW4.out; have := HZ7.out; simp; omega) ?_); intro a' c' w8 hown hgw hfr; have HO8 := hid hown; have HG8 := hid hgw; have HF8 := hid hfr; have hch : Chg s.v.ownBlock.toList wc w8 := ((Chg.refl _ wc).alloc _).grown hgw (fun k hk => .inl (by rw [hk]; simp)); have hpb8 := (hch.block p (block_lt HPB7.out) (HO7.out.ahead HPZ.out)).trans HPB7.out; have HPB8 := hid hpb8; have hq4 := cell_of_block (j := 4) hpb8 (qr4 _); have hfz : ∀ j, w8.frozen? ⟨p, j, none⟩ = false := (fun j => frozen_of_block HPB8.out); clear hown hgw hfr hch hpb8))
   clear hq4 hfz hc4
   have ho8 : OwnRq 41 w8 z4 ⟨a', s.n + 1, c'⟩ (lq ++ [v']) :=
    HO7.out.app ((Below.refl _ _).alloc (Nat.le_refl _) _) v' HVO7.out (fun k hk he => by have h1 := (HO7.out.own.lt k he).1; have h2 := HVF.out k hk; have h3 := HPZ.out; have h4 := HZP.out; have h5 := HBZ.out; omega) (by rw [rq_app]; simpa [rqCells] using HO8.out) HG8.out HF8.out
   have hch : Chg s.v.ownBlock.toList wc w8 := ((Chg.refl _ wc).alloc _).grown HG8.out (fun k hk => .inl (by rw [hk]; simp))
   have hcb : Chg [p] w8 (w8.setCell ⟨p, 4, none⟩ (.slice a' (s.n + 1) c')) := (Chg.refl [p] w8).setCell (.inl (by simp)) _
   have hnf : ∀ x ∈ lq ++ [v'], ∀ k ∈ x.foot, k < b := fun x hx k hm => by
    rcases List.mem_append.1 hx with h' | h'
    ·exact HPF.out x h' k hm
    ·rw [List.mem_singleton.1 h'] at hm
     exact HVF.out k hm
   have ho9 := ho8.chg hcb (fun k hk hm => by have := List.mem_singleton.1 hm; subst this; exact ho8.ahead HPZ.out (by rw [hk]; simp)) (fun x hx k hk hm => by have h1 := List.mem_singleton.1 hm; have h2 := hnf x hx k hk; have h3 := HZP.out; have h4 := HBZ.out; omega)
   have hpb9 : (w8.setCell ⟨p, 4, none⟩ (.slice a' (s.n + 1) c')).heap[p]? = some (.cells (RqV.arr { major := j0, minor := j1, max := n2, opt := n3, its := ⟨a', s.n + 1, c'⟩, items := lq ++ [v'] }) 32 (0, 0)) := block_setCell HPB8.out _
   have hz4 : z ≤ z4 := Nat.le_of_lt (Nat.lt_of_le_of_lt HZP.out HPZ.out)
   have hbw9 : Below z W2 (w8.setCell ⟨p, 4, none⟩ (.slice a' (s.n + 1) c')) :=
    (HBW.out.trans (HBL7.out.mono (Nat.le_trans hz4 HZW4.out))).trans ((hch.below (B := z) (fun k hk => by
     rcases Nat.lt_or_ge k z4 with h' | h'
     ·exact absurd hk (HO7.out.ahead h')
     ·omega) (Nat.le_trans hz4 (Nat.le_trans HZW4.out HZ7.out))).trans (hcb.below (B := z) (fun k hk => by rw [List.mem_singleton.1 hk]; exact HZP.out) (Nat.le_trans hz4 (Nat.le_trans HZW4.out (Nat.le_trans HZ7.out hch.size)))))
   have hz9 : z4 ≤ (w8.setCell ⟨p, 4, none⟩ (.slice a' (s.n + 1) c')).heap.size := Nat.le_trans HZW4.out (Nat.le_trans HZ7.out (Nat.le_trans hch.size hcb.size))
   have hrn : readItems (m1.take (k + 1)) = .ok ((lq ++ [v']).map RqIV.rq) := by rw [HRN.out, List.map_append, List.map_cons, List.map_nil]
   have H9 := hid (And.intro hrn (And.intro hbw9 (And.intro hz9 (And.intro ho9 (And.intro hnf hpb9)))))
   clear ho8 hch hcb hnf ho9 hpb9 hz4 hbw9 hz9 hrn
   go_wp2_with fail
   go_roundw
   case rel =>
    have hsk := HSK.out
    first
     | exact ⟨k + 1, ⟨a', s.n + 1, c'⟩, lq ++ [v'], by omega, by go_num, by simp; omega, H9.out⟩
     | ((repeat apply Exists.intro); exact ⟨⟨k + 1, ⟨a', s.n + 1, c'⟩, lq ++ [v'], by omega, by go_num, by simp; omega, H9.out⟩, rfl⟩)
   case measure => simp [intOf]; omega
  ·obtain rfl : k = kn := by omega
   have HRI2 : Hid (readItems m1 = .ok (lq.map RqIV.rq)) := by
    have := HRI.out
    rwa [List.take_of_length_le (by rw [← HMm.out, List.length_map]; have := HKN.out; omega)] at this
   have HEQ := hid (HRV.out (lq.map RqIV.rq) (RqV.rq { major := j0, minor := j1, max := n2, opt := n3, its := s, items := lq }) HRI2.out rfl)
   have HB := hid (B.out.below HBR.out)
   have HNB5 := hid ((HBR.out.block _ (block_lt HNB.out)).trans HNB.out)
   have HCC' := hid (cell_later HBR.out HCC.out); have HCE' := hid (cell_later HBR.out HCE.out)
   have HSE' := hid (HSE.out.below HBR.out)
   have HQO : Hid (RqV.ok wr { major := j0, minor := j1, max := n2, opt := n3, its := s, items := lq }) := ⟨HO.out.sl (Nat.le_trans (Nat.le_of_eq HSK.out) (by omega)), HO.out.ok⟩
   have HQL : Hid ((RqV.rq { major := j0, minor := j1, max := n2, opt := n3, its := s, items := lq }).items.length = s.n) := by show (lq.map RqIV.rq).length = s.n; rw [List.length_map]; exact HO.out.len
   rw [HQL.out] at HEQ
   have HSB2 : Hid (∀ k ∈ s.blk, z4 ≤ k) := blk_own HO.out.own
   clear HRI HRI2 HRV HRE HCC HCE HSE HSm HAm HMm HBR HBW HO HQL HKN
   go_upto_region 25 with (fail)
   clear hcm
   by_cases hg1 : 0 < sc.n
   ·have hy1 : y1.isEmpty = false := by cases y1 with
     | nil => have := HNC.out; simp at this; omega
     | cons _ _ => rfl
    have HY1 := hid hy1
    clear hy1
    by_cases hlt1 : n2 < 1
    ·have HE : Hid (readV v.it = .error 4) := by
      show _ = _
      rw [HEQ.out, HY1.out, if_pos]
      show (!false && decide (n2 < 1) || _ || _) = true
      simp [hlt1]
     have HG1 := hid hg1; have HLT := hid hlt1
     clear hg1 hlt1
     refine wp_region_each 25 [.eq (.slice (some ⟨gh, 0, none⟩) 5 ch), .eq (.pointer (some ⟨gh, 1, none⟩)), .eq (.slice sc.a sc.n sc.c), .eq (.int .i64 (sc.n : Int)), .eq (.bool true), .eq (.bool true), .eq (.pointer (some ⟨p, 2, none⟩)), .eq (.int .i64 n2), .eq (.bool true), .eq (.bool true), .eq (.bool true), .eq undef, .eq undef, .eq undef, .eq undef, .eq undef, .eq undef, .eq undef, .eq undef, .eq (.bool true), .eq (.bool true), .eq undef, .eq undef, .eq undef, .eq (.bool true)] (by kernel_rfl) (by kernel_rfl) (by kernel_rfl) (by kernel_rfl) ?_ ?_
     ·all_goals
       refine each_5 ?_ ?_ ?_ ?_ ?_ (each_5 ?_ ?_ ?_ ?_ ?_ (each_5 ?_ ?_ ?_ ?_ ?_ (each_5 ?_ ?_ ?_ ?_ ?_ (each_5 ?_ ?_ ?_ ?_ ?_ (each_n)))))
       ·intro w1 hg Ar seen
        have s7 := seen.sl 7 (.slice (some ⟨gh, 0, none⟩) 5 ch)
        refine does_plain rfl fun K Q' hK => ?_
        go_simp; exact hK _ _ (Grow.refl _) rfl
       ·intro w1 hg Ar seen
        have e0 := seen.de 0 129
        refine does_plain rfl fun K Q' hK => ?_
        go_simp; exact hK _ _ (Grow.refl _) rfl
       ·intro w1 hg Ar seen
        have e1 := seen.de 1 130
        refine does_plain rfl fun K Q' hK => ?_
        have hc := cell_later hg HCC'.out
        go_simp; exact hK _ _ (Grow.refl _) rfl
       ·intro w1 hg Ar seen
        have e2 := seen.de 2 131
        refine does_plain rfl fun K Q' hK => ?_
        go_simp; exact hK _ _ (Grow.refl _) rfl
       ·intro w1 hg Ar seen
        have e3 := seen.de 3 132
        refine does_plain rfl fun K Q' hK => ?_
        have hz := HG1.out
        go_simp; exact hK _ _ (Grow.refl _) rfl
       ·intro w1 hg Ar seen
        have e4 := seen.de 4 133
        refine does_plain rfl fun K Q' hK => ?_
        go_simp; exact hK _ _ (Grow.refl _) rfl
       ·intro w1 hg Ar seen
        have e5 := seen.de 5 134
        have s8 := seen.sl 8 (.pointer (some ⟨p, 0, none⟩))
        refine does_on rfl (by kernel_rfl) e5 fun K Q' hK => ?_
        clear e5
        go_simp; exact hK _ _ (Grow.refl _) rfl
       ·intro w1 hg Ar seen
        have e6 := seen.de 6 135
        have e5 := seen.de 5 134
        refine does_on rfl (by kernel_rfl) e5 fun K Q' hK => ?_
        clear e5
        have hc := cell_of_block (j := 2) ((hg.block _ (block_lt HPB.out)).trans HPB.out) (qr2 _)
        go_simp; exact hK _ _ (Grow.refl _) rfl
       ·intro w1 hg Ar seen
        have e7 := seen.de 7 136
        have e5 := seen.de 5 134
        refine does_on rfl (by kernel_rfl) e5 fun K Q' hK => ?_
        clear e5
        have hz := HLT.out
        go_simp; exact hK _ _ (Grow.refl _) rfl
       ·intro w1 hg Ar seen
        have e5 := seen.de 5 134
        have e8 := seen.de 8 137
        refine does_plain rfl fun K Q' hK => ?_
        go_simp; exact hK _ _ (Grow.refl _) rfl
       ·intro w1 hg Ar seen
        have e9 := seen.de 9 138
        refine does_plain rfl fun K Q' hK => ?_
        go_simp; exact hK _ _ (Grow.refl _) rfl
       ·intro w1 hg Ar seen
        have e10 := seen.de 10 139
        exact does_off rfl (by kernel_rfl) e10 ne_tf (Grow.refl _) rfl
       ·intro w1 hg Ar seen
        have e10 := seen.de 10 139
        exact does_off rfl (by kernel_rfl) e10 ne_tf (Grow.refl _) rfl
       ·intro w1 hg Ar seen
        have e10 := seen.de 10 139
        exact does_off rfl (by kernel_rfl) e10 ne_tf (Grow.refl _) rfl
       ·intro w1 hg Ar seen
        have e10 := seen.de 10 139
        exact does_off rfl (by kernel_rfl) e10 ne_tf (Grow.refl _) rfl
       ·intro w1 hg Ar seen
        have e10 := seen.de 10 139
        exact does_off rfl (by kernel_rfl) e10 ne_tf (Grow.refl _) rfl
       ·intro w1 hg Ar seen
        have e10 := seen.de 10 139
        exact does_off rfl (by kernel_rfl) e10 ne_tf (Grow.refl _) rfl
       ·intro w1 hg Ar seen
        have e10 := seen.de 10 139
        exact does_off rfl (by kernel_rfl) e10 ne_tf (Grow.refl _) rfl
       ·intro w1 hg Ar seen
        have e10 := seen.de 10 139
        exact does_off rfl (by kernel_rfl) e10 ne_tf (Grow.refl _) rfl
       ·intro w1 hg Ar seen
        have e10 := seen.de 10 139
        have e18 := seen.de 18 147
        refine does_plain rfl fun K Q' hK => ?_
        go_simp; exact hK _ _ (Grow.refl _) rfl
       ·intro w1 hg Ar seen
        have e19 := seen.de 19 148
        refine does_plain rfl fun K Q' hK => ?_
        go_simp; exact hK _ _ (Grow.refl _) rfl
       ·intro w1 hg Ar seen
        have e20 := seen.de 20 149
        exact does_off rfl (by kernel_rfl) e20 ne_tf (Grow.refl _) rfl
       ·intro w1 hg Ar seen
        have e20 := seen.de 20 149
        exact does_off rfl (by kernel_rfl) e20 ne_tf (Grow.refl _) rfl
       ·intro w1 hg Ar seen
        have e20 := seen.de 20 149
        exact does_off rfl (by kernel_rfl) e20 ne_tf (Grow.refl _) rfl
       ·intro w1 hg Ar seen
        have e20 := seen.de 20 149
        have e23 := seen.de 23 152
        refine does_plain rfl fun K Q' hK => ?_
        go_simp; exact hK _ _ (Grow.refl _) rfl
     intro w1 hg
     refine upon_w' (js := [0, 1, 2, 3, 4, 5, 6, 7, 8, 9, 10, 11, 12, 13, 14, 15, 16, 17, 18, 19, 20, 21, 22, 23, 24]) (by rfl) ?_
     refine upon_e (some 129) (upon_e (some 130) (upon_e (some 131) (upon_e (some 132) (upon_e (some 133) (upon_e (some 134) (upon_e (some 135) (upon_e (some 136) (upon_e (some 137) (upon_e (some 138) (upon_e (some 139) (upon_e (some 140) (upon_e (some 141) (upon_e (some 142) (upon_e (some 143) (upon_e (some 144) (upon_e (some 145) (upon_e (some 146) (upon_e (some 147) (upon_e (some 148) (upon_e (some 149) (upon_e (some 150) (upon_e (some 151) (upon_e (some 152) (upon_e (some 153) (upon_n ?_)))))))))))))))))))))))))
     go_simp
     have HB2 := hid (HB.out.below hg)
     have HNB6 := hid ((hg.block _ (block_lt HNB5.out)).trans HNB5.out)
     clear hg
     go_wp2_with (first | (refine wpList_load_row rfl 32 _ rfl nb rfl _ _ _ _ HNB6.out Tryd.underlying32 rfl vSize ?_) | (refine wpList_store_obj rfl 32 _ _ rfl (b + 1) rfl rvZ.arr rfl _ _ HB2.out.res rfl vSize (varr_one _) ?_; intro w10 hb10 hc10 hs10; have HB10 := hid hb10; have HC10 := hid hc10; clear hb10 hc10 hs10))
     refine bodyPost_ret (results_cell_tmp rfl _ _ (b + 1) _ _ _ _ rfl HB10.out Tryd.underlying32 rfl vSize _ rfl) rfl ?_
     rw [HE.out]
     exact ⟨rfl, by rw [HBE.out]; exact HB2.out.done HC10.out⟩
    ·have HG1 := hid hg1; have HLT := hid hlt1
     clear hg1
     by_cases hne : n4 = (s.n : Int)
     ·cases hR : rightV (RqV.rq { major := j0, minor := j1, max := n2, opt := n3, its := s, items := lq }) with
      | true =>
       have HE : Hid (readV v.it = .ok (RqV.rq { major := j0, minor := j1, max := n2, opt := n3, its := s, items := lq })) := by
        show _ = _
        rw [HEQ.out, HY1.out, hR, if_neg]
        show ¬ ((!false && decide (n2 < 1)) || (n4 != (s.n : Int)) || !true) = true
        simp [hne, hlt1]
       have HNE : Hid ((n4 != (s.n : Int)) = false) := by show _ = _; simp [hne]
       have HRR := hid hR
       clear hne hR hlt1
       refine wp_region_each 25 [.eq (.slice (some ⟨gh, 0, none⟩) 5 ch), .eq (.pointer (some ⟨gh, 1, none⟩)), .eq (.slice sc.a sc.n sc.c), .eq (.int .i64 (sc.n : Int)), .eq (.bool true), .eq (.bool true), .eq (.pointer (some ⟨p, 2, none⟩)), .eq (.int .i64 n2), .eq (.bool false), .eq (.bool false), .eq (.bool false), .eq (.slice (some ⟨gh, 0, none⟩) 5 ch), .eq (.pointer (some ⟨gh, 4, none⟩)), .eq (.slice se.a se.n se.c), .eq (.int .i64 n4), .eq (.pointer (some ⟨p, 4, none⟩)), .eq (.slice s.a s.n s.c), .eq (.int .i64 (s.n : Int)), .eq (.bool false), .eq (.bool false), .eq (.bool false), .eq (.agg (RqV.arr { major := j0, minor := j1, max := n2, opt := n3, its := s, items := lq })), .eq (.bool true), .eq (.bool false), .eq (.bool false)] (by kernel_rfl) (by kernel_rfl) (by kernel_rfl) (by kernel_rfl) ?_ ?_
       ·all_goals
         refine each_5 ?_ ?_ ?_ ?_ ?_ (each_5 ?_ ?_ ?_ ?_ ?_ (each_5 ?_ ?_ ?_ ?_ ?_ (each_5 ?_ ?_ ?_ ?_ ?_ (each_5 ?_ ?_ ?_ ?_ ?_ (each_n)))))
         ·intro w1 hg Ar seen
          have s7 := seen.sl 7 (.slice (some ⟨gh, 0, none⟩) 5 ch)
          refine does_plain rfl fun K Q' hK => ?_
          go_simp; exact hK _ _ (Grow.refl _) rfl
         ·intro w1 hg Ar seen
          have e0 := seen.de 0 129
          refine does_plain rfl fun K Q' hK => ?_
          go_simp; exact hK _ _ (Grow.refl _) rfl
         ·intro w1 hg Ar seen
          have e1 := seen.de 1 130
          refine does_plain rfl fun K Q' hK => ?_
          have hc := cell_later hg HCC'.out
          go_simp; exact hK _ _ (Grow.refl _) rfl
         ·intro w1 hg Ar seen
          have e2 := seen.de 2 131
          refine does_plain rfl fun K Q' hK => ?_
          go_simp; exact hK _ _ (Grow.refl _) rfl
         ·intro w1 hg Ar seen
          have e3 := seen.de 3 132
          refine does_plain rfl fun K Q' hK => ?_
          have hz := HG1.out
          go_simp; exact hK _ _ (Grow.refl _) rfl
         ·intro w1 hg Ar seen
          have e4 := seen.de 4 133
          refine does_plain rfl fun K Q' hK => ?_
          go_simp; exact hK _ _ (Grow.refl _) rfl
         ·intro w1 hg Ar seen
          have e5 := seen.de 5 134
          have s8 := seen.sl 8 (.pointer (some ⟨p, 0, none⟩))
          refine does_on rfl (by kernel_rfl) e5 fun K Q' hK => ?_
          clear e5
          go_simp; exact hK _ _ (Grow.refl _) rfl
         ·intro w1 hg Ar seen
          have e6 := seen.de 6 135
          have e5 := seen.de 5 134
          refine does_on rfl (by kernel_rfl) e5 fun K Q' hK => ?_
          clear e5
          have hc := cell_of_block (j := 2) ((hg.block _ (block_lt HPB.out)).trans HPB.out) (qr2 _)
          go_simp; exact hK _ _ (Grow.refl _) rfl
         ·intro w1 hg Ar seen
          have e7 := seen.de 7 136
          have e5 := seen.de 5 134
          refine does_on rfl (by kernel_rfl) e5 fun K Q' hK => ?_
          clear e5
          have hz := HLT.out
          go_simp; exact hK _ _ (Grow.refl _) rfl
         ·intro w1 hg Ar seen
          have e5 := seen.de 5 134
          have e8 := seen.de 8 137
          refine does_plain rfl fun K Q' hK => ?_
          go_simp; exact hK _ _ (Grow.refl _) rfl
         ·intro w1 hg Ar seen
          have e9 := seen.de 9 138
          refine does_plain rfl fun K Q' hK => ?_
          go_simp; exact hK _ _ (Grow.refl _) rfl
         ·intro w1 hg Ar seen
          have e10 := seen.de 10 139
          have s7 := seen.sl 7 (.slice (some ⟨gh, 0, none⟩) 5 ch)
          refine does_on rfl (by kernel_rfl) e10 fun K Q' hK => ?_
          clear e10
          go_simp; exact hK _ _ (Grow.refl _) rfl
         ·intro w1 hg Ar seen
          have e11 := seen.de 11 140
          have e10 := seen.de 10 139
          refine does_on rfl (by kernel_rfl) e10 fun K Q' hK => ?_
          clear e10
          go_simp; exact hK _ _ (Grow.refl _) rfl
         ·intro w1 hg Ar seen
          have e12 := seen.de 12 141
          have e10 := seen.de 10 139
          refine does_on rfl (by kernel_rfl) e10 fun K Q' hK => ?_
          clear e10
          have hc := cell_later hg HCE'.out
          go_simp; exact hK _ _ (Grow.refl _) rfl
         ·intro w1 hg Ar seen
          have e13 := seen.de 13 142
          have e10 := seen.de 10 139
          refine does_on rfl (by kernel_rfl) e10 fun K Q' hK => ?_
          clear e10
          go_simp
          refine (rnumber_any se le 0 _ (HSE'.out.below hg)).mono ?_
          rintro e u ⟨rfl, rfl⟩
          exact hK _ _ (Grow.refl _) (by rw [En4.out]; rfl)
         ·intro w1 hg Ar seen
          have e10 := seen.de 10 139
          have s8 := seen.sl 8 (.pointer (some ⟨p, 0, none⟩))
          refine does_on rfl (by kernel_rfl) e10 fun K Q' hK => ?_
          clear e10
          go_simp; exact hK _ _ (Grow.refl _) rfl
         ·intro w1 hg Ar seen
          have e15 := seen.de 15 144
          have e10 := seen.de 10 139
          refine does_on rfl (by kernel_rfl) e10 fun K Q' hK => ?_
          clear e10
          have hc := cell_of_block (j := 4) ((hg.block _ (block_lt HPB.out)).trans HPB.out) (qr4 _)
          go_simp; exact hK _ _ (Grow.refl _) rfl
         ·intro w1 hg Ar seen
          have e16 := seen.de 16 145
          have e10 := seen.de 10 139
          refine does_on rfl (by kernel_rfl) e10 fun K Q' hK => ?_
          clear e10
          go_simp; exact hK _ _ (Grow.refl _) rfl
         ·intro w1 hg Ar seen
          have e14 := seen.de 14 143
          have e17 := seen.de 17 146
          have e10 := seen.de 10 139
          refine does_on rfl (by kernel_rfl) e10 fun K Q' hK => ?_
          clear e10
          have hz := HNE.out
          go_simp; exact hK _ _ (Grow.refl _) rfl
         ·intro w1 hg Ar seen
          have e10 := seen.de 10 139
          have e18 := seen.de 18 147
          refine does_plain rfl fun K Q' hK => ?_
          go_simp; exact hK _ _ (Grow.refl _) rfl
         ·intro w1 hg Ar seen
          have e19 := seen.de 19 148
          refine does_plain rfl fun K Q' hK => ?_
          go_simp; exact hK _ _ (Grow.refl _) rfl
         ·intro w1 hg Ar seen
          have e20 := seen.de 20 149
          have s8 := seen.sl 8 (.pointer (some ⟨p, 0, none⟩))
          refine does_on rfl (by kernel_rfl) e20 fun K Q' hK => ?_
          clear e20
          refine wp_load_row 32 _ rfl p (by simp [Act.eval, s8]) _ _ _ _ ((hg.block _ (block_lt HPB.out)).trans HPB.out) Tryd.underlying32 rfl vSize ?_
          exact hK _ _ (Grow.refl _) rfl
         ·intro w1 hg Ar seen
          have e21 := seen.de 21 150
          have e20 := seen.de 20 149
          refine does_on rfl (by kernel_rfl) e20 fun K Q' hK => ?_
          clear e20
          go_simp
          refine (rightR_any _ _ (HQO.out.below hg)).mono ?_
          rintro e u ⟨rfl, hb⟩
          exact hK _ _ hb (by rw [HRR.out]; rfl)
         ·intro w1 hg Ar seen
          have e22 := seen.de 22 151
          have e20 := seen.de 20 149
          refine does_on rfl (by kernel_rfl) e20 fun K Q' hK => ?_
          clear e20
          go_simp; exact hK _ _ (Grow.refl _) rfl
         ·intro w1 hg Ar seen
          have e20 := seen.de 20 149
          have e23 := seen.de 23 152
          refine does_plain rfl fun K Q' hK => ?_
          go_simp; exact hK _ _ (Grow.refl _) rfl
       intro w1 hg
       refine upon_w' (js := [0, 1, 2, 3, 4, 5, 6, 7, 8, 9, 10, 11, 12, 13, 14, 15, 16, 17, 18, 19, 20, 21, 22, 23, 24]) (by rfl) ?_
       refine upon_e (some 129) (upon_e (some 130) (upon_e (some 131) (upon_e (some 132) (upon_e (some 133) (upon_e (some 134) (upon_e (some 135) (upon_e (some 136) (upon_e (some 137) (upon_e (some 138) (upon_e (some 139) (upon_e (some 140) (upon_e (some 141) (upon_e (some 142) (upon_e (some 143) (upon_e (some 144) (upon_e (some 145) (upon_e (some 146) (upon_e (some 147) (upon_e (some 148) (upon_e (some 149) (upon_e (some 150) (upon_e (some 151) (upon_e (some 152) (upon_e (some 153) (upon_n ?_)))))))))))))))))))))))))
       go_simp
       have HB2 := hid (HB.out.below hg)
       have HQO2 := hid (HQO.out.below hg)
       have HPB2 := hid ((hg.block _ (block_lt HPB.out)).trans HPB.out)
       clear hg
       go_wp2_with (first | (refine wpList_load_row rfl 32 _ rfl p rfl _ _ _ _ HPB2.out Tryd.underlying32 rfl vSize ?_) | (refine wpList_store_obj rfl 32 _ _ rfl (b + 1) rfl (RqV.arr { major := j0, minor := j1, max := n2, opt := n3, its := s, items := lq }) rfl _ _ HB2.out.res rfl vSize (varr_one _) ?_; intro w10 hb10 hc10 hs10; have HB10 := hid hb10; have HC10 := hid hc10; clear hb10 hc10 hs10))
       refine bodyPost_ret (results_cell_tmp rfl _ _ (b + 1) _ _ _ _ rfl HB10.out Tryd.underlying32 rfl vSize _ rfl) rfl ?_
       rw [HE.out]
       refine ⟨_, rfl, rfl, ⟨HQO2.out.its.keep HC10.out (fun k hk hm => by have := List.mem_singleton.1 hm; have := HSB2.out k hk; have := HPZ.out; have := HZP.out; have := HBZ.out; omega), fun x hx => RqIV.ok.keep HC10.out (HQO2.out.each x hx) (fun k hk hm => by have h1 := HPF.out x hx k hk; have h2 := List.mem_singleton.1 hm; omega)⟩, by rw [HBE.out]; exact HB2.out.done HC10.out⟩
      | false =>
       have HE : Hid (readV v.it = .error 4) := by
        show _ = _
        rw [HEQ.out, hR, if_pos]
        simp
       have HNE : Hid ((n4 != (s.n : Int)) = false) := by show _ = _; simp [hne]
       have HRR := hid hR
       clear hne hR hlt1
       refine wp_region_each 25 [.eq (.slice (some ⟨gh, 0, none⟩) 5 ch), .eq (.pointer (some ⟨gh, 1, none⟩)), .eq (.slice sc.a sc.n sc.c), .eq (.int .i64 (sc.n : Int)), .eq (.bool true), .eq (.bool true), .eq (.pointer (some ⟨p, 2, none⟩)), .eq (.int .i64 n2), .eq (.bool false), .eq (.bool false), .eq (.bool false), .eq (.slice (some ⟨gh, 0, none⟩) 5 ch), .eq (.pointer (some ⟨gh, 4, none⟩)), .eq (.slice se.a se.n se.c), .eq (.int .i64 n4), .eq (.pointer (some ⟨p, 4, none⟩)), .eq (.slice s.a s.n s.c), .eq (.int .i64 (s.n : Int)), .eq (.bool false), .eq (.bool false), .eq (.bool false), .eq (.agg (RqV.arr { major := j0, minor := j1, max := n2, opt := n3, its := s, items := lq })), .eq (.bool false), .eq (.bool true), .eq (.bool true)] (by kernel_rfl) (by kernel_rfl) (by kernel_rfl) (by kernel_rfl) ?_ ?_
       ·all_goals
         refine each_5 ?_ ?_ ?_ ?_ ?_ (each_5 ?_ ?_ ?_ ?_ ?_ (each_5 ?_ ?_ ?_ ?_ ?_ (each_5 ?_ ?_ ?_ ?_ ?_ (each_5 ?_ ?_ ?_ ?_ ?_ (each_n)))))
         ·intro w1 hg Ar seen
          have s7 := seen.sl 7 (.slice (some ⟨gh, 0, none⟩) 5 ch)
          refine does_plain rfl fun K Q' hK => ?_
          go_simp; exact hK _ _ (Grow.refl _) rfl
         ·intro w1 hg Ar seen
          have e0 := seen.de 0 129
          refine does_plain rfl fun K Q' hK => ?_
          go_simp; exact hK _ _ (Grow.refl _) rfl
         ·intro w1 hg Ar seen
          have e1 := seen.de 1 130
          refine does_plain rfl fun K Q' hK => ?_
          have hc := cell_later hg HCC'.out
          go_simp; exact hK _ _ (Grow.refl _) rfl
         ·intro w1 hg Ar seen
          have e2 := seen.de 2 131
          refine does_plain rfl fun K Q' hK => ?_
          go_simp; exact hK _ _ (Grow.refl _) rfl
         ·intro w1 hg Ar seen
          have e3 := seen.de 3 132
          refine does_plain rfl fun K Q' hK => ?_
          have hz := HG1.out
          go_simp; exact hK _ _ (Grow.refl _) rfl
         ·intro w1 hg Ar seen
          have e4 := seen.de 4 133
          refine does_plain rfl fun K Q' hK => ?_
          go_simp; exact hK _ _ (Grow.refl _) rfl
         ·intro w1 hg Ar seen
          have e5 := seen.de 5 134
          have s8 := seen.sl 8 (.pointer (some ⟨p, 0, none⟩))
          refine does_on rfl (by kernel_rfl) e5 fun K Q' hK => ?_
          clear e5
          go_simp; exact hK _ _ (Grow.refl _) rfl
         ·intro w1 hg Ar seen
          have e6 := seen.de 6 135
          have e5 := seen.de 5 134
          refine does_on rfl (by kernel_rfl) e5 fun K Q' hK => ?_
          clear e5
          have hc := cell_of_block (j := 2) ((hg.block _ (block_lt HPB.out)).trans HPB.out) (qr2 _)
          go_simp; exact hK _ _ (Grow.refl _) rfl
         ·intro w1 hg Ar seen
          have e7 := seen.de 7 136
          have e5 := seen.de 5 134
          refine does_on rfl (by kernel_rfl) e5 fun K Q' hK => ?_
          clear e5
          have hz := HLT.out
          go_simp; exact hK _ _ (Grow.refl _) rfl
         ·intro w1 hg Ar seen
          have e5 := seen.de 5 134
          have e8 := seen.de 8 137
          refine does_plain rfl fun K Q' hK => ?_
          go_simp; exact hK _ _ (Grow.refl _) rfl
         ·intro w1 hg Ar seen
          have e9 := seen.de 9 138
          refine does_plain rfl fun K Q' hK => ?_
          go_simp; exact hK _ _ (Grow.refl _) rfl
         ·intro w1 hg Ar seen
          have e10 := seen.de 10 139
          have s7 := seen.sl 7 (.slice (some ⟨gh, 0, none⟩) 5 ch)
          refine does_on rfl (by kernel_rfl) e10 fun K Q' hK => ?_
          clear e10
          go_simp; exact hK _ _ (Grow.refl _) rfl
         ·intro w1 hg Ar seen
          have e11 := seen.de 11 140
          have e10 := seen.de 10 139
          refine does_on rfl (by kernel_rfl) e10 fun K Q' hK => ?_
          clear e10
          go_simp; exact hK _ _ (Grow.refl _) rfl
         ·intro w1 hg Ar seen
          have e12 := seen.de 12 141
          have e10 := seen.de 10 139
          refine does_on rfl (by kernel_rfl) e10 fun K Q' hK => ?_
          clear e10
          have hc := cell_later hg HCE'.out
          go_simp; exact hK _ _ (Grow.refl _) rfl
         ·intro w1 hg Ar seen
          have e13 := seen.de 13 142
          have e10 := seen.de 10 139
          refine does_on rfl (by kernel_rfl) e10 fun K Q' hK => ?_
          clear e10
          go_simp
          refine (rnumber_any se le 0 _ (HSE'.out.below hg)).mono ?_
          rintro e u ⟨rfl, rfl⟩
          exact hK _ _ (Grow.refl _) (by rw [En4.out]; rfl)
         ·intro w1 hg Ar seen
          have e10 := seen.de 10 139
          have s8 := seen.sl 8 (.pointer (some ⟨p, 0, none⟩))
          refine does_on rfl (by kernel_rfl) e10 fun K Q' hK => ?_
          clear e10
          go_simp; exact hK _ _ (Grow.refl _) rfl
         ·intro w1 hg Ar seen
          have e15 := seen.de 15 144
          have e10 := seen.de 10 139
          refine does_on rfl (by kernel_rfl) e10 fun K Q' hK => ?_
          clear e10
          have hc := cell_of_block (j := 4) ((hg.block _ (block_lt HPB.out)).trans HPB.out) (qr4 _)
          go_simp; exact hK _ _ (Grow.refl _) rfl
         ·intro w1 hg Ar seen
          have e16 := seen.de 16 145
          have e10 := seen.de 10 139
          refine does_on rfl (by kernel_rfl) e10 fun K Q' hK => ?_
          clear e10
          go_simp; exact hK _ _ (Grow.refl _) rfl
         ·intro w1 hg Ar seen
          have e14 := seen.de 14 143
          have e17 := seen.de 17 146
          have e10 := seen.de 10 139
          refine does_on rfl (by kernel_rfl) e10 fun K Q' hK => ?_
          clear e10
          have hz := HNE.out
          go_simp; exact hK _ _ (Grow.refl _) rfl
         ·intro w1 hg Ar seen
          have e10 := seen.de 10 139
          have e18 := seen.de 18 147
          refine does_plain rfl fun K Q' hK => ?_
          go_simp; exact hK _ _ (Grow.refl _) rfl
         ·intro w1 hg Ar seen
          have e19 := seen.de 19 148
          refine does_plain rfl fun K Q' hK => ?_
          go_simp; exact hK _ _ (Grow.refl _) rfl
         ·intro w1 hg Ar seen
          have e20 := seen.de 20 149
          have s8 := seen.sl 8 (.pointer (some ⟨p, 0, none⟩))
          refine does_on rfl (by kernel_rfl) e20 fun K Q' hK => ?_
          clear e20
          refine wp_load_row 32 _ rfl p (by simp [Act.eval, s8]) _ _ _ _ ((hg.block _ (block_lt HPB.out)).trans HPB.out) Tryd.underlying32 rfl vSize ?_
          exact hK _ _ (Grow.refl _) rfl
         ·intro w1 hg Ar seen
          have e21 := seen.de 21 150
          have e20 := seen.de 20 149
          refine does_on rfl (by kernel_rfl) e20 fun K Q' hK => ?_
          clear e20
          go_simp
          refine (rightR_any _ _ (HQO.out.below hg)).mono ?_
          rintro e u ⟨rfl, hb⟩
          exact hK _ _ hb (by rw [HRR.out]; rfl)
         ·intro w1 hg Ar seen
          have e22 := seen.de 22 151
          have e20 := seen.de 20 149
          refine does_on rfl (by kernel_rfl) e20 fun K Q' hK => ?_
          clear e20
          go_simp; exact hK _ _ (Grow.refl _) rfl
         ·intro w1 hg Ar seen
          have e20 := seen.de 20 149
          have e23 := seen.de 23 152
          refine does_plain rfl fun K Q' hK => ?_
          go_simp; exact hK _ _ (Grow.refl _) rfl
       intro w1 hg
       refine upon_w' (js := [0, 1, 2, 3, 4, 5, 6, 7, 8, 9, 10, 11, 12, 13, 14, 15, 16, 17, 18, 19, 20, 21, 22, 23, 24]) (by rfl) ?_
       refine upon_e (some 129) (upon_e (some 130) (upon_e (some 131) (upon_e (some 132) (upon_e (some 133) (upon_e (some 134) (upon_e (some 135) (upon_e (some 136) (upon_e (some 137) (upon_e (some 138) (upon_e (some 139) (upon_e (some 140) (upon_e (some 141) (upon_e (some 142) (upon_e (some 143) (upon_e (some 144) (upon_e (some 145) (upon_e (some 146) (upon_e (some 147) (upon_e (some 148) (upon_e (some 149) (upon_e (some 150) (upon_e (some 151) (upon_e (some 152) (upon_e (some 153) (upon_n ?_)))))))))))))))))))))))))
       go_simp
       have HB2 := hid (HB.out.below hg)
       have HNB6 := hid ((hg.block _ (block_lt HNB5.out)).trans HNB5.out)
       clear hg
       go_wp2_with (first | (refine wpList_load_row rfl 32 _ rfl nb rfl _ _ _ _ HNB6.out Tryd.underlying32 rfl vSize ?_) | (refine wpList_store_obj rfl 32 _ _ rfl (b + 1) rfl rvZ.arr rfl _ _ HB2.out.res rfl vSize (varr_one _) ?_; intro w10 hb10 hc10 hs10; have HB10 := hid hb10; have HC10 := hid hc10; clear hb10 hc10 hs10))
       refine bodyPost_ret (results_cell_tmp rfl _ _ (b + 1) _ _ _ _ rfl HB10.out Tryd.underlying32 rfl vSize _ rfl) rfl ?_
       rw [HE.out]
       exact ⟨rfl, by rw [HBE.out]; exact HB2.out.done HC10.out⟩
     ·have HE : Hid (readV v.it = .error 4) := by
       show _ = _
       rw [HEQ.out, if_pos]
       have : (n4 != (s.n : Int)) = true := by simpa using hne
       rw [this]; simp
      have HNE : Hid ((n4 != (s.n : Int)) = true) := by show _ = _; simpa using hne
      clear hne hlt1
      refine wp_region_each 25 [.eq (.slice (some ⟨gh, 0, none⟩) 5 ch), .eq (.pointer (some ⟨gh, 1, none⟩)), .eq (.slice sc.a sc.n sc.c), .eq (.int .i64 (sc.n : Int)), .eq (.bool true), .eq (.bool true), .eq (.pointer (some ⟨p, 2, none⟩)), .eq (.int .i64 n2), .eq (.bool false), .eq (.bool false), .eq (.bool false), .eq (.slice (some ⟨gh, 0, none⟩) 5 ch), .eq (.pointer (some ⟨gh, 4, none⟩)), .eq (.slice se.a se.n se.c), .eq (.int .i64 n4), .eq (.pointer (some ⟨p, 4, none⟩)), .eq (.slice s.a s.n s.c), .eq (.int .i64 (s.n : Int)), .eq (.bool true), .eq (.bool true), .eq (.bool true), .eq undef, .eq undef, .eq undef, .eq (.bool true)] (by kernel_rfl) (by kernel_rfl) (by kernel_rfl) (by kernel_rfl) ?_ ?_
      ·all_goals
        refine each_5 ?_ ?_ ?_ ?_ ?_ (each_5 ?_ ?_ ?_ ?_ ?_ (each_5 ?_ ?_ ?_ ?_ ?_ (each_5 ?_ ?_ ?_ ?_ ?_ (each_5 ?_ ?_ ?_ ?_ ?_ (each_n)))))
        ·intro w1 hg Ar seen
         have s7 := seen.sl 7 (.slice (some ⟨gh, 0, none⟩) 5 ch)
         refine does_plain rfl fun K Q' hK => ?_
         go_simp; exact hK _ _ (Grow.refl _) rfl
        ·intro w1 hg Ar seen
         have e0 := seen.de 0 129
         refine does_plain rfl fun K Q' hK => ?_
         go_simp; exact hK _ _ (Grow.refl _) rfl
        ·intro w1 hg Ar seen
         have e1 := seen.de 1 130
         refine does_plain rfl fun K Q' hK => ?_
         have hc := cell_later hg HCC'.out
         go_simp; exact hK _ _ (Grow.refl _) rfl
        ·intro w1 hg Ar seen
         have e2 := seen.de 2 131
         refine does_plain rfl fun K Q' hK => ?_
         go_simp; exact hK _ _ (Grow.refl _) rfl
        ·intro w1 hg Ar seen
         have e3 := seen.de 3 132
         refine does_plain rfl fun K Q' hK => ?_
         have hz := HG1.out
         go_simp; exact hK _ _ (Grow.refl _) rfl
        ·intro w1 hg Ar seen
         have e4 := seen.de 4 133
         refine does_plain rfl fun K Q' hK => ?_
         go_simp; exact hK _ _ (Grow.refl _) rfl
        ·intro w1 hg Ar seen
         have e5 := seen.de 5 134
         have s8 := seen.sl 8 (.pointer (some ⟨p, 0, none⟩))
         refine does_on rfl (by kernel_rfl) e5 fun K Q' hK => ?_
         clear e5
         go_simp; exact hK _ _ (Grow.refl _) rfl
        ·intro w1 hg Ar seen
         have e6 := seen.de 6 135
         have e5 := seen.de 5 134
         refine does_on rfl (by kernel_rfl) e5 fun K Q' hK => ?_
         clear e5
         have hc := cell_of_block (j := 2) ((hg.block _ (block_lt HPB.out)).trans HPB.out) (qr2 _)
         go_simp; exact hK _ _ (Grow.refl _) rfl
        ·intro w1 hg Ar seen
         have e7 := seen.de 7 136
         have e5 := seen.de 5 134
         refine does_on rfl (by kernel_rfl) e5 fun K Q' hK => ?_
         clear e5
         have hz := HLT.out
         go_simp; exact hK _ _ (Grow.refl _) rfl
        ·intro w1 hg Ar seen
         have e5 := seen.de 5 134
         have e8 := seen.de 8 137
         refine does_plain rfl fun K Q' hK => ?_
         go_simp; exact hK _ _ (Grow.refl _) rfl
        ·intro w1 hg Ar seen
         have e9 := seen.de 9 138
         refine does_plain rfl fun K Q' hK => ?_
         go_simp; exact hK _ _ (Grow.refl _) rfl
        ·intro w1 hg Ar seen
         have e10 := seen.de 10 139
         have s7 := seen.sl 7 (.slice (some ⟨gh, 0, none⟩) 5 ch)
         refine does_on rfl (by kernel_rfl) e10 fun K Q' hK => ?_
         clear e10
         go_simp; exact hK _ _ (Grow.refl _) rfl
        ·intro w1 hg Ar seen
         have e11 := seen.de 11 140
         have e10 := seen.de 10 139
         refine does_on rfl (by kernel_rfl) e10 fun K Q' hK => ?_
         clear e10
         go_simp; exact hK _ _ (Grow.refl _) rfl
        ·intro w1 hg Ar seen
         have e12 := seen.de 12 141
         have e10 := seen.de 10 139
         refine does_on rfl (by kernel_rfl) e10 fun K Q' hK => ?_
         clear e10
         have hc := cell_later hg HCE'.out
         go_simp; exact hK _ _ (Grow.refl _) rfl
        ·intro w1 hg Ar seen
         have e13 := seen.de 13 142
         have e10 := seen.de 10 139
         refine does_on rfl (by kernel_rfl) e10 fun K Q' hK => ?_
         clear e10
         go_simp
         refine (rnumber_any se le 0 _ (HSE'.out.below hg)).mono ?_
         rintro e u ⟨rfl, rfl⟩
         exact hK _ _ (Grow.refl _) (by rw [En4.out]; rfl)
        ·intro w1 hg Ar seen
         have e10 := seen.de 10 139
         have s8 := seen.sl 8 (.pointer (some ⟨p, 0, none⟩))
         refine does_on rfl (by kernel_rfl) e10 fun K Q' hK => ?_
         clear e10
         go_simp; exact hK _ _ (Grow.refl _) rfl
        ·intro w1 hg Ar seen
         have e15 := seen.de 15 144
         have e10 := seen.de 10 139
         refine does_on rfl (by kernel_rfl) e10 fun K Q' hK => ?_
         clear e10
         have hc := cell_of_block (j := 4) ((hg.block _ (block_lt HPB.out)).trans HPB.out) (qr4 _)
         go_simp; exact hK _ _ (Grow.refl _) rfl
        ·intro w1 hg Ar seen
         have e16 := seen.de 16 145
         have e10 := seen.de 10 139
         refine does_on rfl (by kernel_rfl) e10 fun K Q' hK => ?_
         clear e10
         go_simp; exact hK _ _ (Grow.refl _) rfl
        ·intro w1 hg Ar seen
         have e14 := seen.de 14 143
         have e17 := seen.de 17 146
         have e10 := seen.de 10 139
         refine does_on rfl (by kernel_rfl) e10 fun K Q' hK => ?_
         clear e10
         have hz := HNE.out
         go_simp; exact hK _ _ (Grow.refl _) rfl
        ·intro w1 hg Ar seen
         have e10 := seen.de 10 139
         have e18 := seen.de 18 147
         refine does_plain rfl fun K Q' hK => ?_
         go_simp; exact hK _ _ (Grow.refl _) rfl
        ·intro w1 hg Ar seen
         have e19 := seen.de 19 148
         refine does_plain rfl fun K Q' hK => ?_
         go_simp; exact hK _ _ (Grow.refl _) rfl
        ·intro w1 hg Ar seen
         have e20 := seen.de 20 149
         exact does_off rfl (by kernel_rfl) e20 ne_tf (Grow.refl _) rfl
        ·intro w1 hg Ar seen
         have e20 := seen.de 20 149
         exact does_off rfl (by kernel_rfl) e20 ne_tf (Grow.refl _) rfl
        ·intro w1 hg Ar seen
         have e20 := seen.de 20 149
         exact does_off rfl (by kernel_rfl) e20 ne_tf (Grow.refl _) rfl
        ·intro w1 hg Ar seen
         have e20 := seen.de 20 149
         have e23 := seen.de 23 152
         refine does_plain rfl fun K Q' hK => ?_
         go_simp; exact hK _ _ (Grow.refl _) rfl
      intro w1 hg
      refine upon_w' (js := [0, 1, 2, 3, 4, 5, 6, 7, 8, 9, 10, 11, 12, 13, 14, 15, 16, 17, 18, 19, 20, 21, 22, 23, 24]) (by rfl) ?_
      refine upon_e (some 129) (upon_e (some 130) (upon_e (some 131) (upon_e (some 132) (upon_e (some 133) (upon_e (some 134) (upon_e (some 135) (upon_e (some 136) (upon_e (some 137) (upon_e (some 138) (upon_e (some 139) (upon_e (some 140) (upon_e (some 141) (upon_e (some 142) (upon_e (some 143) (upon_e (some 144) (upon_e (some 145) (upon_e (some 146) (upon_e (some 147) (upon_e (some 148) (upon_e (some 149) (upon_e (some 150) (upon_e (some 151) (upon_e (some 152) (upon_e (some 153) (upon_n ?_)))))))))))))))))))))))))
      go_simp
      have HB2 := hid (HB.out.below hg)
      have HNB6 := hid ((hg.block _ (block_lt HNB5.out)).trans HNB5.out)
      clear hg
      go_wp2_with (first | (refine wpList_load_row rfl 32 _ rfl nb rfl _ _ _ _ HNB6.out Tryd.underlying32 rfl vSize ?_) | (refine wpList_store_obj rfl 32 _ _ rfl (b + 1) rfl rvZ.arr rfl _ _ HB2.out.res rfl vSize (varr_one _) ?_; intro w10 hb10 hc10 hs10; have HB10 := hid hb10; have HC10 := hid hc10; clear hb10 hc10 hs10))
      refine bodyPost_ret (results_cell_tmp rfl _ _ (b + 1) _ _ _ _ rfl HB10.out Tryd.underlying32 rfl vSize _ rfl) rfl ?_
      rw [HE.out]
      exact ⟨rfl, by rw [HBE.out]; exact HB2.out.done HC10.out⟩
   ·have hy1 : y1.isEmpty = true := by cases y1 with
     | nil => rfl
     | cons _ _ => have := HNC.out; simp at this; omega
    have HY1 := hid hy1; have HG1 := hid hg1
    clear hy1 hg1
    by_cases hne : n4 = (s.n : Int)
    ·cases hR : rightV (RqV.rq { major := j0, minor := j1, max := n2, opt := n3, its := s, items := lq }) with
     | true =>
      have HE : Hid (readV v.it = .ok (RqV.rq { major := j0, minor := j1, max := n2, opt := n3, its := s, items := lq })) := by
       show _ = _
       rw [HEQ.out, HY1.out, hR, if_neg]
       show ¬ ((!true && decide (n2 < 1)) || (n4 != (s.n : Int)) || !true) = true
       simp [hne]
      have HNE : Hid ((n4 != (s.n : Int)) = false) := by show _ = _; simp [hne]
      have HRR := hid hR
      clear hne hR
      refine wp_region_each 25 [.eq (.slice (some ⟨gh, 0, none⟩) 5 ch), .eq (.pointer (some ⟨gh, 1, none⟩)), .eq (.slice sc.a sc.n sc.c), .eq (.int .i64 (sc.n : Int)), .eq (.bool false), .eq (.bool false), .eq undef, .eq undef, .eq undef, .eq (.bool false), .eq (.bool false), .eq (.slice (some ⟨gh, 0, none⟩) 5 ch), .eq (.pointer (some ⟨gh, 4, none⟩)), .eq (.slice se.a se.n se.c), .eq (.int .i64 n4), .eq (.pointer (some ⟨p, 4, none⟩)), .eq (.slice s.a s.n s.c), .eq (.int .i64 (s.n : Int)), .eq (.bool false), .eq (.bool false), .eq (.bool false), .eq (.agg (RqV.arr { major := j0, minor := j1, max := n2, opt := n3, its := s, items := lq })), .eq (.bool true), .eq (.bool false), .eq (.bool false)] (by kernel_rfl) (by kernel_rfl) (by kernel_rfl) (by kernel_rfl) ?_ ?_
      ·all_goals
        refine each_5 ?_ ?_ ?_ ?_ ?_ (each_5 ?_ ?_ ?_ ?_ ?_ (each_5 ?_ ?_ ?_ ?_ ?_ (each_5 ?_ ?_ ?_ ?_ ?_ (each_5 ?_ ?_ ?_ ?_ ?_ (each_n)))))
        ·intro w1 hg Ar seen
         have s7 := seen.sl 7 (.slice (some ⟨gh, 0, none⟩) 5 ch)
         refine does_plain rfl fun K Q' hK => ?_
         go_simp; exact hK _ _ (Grow.refl _) rfl
        ·intro w1 hg Ar seen
         have e0 := seen.de 0 129
         refine does_plain rfl fun K Q' hK => ?_
         go_simp; exact hK _ _ (Grow.refl _) rfl
        ·intro w1 hg Ar seen
         have e1 := seen.de 1 130
         refine does_plain rfl fun K Q' hK => ?_
         have hc := cell_later hg HCC'.out
         go_simp; exact hK _ _ (Grow.refl _) rfl
        ·intro w1 hg Ar seen
         have e2 := seen.de 2 131
         refine does_plain rfl fun K Q' hK => ?_
         go_simp; exact hK _ _ (Grow.refl _) rfl
        ·intro w1 hg Ar seen
         have e3 := seen.de 3 132
         refine does_plain rfl fun K Q' hK => ?_
         have hz := HG1.out
         go_simp; exact hK _ _ (Grow.refl _) rfl
        ·intro w1 hg Ar seen
         have e4 := seen.de 4 133
         refine does_plain rfl fun K Q' hK => ?_
         go_simp; exact hK _ _ (Grow.refl _) rfl
        ·intro w1 hg Ar seen
         have e5 := seen.de 5 134
         exact does_off rfl (by kernel_rfl) e5 ne_ft (Grow.refl _) rfl
        ·intro w1 hg Ar seen
         have e5 := seen.de 5 134
         exact does_off rfl (by kernel_rfl) e5 ne_ft (Grow.refl _) rfl
        ·intro w1 hg Ar seen
         have e5 := seen.de 5 134
         exact does_off rfl (by kernel_rfl) e5 ne_ft (Grow.refl _) rfl
        ·intro w1 hg Ar seen
         have e5 := seen.de 5 134
         have e8 := seen.de 8 137
         refine does_plain rfl fun K Q' hK => ?_
         go_simp; exact hK _ _ (Grow.refl _) rfl
        ·intro w1 hg Ar seen
         have e9 := seen.de 9 138
         refine does_plain rfl fun K Q' hK => ?_
         go_simp; exact hK _ _ (Grow.refl _) rfl
        ·intro w1 hg Ar seen
         have e10 := seen.de 10 139
         have s7 := seen.sl 7 (.slice (some ⟨gh, 0, none⟩) 5 ch)
         refine does_on rfl (by kernel_rfl) e10 fun K Q' hK => ?_
         clear e10
         go_simp; exact hK _ _ (Grow.refl _) rfl
        ·intro w1 hg Ar seen
         have e11 := seen.de 11 140
         have e10 := seen.de 10 139
         refine does_on rfl (by kernel_rfl) e10 fun K Q' hK => ?_
         clear e10
         go_simp; exact hK _ _ (Grow.refl _) rfl
        ·intro w1 hg Ar seen
         have e12 := seen.de 12 141
         have e10 := seen.de 10 139
         refine does_on rfl (by kernel_rfl) e10 fun K Q' hK => ?_
         clear e10
         have hc := cell_later hg HCE'.out
         go_simp; exact hK _ _ (Grow.refl _) rfl
        ·intro w1 hg Ar seen
         have e13 := seen.de 13 142
         have e10 := seen.de 10 139
         refine does_on rfl (by kernel_rfl) e10 fun K Q' hK => ?_
         clear e10
         go_simp
         refine (rnumber_any se le 0 _ (HSE'.out.below hg)).mono ?_
         rintro e u ⟨rfl, rfl⟩
         exact hK _ _ (Grow.refl _) (by rw [En4.out]; rfl)
        ·intro w1 hg Ar seen
         have e10 := seen.de 10 139
         have s8 := seen.sl 8 (.pointer (some ⟨p, 0, none⟩))
         refine does_on rfl (by kernel_rfl) e10 fun K Q' hK => ?_
         clear e10
         go_simp; exact hK _ _ (Grow.refl _) rfl
        ·intro w1 hg Ar seen
         have e15 := seen.de 15 144
         have e10 := seen.de 10 139
         refine does_on rfl (by kernel_rfl) e10 fun K Q' hK => ?_
         clear e10
         have hc := cell_of_block (j := 4) ((hg.block _ (block_lt HPB.out)).trans HPB.out) (qr4 _)
         go_simp; exact hK _ _ (Grow.refl _) rfl
        ·intro w1 hg Ar seen
         have e16 := seen.de 16 145
         have e10 := seen.de 10 139
         refine does_on rfl (by kernel_rfl) e10 fun K Q' hK => ?_
         clear e10
         go_simp; exact hK _ _ (Grow.refl _) rfl
        ·intro w1 hg Ar seen
         have e14 := seen.de 14 143
         have e17 := seen.de 17 146
         have e10 := seen.de 10 139
         refine does_on rfl (by kernel_rfl) e10 fun K Q' hK => ?_
         clear e10
         have hz := HNE.out
         go_simp; exact hK _ _ (Grow.refl _) rfl
        ·intro w1 hg Ar seen
         have e10 := seen.de 10 139
         have e18 := seen.de 18 147
         refine does_plain rfl fun K Q' hK => ?_
         go_simp; exact hK _ _ (Grow.refl _) rfl
        ·intro w1 hg Ar seen
         have e19 := seen.de 19 148
         refine does_plain rfl fun K Q' hK => ?_
         go_simp; exact hK _ _ (Grow.refl _) rfl
        ·intro w1 hg Ar seen
         have e20 := seen.de 20 149
         have s8 := seen.sl 8 (.pointer (some ⟨p, 0, none⟩))
         refine does_on rfl (by kernel_rfl) e20 fun K Q' hK => ?_
         clear e20
         refine wp_load_row 32 _ rfl p (by simp [Act.eval, s8]) _ _ _ _ ((hg.block _ (block_lt HPB.out)).trans HPB.out) Tryd.underlying32 rfl vSize ?_
         exact hK _ _ (Grow.refl _) rfl
        ·intro w1 hg Ar seen
         have e21 := seen.de 21 150
         have e20 := seen.de 20 149
         refine does_on rfl (by kernel_rfl) e20 fun K Q' hK => ?_
         clear e20
         go_simp
         refine (rightR_any _ _ (HQO.out.below hg)).mono ?_
         rintro e u ⟨rfl, hb⟩
         exact hK _ _ hb (by rw [HRR.out]; rfl)
        ·intro w1 hg Ar seen
         have e22 := seen.de 22 151
         have e20 := seen.de 20 149
         refine does_on rfl (by kernel_rfl) e20 fun K Q' hK => ?_
         clear e20
         go_simp; exact hK _ _ (Grow.refl _) rfl
        ·intro w1 hg Ar seen
         have e20 := seen.de 20 149
         have e23 := seen.de 23 152
         refine does_plain rfl fun K Q' hK => ?_
         go_simp; exact hK _ _ (Grow.refl _) rfl
      intro w1 hg
      refine upon_w' (js := [0, 1, 2, 3, 4, 5, 6, 7, 8, 9, 10, 11, 12, 13, 14, 15, 16, 17, 18, 19, 20, 21, 22, 23, 24]) (by rfl) ?_
      refine upon_e (some 129) (upon_e (some 130) (upon_e (some 131) (upon_e (some 132) (upon_e (some 133) (upon_e (some 134) (upon_e (some 135) (upon_e (some 136) (upon_e (some 137) (upon_e (some 138) (upon_e (some 139) (upon_e (some 140) (upon_e (some 141) (upon_e (some 142) (upon_e (some 143) (upon_e (some 144) (upon_e (some 145) (upon_e (some 146) (upon_e (some 147) (upon_e (some 148) (upon_e (some 149) (upon_e (some 150) (upon_e (some 151) (upon_e (some 152) (upon_e (some 153) (upon_n ?_)))))))))))))))))))))))))
      go_simp
      have HB2 := hid (HB.out.below hg)
      have HQO2 := hid (HQO.out.below hg)
      have HPB2 := hid ((hg.block _ (block_lt HPB.out)).trans HPB.out)
      clear hg
      go_wp2_with (first | (refine wpList_load_row rfl 32 _ rfl p rfl _ _ _ _ HPB2.out Tryd.underlying32 rfl vSize ?_) | (refine wpList_store_obj rfl 32 _ _ rfl (b + 1) rfl (RqV.arr { major := j0, minor := j1, max := n2, opt := n3, its := s, items := lq }) rfl _ _ HB2.out.res rfl vSize (varr_one _) ?_; intro w10 hb10 hc10 hs10; have HB10 := hid hb10; have HC10 := hid hc10; clear hb10 hc10 hs10))
      refine bodyPost_ret (results_cell_tmp rfl _ _ (b + 1) _ _ _ _ rfl HB10.out Tryd.underlying32 rfl vSize _ rfl) rfl ?_
      rw [HE.out]
      refine ⟨_, rfl, rfl, ⟨HQO2.out.its.keep HC10.out (fun k hk hm => by have := List.mem_singleton.1 hm; have := HSB2.out k hk; have := HPZ.out; have := HZP.out; have := HBZ.out; omega), fun x hx => RqIV.ok.keep HC10.out (HQO2.out.each x hx) (fun k hk hm => by have h1 := HPF.out x hx k hk; have h2 := List.mem_singleton.1 hm; omega)⟩, by rw [HBE.out]; exact HB2.out.done HC10.out⟩
     | false =>
      have HE : Hid (readV v.it = .error 4) := by
       show _ = _
       rw [HEQ.out, hR, if_pos]
       simp
      have HNE : Hid ((n4 != (s.n : Int)) = false) := by show _ = _; simp [hne]
      have HRR := hid hR
      clear hne hR
      refine wp_region_each 25 [.eq (.slice (some ⟨gh, 0, none⟩) 5 ch), .eq (.pointer (some ⟨gh, 1, none⟩)), .eq (.slice sc.a sc.n sc.c), .eq (.int .i64 (sc.n : Int)), .eq (.bool false), .eq (.bool false), .eq undef, .eq undef, .eq undef, .eq (.bool false), .eq (.bool false), .eq (.slice (some ⟨gh, 0, none⟩) 5 ch), .eq (.pointer (some ⟨gh, 4, none⟩)), .eq (.slice se.a se.n se.c), .eq (.int .i64 n4), .eq (.pointer (some ⟨p, 4, none⟩)), .eq (.slice s.a s.n s.c), .eq (.int .i64 (s.n : Int)), .eq (.bool false), .eq (.bool false), .eq (.bool false), .eq (.agg (RqV.arr { major := j0, minor := j1, max := n2, opt := n3, its := s, items := lq })), .eq (.bool false), .eq (.bool true), .eq (.bool true)] (by kernel_rfl) (by kernel_rfl) (by kernel_rfl) (by kernel_rfl) ?_ ?_
      ·all_goals
        refine each_5 ?_ ?_ ?_ ?_ ?_ (each_5 ?_ ?_ ?_ ?_ ?_ (each_5 ?_ ?_ ?_ ?_ ?_ (each_5 ?_ ?_ ?_ ?_ ?_ (each_5 ?_ ?_ ?_ ?_ ?_ (each_n)))))
        ·intro w1 hg Ar seen
         have s7 := seen.sl 7 (.slice (some ⟨gh, 0, none⟩) 5 ch)
         refine does_plain rfl fun K Q' hK => ?_
         go_simp; exact hK _ _ (Grow.refl _) rfl
        ·intro w1 hg Ar seen
         have e0 := seen.de 0 129
         refine does_plain rfl fun K Q' hK => ?_
         go_simp; exact hK _ _ (Grow.refl _) rfl
        ·intro w1 hg Ar seen
         have e1 := seen.de 1 130
         refine does_plain rfl fun K Q' hK => ?_
         have hc := cell_later hg HCC'.out
         go_simp; exact hK _ _ (Grow.refl _) rfl
        ·intro w1 hg Ar seen
         have e2 := seen.de 2 131
         refine does_plain rfl fun K Q' hK => ?_
         go_simp; exact hK _ _ (Grow.refl _) rfl
        ·intro w1 hg Ar seen
         have e3 := seen.de 3 132
         refine does_plain rfl fun K Q' hK => ?_
         have hz := HG1.out
         go_simp; exact hK _ _ (Grow.refl _) rfl
        ·intro w1 hg Ar seen
         have e4 := seen.de 4 133
         refine does_plain rfl fun K Q' hK => ?_
         go_simp; exact hK _ _ (Grow.refl _) rfl
        ·intro w1 hg Ar seen
         have e5 := seen.de 5 134
         exact does_off rfl (by kernel_rfl) e5 ne_ft (Grow.refl _) rfl
        ·intro w1 hg Ar seen
         have e5 := seen.de 5 134
         exact does_off rfl (by kernel_rfl) e5 ne_ft (Grow.refl _) rfl
        ·intro w1 hg Ar seen
         have e5 := seen.de 5 134
         exact does_off rfl (by kernel_rfl) e5 ne_ft (Grow.refl _) rfl
        ·intro w1 hg Ar seen
         have e5 := seen.de 5 134
         have e8 := seen.de 8 137
         refine does_plain rfl fun K Q' hK => ?_
         go_simp; exact hK _ _ (Grow.refl _) rfl
        ·intro w1 hg Ar seen
         have e9 := seen.de 9 138
         refine does_plain rfl fun K Q' hK => ?_
         go_simp; exact hK _ _ (Grow.refl _) rfl
        ·intro w1 hg Ar seen
         have e10 := seen.de 10 139
         have s7 := seen.sl 7 (.slice (some ⟨gh, 0, none⟩) 5 ch)
         refine does_on rfl (by kernel_rfl) e10 fun K Q' hK => ?_
         clear e10
         go_simp; exact hK _ _ (Grow.refl _) rfl
        ·intro w1 hg Ar seen
         have e11 := seen.de 11 140
         have e10 := seen.de 10 139
         refine does_on rfl (by kernel_rfl) e10 fun K Q' hK => ?_
         clear e10
         go_simp; exact hK _ _ (Grow.refl _) rfl
        ·intro w1 hg Ar seen
         have e12 := seen.de 12 141
         have e10 := seen.de 10 139
         refine does_on rfl (by kernel_rfl) e10 fun K Q' hK => ?_
         clear e10
         have hc := cell_later hg HCE'.out
         go_simp; exact hK _ _ (Grow.refl _) rfl
        ·intro w1 hg Ar seen
         have e13 := seen.de 13 142
         have e10 := seen.de 10 139
         refine does_on rfl (by kernel_rfl) e10 fun K Q' hK => ?_
         clear e10
         go_simp
         refine (rnumber_any se le 0 _ (HSE'.out.below hg)).mono ?_
         rintro e u ⟨rfl, rfl⟩
         exact hK _ _ (Grow.refl _) (by rw [En4.out]; rfl)
        ·intro w1 hg Ar seen
         have e10 := seen.de 10 139
         have s8 := seen.sl 8 (.pointer (some ⟨p, 0, none⟩))
         refine does_on rfl (by kernel_rfl) e10 fun K Q' hK => ?_
         clear e10
         go_simp; exact hK _ _ (Grow.refl _) rfl
        ·intro w1 hg Ar seen
         have e15 := seen.de 15 144
         have e10 := seen.de 10 139
         refine does_on rfl (by kernel_rfl) e10 fun K Q' hK => ?_
         clear e10
         have hc := cell_of_block (j := 4) ((hg.block _ (block_lt HPB.out)).trans HPB.out) (qr4 _)
         go_simp; exact hK _ _ (Grow.refl _) rfl
        ·intro w1 hg Ar seen
         have e16 := seen.de 16 145
         have e10 := seen.de 10 139
         refine does_on rfl (by kernel_rfl) e10 fun K Q' hK => ?_
         clear e10
         go_simp; exact hK _ _ (Grow.refl _) rfl
        ·intro w1 hg Ar seen
         have e14 := seen.de 14 143
         have e17 := seen.de 17 146
         have e10 := seen.de 10 139
         refine does_on rfl (by kernel_rfl) e10 fun K Q' hK => ?_
         clear e10
         have hz := HNE.out
         go_simp; exact hK _ _ (Grow.refl _) rfl
        ·intro w1 hg Ar seen
         have e10 := seen.de 10 139
         have e18 := seen.de 18 147
         refine does_plain rfl fun K Q' hK => ?_
         go_simp; exact hK _ _ (Grow.refl _) rfl
        ·intro w1 hg Ar seen
         have e19 := seen.de 19 148
         refine does_plain rfl fun K Q' hK => ?_
         go_simp; exact hK _ _ (Grow.refl _) rfl
        ·intro w1 hg Ar seen
         have e20 := seen.de 20 149
         have s8 := seen.sl 8 (.pointer (some ⟨p, 0, none⟩))
         refine does_on rfl (by kernel_rfl) e20 fun K Q' hK => ?_
         clear e20
         refine wp_load_row 32 _ rfl p (by simp [Act.eval, s8]) _ _ _ _ ((hg.block _ (block_lt HPB.out)).trans HPB.out) Tryd.underlying32 rfl vSize ?_
         exact hK _ _ (Grow.refl _) rfl
        ·intro w1 hg Ar seen
         have e21 := seen.de 21 150
         have e20 := seen.de 20 149
         refine does_on rfl (by kernel_rfl) e20 fun K Q' hK => ?_
         clear e20
         go_simp
         refine (rightR_any _ _ (HQO.out.below hg)).mono ?_
         rintro e u ⟨rfl, hb⟩
         exact hK _ _ hb (by rw [HRR.out]; rfl)
        ·intro w1 hg Ar seen
         have e22 := seen.de 22 151
         have e20 := seen.de 20 149
         refine does_on rfl (by kernel_rfl) e20 fun K Q' hK => ?_
         clear e20
         go_simp; exact hK _ _ (Grow.refl _) rfl
        ·intro w1 hg Ar seen
         have e20 := seen.de 20 149
         have e23 := seen.de 23 152
         refine does_plain rfl fun K Q' hK => ?_
         go_simp; exact hK _ _ (Grow.refl _) rfl
      intro w1 hg
      refine upon_w' (js := [0, 1, 2, 3, 4, 5, 6, 7, 8, 9, 10, 11, 12, 13, 14, 15, 16, 17, 18, 19, 20, 21, 22, 23, 24]) (by rfl) ?_
      refine upon_e (some 129) (upon_e (some 130) (upon_e (some 131) (upon_e (some 132) (upon_e (some 133) (upon_e (some 134) (upon_e (some 135) (upon_e (some 136) (upon_e (some 137) (upon_e (some 138) (upon_e (some 139) (upon_e (some 140) (upon_e (some 141) (upon_e (some 142) (upon_e (some 143) (upon_e (some 144) (upon_e (some 145) (upon_e (some 146) (upon_e (some 147) (upon_e (some 148) (upon_e (some 149) (upon_e (some 150) (upon_e (some 151) (upon_e (some 152) (upon_e (some 153) (upon_n ?_)))))))))))))))))))))))))
      go_simp
      have HB2 := hid (HB.out.below hg)
      have HNB6 := hid ((hg.block _ (block_lt HNB5.out)).trans HNB5.out)
      clear hg
      go_wp2_with (first | (refine wpList_load_row rfl 32 _ rfl nb rfl _ _ _ _ HNB6.out Tryd.underlying32 rfl vSize ?_) | (refine wpList_store_obj rfl 32 _ _ rfl (b + 1) rfl rvZ.arr rfl _ _ HB2.out.res rfl vSize (varr_one _) ?_; intro w10 hb10 hc10 hs10; have HB10 := hid hb10; have HC10 := hid hc10; clear hb10 hc10 hs10))
      refine bodyPost_ret (results_cell_tmp rfl _ _ (b + 1) _ _ _ _ rfl HB10.out Tryd.underlying32 rfl vSize _ rfl) rfl ?_
      rw [HE.out]
      exact ⟨rfl, by rw [HBE.out]; exact HB2.out.done HC10.out⟩
    ·have HE : Hid (readV v.it = .error 4) := by
      show _ = _
      rw [HEQ.out, if_pos]
      have : (n4 != (s.n : Int)) = true := by simpa using hne
      rw [this]; simp
     have HNE : Hid ((n4 != (s.n : Int)) = true) := by show _ = _; simpa using hne
     clear hne
     refine wp_region_each 25 [.eq (.slice (some ⟨gh, 0, none⟩) 5 ch), .eq (.pointer (some ⟨gh, 1, none⟩)), .eq (.slice sc.a sc.n sc.c), .eq (.int .i64 (sc.n : Int)), .eq (.bool false), .eq (.bool false), .eq undef, .eq undef, .eq undef, .eq (.bool false), .eq (.bool false), .eq (.slice (some ⟨gh, 0, none⟩) 5 ch), .eq (.pointer (some ⟨gh, 4, none⟩)), .eq (.slice se.a se.n se.c), .eq (.int .i64 n4), .eq (.pointer (some ⟨p, 4, none⟩)), .eq (.slice s.a s.n s.c), .eq (.int .i64 (s.n : Int)), .eq (.bool true), .eq (.bool true), .eq (.bool true), .eq undef, .eq undef, .eq undef, .eq (.bool true)] (by kernel_rfl) (by kernel_rfl) (by kernel_rfl) (by kernel_rfl) ?_ ?_
     ·all_goals
       refine each_5 ?_ ?_ ?_ ?_ ?_ (each_5 ?_ ?_ ?_ ?_ ?_ (each_5 ?_ ?_ ?_ ?_ ?_ (each_5 ?_ ?_ ?_ ?_ ?_ (each_5 ?_ ?_ ?_ ?_ ?_ (each_n)))))
       ·intro w1 hg Ar seen
        have s7 := seen.sl 7 (.slice (some ⟨gh, 0, none⟩) 5 ch)
        refine does_plain rfl fun K Q' hK => ?_
        go_simp; exact hK _ _ (Grow.refl _) rfl
       ·intro w1 hg Ar seen
        have e0 := seen.de 0 129
        refine does_plain rfl fun K Q' hK => ?_
        go_simp; exact hK _ _ (Grow.refl _) rfl
       ·intro w1 hg Ar seen
        have e1 := seen.de 1 130
        refine does_plain rfl fun K Q' hK => ?_
        have hc := cell_later hg HCC'.out
        go_simp; exact hK _ _ (Grow.refl _) rfl
       ·intro w1 hg Ar seen
        have e2 := seen.de 2 131
        refine does_plain rfl fun K Q' hK => ?_
        go_simp; exact hK _ _ (Grow.refl _) rfl
       ·intro w1 hg Ar seen
        have e3 := seen.de 3 132
        refine does_plain rfl fun K Q' hK => ?_
        have hz := HG1.out
        go_simp; exact hK _ _ (Grow.refl _) rfl
       ·intro w1 hg Ar seen
        have e4 := seen.de 4 133
        refine does_plain rfl fun K Q' hK => ?_
        go_simp; exact hK _ _ (Grow.refl _) rfl
       ·intro w1 hg Ar seen
        have e5 := seen.de 5 134
        exact does_off rfl (by kernel_rfl) e5 ne_ft (Grow.refl _) rfl
       ·intro w1 hg Ar seen
        have e5 := seen.de 5 134
        exact does_off rfl (by kernel_rfl) e5 ne_ft (Grow.refl _) rfl
       ·intro w1 hg Ar seen
        have e5 := seen.de 5 134
        exact does_off rfl (by kernel_rfl) e5 ne_ft (Grow.refl _) rfl
       ·intro w1 hg Ar seen
        have e5 := seen.de 5 134
        have e8 := seen.de 8 137
        refine does_plain rfl fun K Q' hK => ?_
        go_simp; exact hK _ _ (Grow.refl _) rfl
       ·intro w1 hg Ar seen
        have e9 := seen.de 9 138
        refine does_plain rfl fun K Q' hK => ?_
        go_simp; exact hK _ _ (Grow.refl _) rfl
       ·intro w1 hg Ar seen
        have e10 := seen.de 10 139
        have s7 := seen.sl 7 (.slice (some ⟨gh, 0, none⟩) 5 ch)
        refine does_on rfl (by kernel_rfl) e10 fun K Q' hK => ?_
        clear e10
        go_simp; exact hK _ _ (Grow.refl _) rfl
       ·intro w1 hg Ar seen
        have e11 := seen.de 11 140
        have e10 := seen.de 10 139
        refine does_on rfl (by kernel_rfl) e10 fun K Q' hK => ?_
        clear e10
        go_simp; exact hK _ _ (Grow.refl _) rfl
       ·intro w1 hg Ar seen
        have e12 := seen.de 12 141
        have e10 := seen.de 10 139
        refine does_on rfl (by kernel_rfl) e10 fun K Q' hK => ?_
        clear e10
        have hc := cell_later hg HCE'.out
        go_simp; exact hK _ _ (Grow.refl _) rfl
       ·intro w1 hg Ar seen
        have e13 := seen.de 13 142
        have e10 := seen.de 10 139
        refine does_on rfl (by kernel_rfl) e10 fun K Q' hK => ?_
        clear e10
        go_simp
        refine (rnumber_any se le 0 _ (HSE'.out.below hg)).mono ?_
        rintro e u ⟨rfl, rfl⟩
        exact hK _ _ (Grow.refl _) (by rw [En4.out]; rfl)
       ·intro w1 hg Ar seen
        have e10 := seen.de 10 139
        have s8 := seen.sl 8 (.pointer (some ⟨p, 0, none⟩))
        refine does_on rfl (by kernel_rfl) e10 fun K Q' hK => ?_
        clear e10
        go_simp; exact hK _ _ (Grow.refl _) rfl
       ·intro w1 hg Ar seen
        have e15 := seen.de 15 144
        have e10 := seen.de 10 139
        refine does_on rfl (by kernel_rfl) e10 fun K Q' hK => ?_
        clear e10
        have hc := cell_of_block (j := 4) ((hg.block _ (block_lt HPB.out)).trans HPB.out) (qr4 _)
        go_simp; exact hK _ _ (Grow.refl _) rfl
       ·intro w1 hg Ar seen
        have e16 := seen.de 16 145
        have e10 := seen.de 10 139
        refine does_on rfl (by kernel_rfl) e10 fun K Q' hK => ?_
        clear e10
        go_simp; exact hK _ _ (Grow.refl _) rfl
       ·intro w1 hg Ar seen
        have e14 := seen.de 14 143
        have e17 := seen.de 17 146
        have e10 := seen.de 10 139
        refine does_on rfl (by kernel_rfl) e10 fun K Q' hK => ?_
        clear e10
        have hz := HNE.out
        go_simp; exact hK _ _ (Grow.refl _) rfl
       ·intro w1 hg Ar seen
        have e10 := seen.de 10 139
        have e18 := seen.de 18 147
        refine does_plain rfl fun K Q' hK => ?_
        go_simp; exact hK _ _ (Grow.refl _) rfl
       ·intro w1 hg Ar seen
        have e19 := seen.de 19 148
        refine does_plain rfl fun K Q' hK => ?_
        go_simp; exact hK _ _ (Grow.refl _) rfl
       ·intro w1 hg Ar seen
        have e20 := seen.de 20 149
        exact does_off rfl (by kernel_rfl) e20 ne_tf (Grow.refl _) rfl
       ·intro w1 hg Ar seen
        have e20 := seen.de 20 149
        exact does_off rfl (by kernel_rfl) e20 ne_tf (Grow.refl _) rfl
       ·intro w1 hg Ar seen
        have e20 := seen.de 20 149
        exact does_off rfl (by kernel_rfl) e20 ne_tf (Grow.refl _) rfl
       ·intro w1 hg Ar seen
        have e20 := seen.de 20 149
        have e23 := seen.de 23 152
        refine does_plain rfl fun K Q' hK => ?_
        go_simp; exact hK _ _ (Grow.refl _) rfl
     intro w1 hg
     refine upon_w' (js := [0, 1, 2, 3, 4, 5, 6, 7, 8, 9, 10, 11, 12, 13, 14, 15, 16, 17, 18, 19, 20, 21, 22, 23, 24]) (by rfl) ?_
     refine upon_e (some 129) (upon_e (some 130) (upon_e (some 131) (upon_e (some 132) (upon_e (some 133) (upon_e (some 134) (upon_e (some 135) (upon_e (some 136) (upon_e (some 137) (upon_e (some 138) (upon_e (some 139) (upon_e (some 140) (upon_e (some 141) (upon_e (some 142) (upon_e (some 143) (upon_e (some 144) (upon_e (some 145) (upon_e (some 146) (upon_e (some 147) (upon_e (some 148) (upon_e (some 149) (upon_e (some 150) (upon_e (some 151) (upon_e (some 152) (upon_e (some 153) (upon_n ?_)))))))))))))))))))))))))
     go_simp
     have HB2 := hid (HB.out.below hg)
     have HNB6 := hid ((hg.block _ (block_lt HNB5.out)).trans HNB5.out)
     clear hg
     go_wp2_with (first | (refine wpList_load_row rfl 32 _ rfl nb rfl _ _ _ _ HNB6.out Tryd.underlying32 rfl vSize ?_) | (refine wpList_store_obj rfl 32 _ _ rfl (b + 1) rfl rvZ.arr rfl _ _ HB2.out.res rfl vSize (varr_one _) ?_; intro w10 hb10 hc10 hs10; have HB10 := hid hb10; have HC10 := hid hc10; clear hb10 hc10 hs10))
     refine bodyPost_ret (results_cell_tmp rfl _ _ (b + 1) _ _ _ _ rfl HB10.out Tryd.underlying32 rfl vSize _ rfl) rfl ?_
     rw [HE.out]
     exact ⟨rfl, by rw [HBE.out]; exact HB2.out.done HC10.out⟩
end
end Go.Proofs.YtbnbofooofedkaaDoor
