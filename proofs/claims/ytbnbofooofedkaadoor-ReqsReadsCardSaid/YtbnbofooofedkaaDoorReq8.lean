/- locksmithref15.LayRequest. -/
import Derived.Test.YtbnbofooofedkaaDoorReq7
import Derived.Test.YtbnbofooofedkaaDoorOwnObj
namespace Go.Proofs.YtbnbofooofedkaaDoor
open Go.RowKit
set_option linter.unusedVariables false
set_option linter.unusedSimpArgs false
set_option maxRecDepth 100000
set_option maxHeartbeats 3200000
theorem pay_later {w : World} {b o : Nat} {x : RqIV} (h : w.rangeAt b o x.cells) : w.rangeAt b (o + 3) x.pay.arr.toList := fun j v hv => by
 rw [Nat.add_assoc]
 exact h (3 + j) v (by have := pay_range x j v hv; rw [← Array.getElem?_toList] at this; exact this)
theorem layRequest_own (q : RqV) (w : World) (hq : q.ok w) (hnn : q.its.n ≤ 1000000) : Calls Tryd.prog 18 #[.agg q.arr] w fun e w' => ∃ v : ItV, e = .returned (.agg v.arr) ∧ v.it = layV q.rq ∧ v.ok w' ∧ Below w.heap.size w w' ∧ v.ds = {} ∧ v.data = [] ∧ (∃ z, w.heap.size ≤ z ∧ w'.ownsRow z 27 5 (.slice v.ks.a v.ks.n v.ks.c) v.ks.n (itmCells v.kids)) ∧ ∀ x ∈ v.kids, ∀ k ∈ x.foot, v.ks.v.ownBlock ≠ some k := by
 obtain ⟨i, hi, hz0, hz1, hz2⟩ := info_parts iInfo
 have HV := hid hq
 have hql := fun x hx => (hq.each x hx).lt
 have HKN := hid hq.its.qlen
 clear hq
 generalize hbe : w.heap.size = b
 rw [hbe] at hql
 have HQL : Hid (∀ x ∈ q.items, ∀ k ∈ x.foot, k < b) := hql
 have HBE := hid hbe; clear hbe hql
 go_enter Tryd.func18, Tryd.ntmps18
 go_upto_region 1 with (refine wpList_alloc_obj rfl 27 rfl _ iZero ?_)
 go_simp
 have B0 := hid (Bx2.start (T := 32) (T' := 27) (cs := q.arr) (zs := itZ.arr) (w := w) HBE.out)
 rw [HBE.out]
 have HV0 := hid (HV.out.below (((Below.refl _ w).alloc (Nat.le_refl _) (.cells q.arr 32)).alloc (by simp) (.cells itZ.arr 27)))
 generalize (w.alloc (.cells q.arr 32)).alloc (.cells itZ.arr 27) = W at *
 clear HV
 obtain ⟨z, hzw⟩ : ∃ z, z = W.heap.size := ⟨_, rfl⟩
 have HZW := hid hzw
 have HBZ : Hid (b + 2 ≤ z) := by show _ ≤ _; rw [hzw]; exact B0.out.size
 clear hzw
 refine wp_region_each 11 [.eq (.pointer (some ⟨b, 0, none⟩)), .eq (.int .i64 q.major), stMade (numI 4325482 2 q.major), .eq (.pointer (some ⟨b, 1, none⟩)), .eq (.int .i64 q.minor), stMade (numI 4325483 2 q.minor), stItems [numI 4325482 2 q.major, numI 4325483 2 q.minor], stMade (ofI 4325481 [numI 4325482 2 q.major, numI 4325483 2 q.minor]), stOwn1 27 (ofI 4325481 [numI 4325482 2 q.major, numI 4325483 2 q.minor]) z, stHead 27 4325495 (ofI 4325481 [numI 4325482 2 q.major, numI 4325483 2 q.minor]) z, stNewQ 27 itZ.arr z] (by kernel_rfl) (by kernel_rfl) (by kernel_rfl) (by kernel_rfl) ?_ ?_
 ·as_aux_lemma =>
   refine each_5 ?_ ?_ ?_ ?_ ?_ (each_5 ?_ ?_ ?_ ?_ ?_ (each_c ?_ (each_n)))
   ·intro w1 hg Ar seen
    have s1 := seen.sl 1 (.pointer (some ⟨b, 0, none⟩))
    refine does_plain rfl fun K Q' hK => ?_
    go_simp; exact hK _ _ (Grow.refl _) rfl
   ·intro w1 hg Ar seen
    have e0 := seen.de 0 7
    refine does_plain rfl fun K Q' hK => ?_
    have hc := cell_of_block (j := 0) ((hg.block _ (block_lt B0.out.box)).trans B0.out.box) (qr0 _)
    go_simp; exact hK _ _ (Grow.refl _) rfl
   ·intro w1 hg Ar seen
    have e1 := seen.de 1 8
    refine does_plain rfl fun K Q' hK => ?_
    go_simp
    refine (refNumber_any 4325482 2 q.major _).mono ?_
    rintro e u ⟨rfl, hb⟩
    exact hK _ _ hb ⟨_, rfl, numV_it _ _ _, numV_ok _ _ _ _⟩
   ·intro w1 hg Ar seen
    have s1 := seen.sl 1 (.pointer (some ⟨b, 0, none⟩))
    refine does_plain rfl fun K Q' hK => ?_
    go_simp; exact hK _ _ (Grow.refl _) rfl
   ·intro w1 hg Ar seen
    have e3 := seen.de 3 10
    refine does_plain rfl fun K Q' hK => ?_
    have hc := cell_of_block (j := 1) ((hg.block _ (block_lt B0.out.box)).trans B0.out.box) (qr1 _)
    go_simp; exact hK _ _ (Grow.refl _) rfl
   ·intro w1 hg Ar seen
    have e4 := seen.de 4 11
    refine does_plain rfl fun K Q' hK => ?_
    go_simp
    refine (refNumber_any 4325483 2 q.minor _).mono ?_
    rintro e u ⟨rfl, hb⟩
    exact hK _ _ hb ⟨_, rfl, numV_it _ _ _, numV_ok _ _ _ _⟩
   ·intro w1 hg Ar seen
    obtain ⟨v2, e2, h2⟩ := seen.dp 2 9
    obtain ⟨v5, e5, h5⟩ := seen.dp 5 12
    refine does_plain rfl fun K Q' hK => ?_
    obtain ⟨x2, rfl, hi2, ho2⟩ := h2
    obtain ⟨x5, rfl, hi5, ho5⟩ := h5
    refine wp_build_items _ 27 2 _ rfl [x2, x5] rfl (by decide) (by decide) (by simp [Act.eval, e2, e5] <;> rfl) (x2.arr ++ x5.arr) (by simp [itmCells, ItV.cells]) i Tryd.underlying25 hi hz0 hz1 (fill2 x2 x5) ?_
    intro s hs
    exact hK _ _ ((Below.refl _ _).alloc (Nat.le_refl _) _) ⟨s, [x2, x5], rfl, by simp [hi2, hi5], hs, fun x hx => by simp only [List.mem_cons, List.not_mem_nil, or_false] at hx; rcases hx with rfl | rfl <;> exact ItV.ok.below (by first | exact ho2 | exact ho5) ((Below.refl _ _).alloc (Nat.le_refl _) _)⟩
   ·intro w1 hg Ar seen
    obtain ⟨v6, e6, h6⟩ := seen.dp 6 13
    refine does_plain rfl fun K Q' hK => ?_
    obtain ⟨s, l, rfl, hm, hs, ha⟩ := h6
    go_simp
    refine (refOf_any 4325481 s _).mono ?_
    rintro e u ⟨rfl, hb⟩
    exact hK _ _ hb ⟨{ tag := 4325481, typ := 1, ks := s, kids := l }, rfl, by rw [ItV.it_eq]; simp only [hm]; rfl, ItV.ok_iff.2 ⟨SlC.nil _, hs.below hb, fun x hx => (ha x hx).below hb⟩⟩
   ·intro w1 hg Ar seen
    obtain ⟨v7, e7, h7⟩ := seen.dp 7 14
    refine does_plain rfl fun K Q' hK => ?_
    obtain ⟨y, rfl, hy, ho⟩ := h7
    refine wp_build_item _ 27 _ rfl y (by simp [Act.eval, e7]) i Tryd.underlying25 hi hz0 hz1 ?_
    exact hK _ _ ((Below.refl _ _).alloc (Nat.le_refl _) _) ⟨⟨_, _, _⟩, y, rfl, rfl, hy, own_one y ho (Nat.le_trans (Nat.le_of_eq HZW.out) hg.size)⟩
   ·intro w1 hg Ar seen
    obtain ⟨v8, e8, h8⟩ := seen.dp 8 15
    refine does_plain rfl fun K Q' hK => ?_
    obtain ⟨s, y, rfl, hn, hy, ho⟩ := h8
    have HN := hid hn
    clear hn
    go_simp
    refine (refOf_any 4325495 s _).mono ?_
    rintro e u ⟨rfl, hb⟩
    exact hK _ _ hb ⟨s, y, rfl, HN.out, hy, ho.below hb⟩
   ·intro w1 hg Ar seen
    refine does_plain rfl fun K Q' hK => ?_
    refine wp_alloc_obj 27 rfl itZ.arr iZero ?_
    exact hK _ _ ((Below.refl _ _).alloc (Nat.le_refl _) _) ⟨_, rfl, block_new _ _, Nat.le_trans (Nat.le_of_eq HZW.out) hg.size⟩
 intro w1 hg
 refine upon_w' (js := [0, 1, 2, 3, 4, 5, 6, 7, 8, 9, 10]) (by rfl) ?_
 refine upon_e (some 7) (upon_e (some 8) (upon_v (some 9) fun v2 h2 => upon_e (some 10) (upon_e (some 11) (upon_v (some 12) fun v5 h5 => upon_v (some 13) fun v6 h6 => upon_v (some 14) fun v7 h7 => upon_v (some 15) fun v8 h8 => upon_v (some 16) fun v9 h9 => upon_v (some 3) fun v10 h10 => upon_n ?_))))
 obtain ⟨p, rfl, hp, hzp⟩ := h10
 obtain ⟨s, y, rfl, hsn, hyi, hyo⟩ := h9
 have HP := hid hp; have HZP := hid hzp; have HSN := hid hsn; have HYI := hid hyi; have HYO := hid hyo
 have hg' := hg
 unfold Grow at hg'
 rw [← HZW.out] at hg'
 have HGG := hid hg'
 have HSZ1 : Hid (z ≤ w1.heap.size) := by show _ ≤ _; rw [HZW.out]; exact hg.size
 clear hp hzp hg' hg hsn hyi hyo h2 h5 h6 h7 h8
 go_simp
 go_upto_region 2 with (refine wpList_store_obj rfl 27 _ _ rfl p rfl (ItV.arr { tag := 4325495, typ := 1, ks := s, kids := [y] }) rfl _ _ HP.out rfl iSize (arr_one _) ?_; intro w4 hb4 hc4 hs4; have HB4 := hid hb4; have HC4 := hid hc4; have HS4 := hid hs4; clear hb4 hc4 hs4)
 have HJ : Hid (OwnObj 27 w4 z p 4325495 s [y]) := OwnObj.start (x := { tag := 4325495, typ := 1, ks := s, kids := [y] }) rfl HYO.out (by rw [ItV.it_eq, List.map_cons, List.map_nil, HYI.out]; simp [nz, nzAll, ofI, numI]) HP.out (by rw [HSN.out]; decide) (by rw [HSN.out]; decide) HB4.out HC4.out
 have HBW : Hid (Below z W w4) := HGG.out.trans (HC4.out.below (B := z) (fun k hk => by rw [List.mem_singleton.1 hk]; exact HZP.out) HSZ1.out)
 have HZ4 : Hid (z ≤ w4.heap.size) := Nat.le_trans HSZ1.out HC4.out.size
 clear HP HYO HB4 HC4 HS4 HGG HSZ1
 have hbr : Below W.heap.size W w4 := by rw [← HZW.out]; exact HBW.out
 have c2 := cell_of_block (j := 2) (B0.out.below hbr).box (qr2 q)
 have HBR := hid hbr
 clear hbr
 go_upto_if 19 with (fail)
 clear c2
 go_cut [3] (fun u wx => ∃ (s : Sl) (l : List ItV), u = .pointer (some ⟨p, 0, none⟩) ∧ OwnObj 27 wx z p 4325495 s l ∧ s.n = l.length ∧ l.length ≤ 2 ∧ l.map ItV.it = [ofI 4325481 [numI 4325482 2 q.major, numI 4325483 2 q.minor]] ++ (if q.max ≠ 0 then [numI 4325456 2 q.max] else []) ∧ Below z W wx ∧ z ≤ wx.heap.size)
 case first =>
  by_cases hmx : q.max = 0
  ·go_wp2_with fail
   go_meet
   exact ⟨s, [y], rfl, HJ.out, HSN.out, by simp, by simp [hmx, HYI.out], HBW.out, HZ4.out⟩
  ·have hne : (q.max == 0) = false := by simpa using hmx
   have HMX := hid hmx
   go_upto_region 3 with (fail)
   clear hmx hne
   obtain ⟨c, hcw⟩ : ∃ c, c = w4.heap.size := ⟨_, rfl⟩
   have HCW := hid hcw
   have HB4 := hid (B0.out.below HBR.out)
   clear hcw
   have HZC : Hid (z ≤ c) := by show z ≤ c; rw [HCW.out]; exact HZ4.out
   refine wp_region_each 6 [.eq (.pointer (some ⟨p, 4, none⟩)), .eq (.slice s.a s.n s.c), .eq (.pointer (some ⟨b, 2, none⟩)), .eq (.int .i64 q.max), stMadeP (numI 4325456 2 q.max) (c ≤ ·), stItemsP [numI 4325456 2 q.max] 1 (c ≤ ·)] (by kernel_rfl) (by kernel_rfl) (by kernel_rfl) (by kernel_rfl) ?_ ?_
   ·as_aux_lemma =>
     refine each_5 ?_ ?_ ?_ ?_ ?_ (each_c ?_ (each_n))
     ·intro w1 hg Ar seen
      have s3 := seen.sl 3 (.pointer (some ⟨p, 0, none⟩))
      refine does_plain rfl fun K Q' hK => ?_
      go_simp; exact hK _ _ (Grow.refl _) rfl
     ·intro w1 hg Ar seen
      have e0 := seen.de 0 20
      refine does_plain rfl fun K Q' hK => ?_
      have hc := cell_of_block (j := 4) ((hg.block _ (block_lt HJ.out.blk)).trans HJ.out.blk) (ar4 _)
      go_simp; exact hK _ _ (Grow.refl _) rfl
     ·intro w1 hg Ar seen
      have s1 := seen.sl 1 (.pointer (some ⟨b, 0, none⟩))
      refine does_plain rfl fun K Q' hK => ?_
      go_simp; exact hK _ _ (Grow.refl _) rfl
     ·intro w1 hg Ar seen
      have e2 := seen.de 2 22
      refine does_plain rfl fun K Q' hK => ?_
      have hc := cell_of_block (j := 2) ((hg.block _ (block_lt HB4.out.box)).trans HB4.out.box) (qr2 _)
      go_simp; exact hK _ _ (Grow.refl _) rfl
     ·intro w1 hg Ar seen
      have e3 := seen.de 3 23
      refine does_plain rfl fun K Q' hK => ?_
      go_simp
      refine (refNumber_any 4325456 2 q.max _).mono ?_
      rintro e u ⟨rfl, hb⟩
      exact hK _ _ hb ⟨_, rfl, numV_it _ _ _, numV_ok _ _ _ _, numV_foot _⟩
     ·intro w1 hg Ar seen
      obtain ⟨v4, e4, h4⟩ := seen.dp 4 24
      refine does_plain rfl fun K Q' hK => ?_
      obtain ⟨x4, rfl, hi4, ho4, hf4⟩ := h4
      refine wp_build_itemsP _ 27 1 _ rfl [x4] rfl (by decide) (by decide) (by simp [Act.eval, e4] <;> rfl) (x4.arr) (by simp [itmCells, ItV.cells]) i Tryd.underlying25 hi hz0 hz1 (fill1 x4) ?_
      intro s hn hs
      exact hK _ _ ((Below.refl _ _).alloc (Nat.le_refl _) _) ⟨s, [x4], rfl, hn, by simp [hi4], hs, fun x hx => by simp only [List.mem_cons, List.not_mem_nil, or_false] at hx; rcases hx with rfl <;> first | exact ⟨ho4.below ((Below.refl _ _).alloc (Nat.le_refl _) _), hf4⟩⟩
   intro w1 hg
   refine upon_w' (js := [0, 1, 2, 3, 4, 5]) (by rfl) ?_
   refine upon_e (some 20) (upon_e (some 21) (upon_e (some 22) (upon_e (some 23) (upon_v (some 24) fun v4 h4 => upon_v (some 25) fun v5 h5 => upon_n ?_))))
   obtain ⟨s1, ys, rfl, hn1, hyi, hs1, hys⟩ := h5
   obtain ⟨a1, n1, c1⟩ := s1
   simp only at hn1
   subst hn1
   have HYS := hid hys; have HS1 := hid hs1; have HYI2 := hid hyi
   have HJ1 := hid (HJ.out.below hg)
   have HBW1 := hid (HBW.out.trans (hg.mono (by rw [← HCW.out]; exact HZC.out)))
   have HZ1 : Hid (z ≤ w1.heap.size) := Nat.le_trans HZ4.out hg.size
   have HLT := hid (fun k (hk : s.v.ownBlock = some k) => show k < c by rw [HCW.out]; exact (HJ.out.own.own.lt k hk).2)
   have HPC : Hid (p < c) := by show p < c; rw [HCW.out]; exact block_lt HJ.out.blk
   clear hyi hs1 hys hg h4 HJ HBW HB4
   go_simp
   go_wp2_with (at_builtin; go_must (refine wpList_append_c rfl _ _ 25 rfl z 27 i _ 5 72 Tryd.underlying25 hi hz0 hz1 hz2 rfl (by decide) (.slice s.a s.n s.c) s.n _ rfl HJ1.out.own.own _ 1 _ (itmCells ys) rfl HS1.out.rd (itm_one ys) HS1.out.no (by unfold maxLen; have := HSN.out; omega) (by have := HSN.out; omega) (by have := HZ1.out; omega) ?_); intro a' c' w8 hown hgw hfr; have hpush := HJ1.out.push (ys := ys) (a := a') (n := s.n + 1) (c := c') (Below.refl _ _) (fun y hy => (HYS.out y hy).1) (fun y hy k hk => ⟨fun he => by have := HLT.out k he; have := (HYS.out y hy).2 k hk; omega, by have := HPC.out; have := (HYS.out y hy).2 k hk; omega⟩) (by rw [itm_app]; exact hown) hgw hfr; have hq4 := cell_of_block (j := 4) hpush.1 (ar4 _); have hp8 := hid hpush.1; have hfz : ∀ j, w8.frozen? ⟨p, j, none⟩ = false := (fun j => frozen_of_block hp8.out); have HJ8 := hid hpush.2; have HG8 := hid hgw; clear hown hgw hfr hpush hp8)
   clear hq4 hfz
   have hgb : Below z w1 w8 := (Below.refl _ _).grown HG8.out HZ1.out (fun k hk => (HJ1.out.own.own.lt k hk).1)
   go_meet
   exact ⟨⟨a', s.n + 1, c'⟩, [y] ++ ys, rfl, HJ8.out, by have h1 := congrArg List.length HYI2.out; simp at h1; simp [h1]; have := HSN.out; omega, by have h1 := congrArg List.length HYI2.out; simp at h1; simp [h1], by rw [List.map_append, HYI2.out]; simp [HMX.out, HYI.out], (HBW1.out.trans hgb).setCell HZP.out _, Nat.le_trans HZ1.out (Nat.le_trans hgb.size (by simp [World.setCell]))⟩
 case rest =>
  clear HJ HBW HZ4 HSN HYI HBR
  obtain ⟨s, l, rfl, hj, hsn, hl2, hli, hbw, hz4⟩ := hcut
  have HJ := hid hj; have HSN := hid hsn; have HL2 := hid hl2; have HLI := hid hli; have HBW := hid hbw; have HZ4 := hid hz4
  clear hj hsn hl2 hli hbw hz4
  have hbr : Below W.heap.size W wc := by rw [← HZW.out]; exact HBW.out
  have HBR := hid hbr
  have HB4 := hid (B0.out.below hbr)
  clear hbr
  obtain ⟨c, hcw⟩ : ∃ c, c = wc.heap.size := ⟨_, rfl⟩
  have HCW := hid hcw
  have HZC : Hid (z ≤ c) := by show z ≤ c; rw [HCW.out]; exact HZ4.out
  clear hcw
  go_upto_region 4 with (fail)
  refine wp_region_each 10 [.eq (.pointer (some ⟨p, 4, none⟩)), .eq (.slice s.a s.n s.c), .eq (.pointer (some ⟨b, 3, none⟩)), .eq (.int .i64 q.opt), stMadeP (numI 4325390 5 q.opt) (c ≤ ·), .eq (.pointer (some ⟨b, 4, none⟩)), .eq (.slice q.its.a q.its.n q.its.c), .eq (.int .i64 (q.its.n : Int)), stMadeP (numI 4325389 2 (q.its.n : Int)) (c ≤ ·), stItemsP [numI 4325390 5 q.opt, numI 4325389 2 (q.its.n : Int)] 2 (c ≤ ·)] (by kernel_rfl) (by kernel_rfl) (by kernel_rfl) (by kernel_rfl) ?_ ?_
  ·as_aux_lemma =>
    refine each_5 ?_ ?_ ?_ ?_ ?_ (each_5 ?_ ?_ ?_ ?_ ?_ (each_n))
    ·intro w1 hg Ar seen
     have s3 := seen.sl 3 (.pointer (some ⟨p, 0, none⟩))
     refine does_plain rfl fun K Q' hK => ?_
     go_simp; exact hK _ _ (Grow.refl _) rfl
    ·intro w1 hg Ar seen
     have e0 := seen.de 0 28
     refine does_plain rfl fun K Q' hK => ?_
     have hc := cell_of_block (j := 4) ((hg.block _ (block_lt HJ.out.blk)).trans HJ.out.blk) (ar4 _)
     go_simp; exact hK _ _ (Grow.refl _) rfl
    ·intro w1 hg Ar seen
     have s1 := seen.sl 1 (.pointer (some ⟨b, 0, none⟩))
     refine does_plain rfl fun K Q' hK => ?_
     go_simp; exact hK _ _ (Grow.refl _) rfl
    ·intro w1 hg Ar seen
     have e2 := seen.de 2 30
     refine does_plain rfl fun K Q' hK => ?_
     have hc := cell_of_block (j := 3) ((hg.block _ (block_lt HB4.out.box)).trans HB4.out.box) (qr3 _)
     go_simp; exact hK _ _ (Grow.refl _) rfl
    ·intro w1 hg Ar seen
     have e3 := seen.de 3 31
     refine does_plain rfl fun K Q' hK => ?_
     go_simp
     refine (refNumber_any 4325390 5 q.opt _).mono ?_
     rintro e u ⟨rfl, hb⟩
     exact hK _ _ hb ⟨_, rfl, numV_it _ _ _, numV_ok _ _ _ _, numV_foot _⟩
    ·intro w1 hg Ar seen
     have s1 := seen.sl 1 (.pointer (some ⟨b, 0, none⟩))
     refine does_plain rfl fun K Q' hK => ?_
     go_simp; exact hK _ _ (Grow.refl _) rfl
    ·intro w1 hg Ar seen
     have e5 := seen.de 5 33
     refine does_plain rfl fun K Q' hK => ?_
     have hc := cell_of_block (j := 4) ((hg.block _ (block_lt HB4.out.box)).trans HB4.out.box) (qr4 _)
     go_simp; exact hK _ _ (Grow.refl _) rfl
    ·intro w1 hg Ar seen
     have e6 := seen.de 6 34
     refine does_plain rfl fun K Q' hK => ?_
     go_simp; exact hK _ _ (Grow.refl _) rfl
    ·intro w1 hg Ar seen
     have e7 := seen.de 7 35
     refine does_plain rfl fun K Q' hK => ?_
     go_simp
     refine (refNumber_any 4325389 2 (q.its.n : Int) _).mono ?_
     rintro e u ⟨rfl, hb⟩
     exact hK _ _ hb ⟨_, rfl, numV_it _ _ _, numV_ok _ _ _ _, numV_foot _⟩
    ·intro w1 hg Ar seen
     obtain ⟨v4, e4, h4⟩ := seen.dp 4 32
     obtain ⟨v8, e8, h8⟩ := seen.dp 8 36
     refine does_plain rfl fun K Q' hK => ?_
     obtain ⟨x4, rfl, hi4, ho4, hf4⟩ := h4
     obtain ⟨x8, rfl, hi8, ho8, hf8⟩ := h8
     refine wp_build_itemsP _ 27 2 _ rfl [x4, x8] rfl (by decide) (by decide) (by simp [Act.eval, e4, e8] <;> rfl) (x4.arr ++ x8.arr) (by simp [itmCells, ItV.cells]) i Tryd.underlying25 hi hz0 hz1 (fill2 x4 x8) ?_
     intro s hn hs
     exact hK _ _ ((Below.refl _ _).alloc (Nat.le_refl _) _) ⟨s, [x4, x8], rfl, hn, by simp [hi4, hi8], hs, fun x hx => by simp only [List.mem_cons, List.not_mem_nil, or_false] at hx; rcases hx with rfl | rfl <;> first | exact ⟨ho4.below ((Below.refl _ _).alloc (Nat.le_refl _) _), hf4⟩ | exact ⟨ho8.below ((Below.refl _ _).alloc (Nat.le_refl _) _), hf8⟩⟩
  intro w1 hg
  refine upon_w' (js := [0, 1, 2, 3, 4, 5, 6, 7, 8, 9]) (by rfl) ?_
  refine upon_e (some 28) (upon_e (some 29) (upon_e (some 30) (upon_e (some 31) (upon_v (some 32) fun v4 h4 => upon_e (some 33) (upon_e (some 34) (upon_e (some 35) (upon_v (some 36) fun v8 h8 => upon_v (some 37) fun v9 h9 => upon_n ?_)))))))
  obtain ⟨s1, ys, rfl, hn1, hyi, hs1, hys⟩ := h9
  obtain ⟨a1, n1, c1⟩ := s1
  simp only at hn1
  subst hn1
  have HYS := hid hys; have HS1 := hid hs1; have HYI2 := hid hyi
  have HJ1 := hid (HJ.out.below hg)
  have HBW1 := hid (HBW.out.trans (hg.mono (by rw [← HCW.out]; exact HZC.out)))
  have HZ1 : Hid (z ≤ w1.heap.size) := Nat.le_trans HZ4.out hg.size
  have HLT := hid (fun k (hk : s.v.ownBlock = some k) => show k < c by rw [HCW.out]; exact (HJ.out.own.own.lt k hk).2)
  have HPC : Hid (p < c) := by show p < c; rw [HCW.out]; exact block_lt HJ.out.blk
  clear hyi hs1 hys hg h4 h8 HJ HBW HB4 HBR
  go_simp
  go_upto_region 5 with (at_builtin; go_must (refine wpList_append_c rfl _ _ 25 rfl z 27 i _ 5 72 Tryd.underlying25 hi hz0 hz1 hz2 rfl (by decide) (.slice s.a s.n s.c) s.n _ rfl HJ1.out.own.own _ 2 _ (itmCells ys) rfl HS1.out.rd (itm_one ys) HS1.out.no (by unfold maxLen; have := HSN.out; have := HL2.out; omega) (by have := HSN.out; have := HL2.out; omega) (by have := HZ1.out; omega) ?_); intro a' c' w8 hown hgw hfr; have hpush := HJ1.out.push (ys := ys) (a := a') (n := s.n + 2) (c := c') (Below.refl _ _) (fun y hy => (HYS.out y hy).1) (fun y hy k hk => ⟨fun he => by have := HLT.out k he; have := (HYS.out y hy).2 k hk; omega, by have := HPC.out; have := (HYS.out y hy).2 k hk; omega⟩) (by rw [itm_app]; exact hown) hgw hfr; have hq4 := cell_of_block (j := 4) hpush.1 (ar4 _); have hp8 := hid hpush.1; have hfz : ∀ j, w8.frozen? ⟨p, j, none⟩ = false := (fun j => frozen_of_block hp8.out); have HJ8 := hid hpush.2; have HG8 := hid hgw; clear hown hgw hfr hpush hp8)
  clear hq4 hfz
  have hgb : Below z w1 w8 := (Below.refl _ _).grown HG8.out HZ1.out (fun k hk => (HJ1.out.own.own.lt k hk).1)
  have HBW8 := hid ((HBW1.out.trans hgb).setCell (p := ⟨p, 4, none⟩) HZP.out (.slice a' (s.n + 2) c'))
  have HZ8 : Hid (z ≤ (w8.setCell ⟨p, 4, none⟩ (.slice a' (s.n + 2) c')).heap.size) := Nat.le_trans HZ1.out (Nat.le_trans hgb.size (by simp [World.setCell]))
  have HLEN : Hid (s.n + 2 ≤ 4) := by show _ ≤ _; have := HSN.out; have := HL2.out; omega
  have HHI : Hid (ItV.it { tag := 4325495, typ := 1, ks := ⟨a', s.n + 2, c'⟩, kids := l ++ ys } = layHead q.rq) := by
   show _ = _
   rw [ItV.it_eq]
   show Itm.mk 4325495 1 0 [] ((l ++ ys).map ItV.it) = _
   rw [List.map_append, HLI.out, HYI2.out]
   have hlen : (q.rq.items.length : Int) = (q.its.n : Int) := by show ((q.items.map RqIV.rq).length : Int) = _; rw [List.length_map, HKN.out]
   unfold layHead ofI
   rw [hlen]
   rfl
  clear hgb HBW1 HZ1 HG8 HJ1 HYS HS1 HYI2 HLI HL2 HSN HLT HPC HCW HZC
  generalize w8.setCell ⟨p, 4, none⟩ (.slice a' (s.n + 2) c') = w9 at *
  have hok9 := HJ8.out.item (Nat.le_trans HLEN.out (by decide))
  have HOK9 := hid hok9
  go_wp2_with (first | (refine wpList_load_row rfl 27 _ rfl p rfl _ _ _ _ HJ8.out.blk Tryd.underlying27 rfl iSize ?_) | (refine wpList_build_item rfl 25 27 _ rfl { tag := 4325495, typ := 1, ks := ⟨a', s.n + 2, c'⟩, kids := l ++ ys } rfl i Tryd.underlying25 hi hz0 hz1 ?_))
  generalize ({ tag := 4325495, typ := 1, ks := ⟨a', s.n + 2, c'⟩, kids := l ++ ys } : ItV) = hv at *
  have HHF : Hid (b + 1 ∉ hv.footN) := hok9.notZero (T := 27) ((B0.out.below (by rw [← HZW.out]; exact HBW8.out)).res) (by rw [HHI.out]; exact nz_head _)
  have ho9 := own_one (T := 27) (base := w9.heap.size) hv hok9 (Nat.le_refl _)
  have HO9 := hid ho9
  refine (refOf_any 4325496 ⟨some ⟨w9.heap.size, 0, none⟩, 1, 1⟩ _).mono ?_
  rintro e w10 ⟨rfl, hb10⟩
  have HO10 := hid (HO9.out.below hb10)
  have HBW10 := hid ((HBW8.out.alloc HZ8.out (.cells hv.arr 27)).trans (hb10.mono (by simp; have := HZ8.out; omega)))
  have HS10 : Hid (w9.heap.size < w10.heap.size) := by have := hb10.size; simp at this; show _ < _; omega
  clear ho9 hok9 hb10 HO9 HBW8 HJ8
  go_upto_region 6 with (first | (refine wpList_alloc_obj rfl 27 rfl _ iZero ?_) | (refine wpList_store_obj rfl 27 _ _ rfl w10.heap.size rfl (ItV.arr { tag := 4325496, typ := 1, ks := ⟨some ⟨w9.heap.size, 0, none⟩, 1, 1⟩, kids := [hv] }) rfl _ _ (block_new w10 _) rfl iSize (arr_one _) ?_; intro w11 hb11 hc11 hs11; have HB11 := hid hb11; have HC11 := hid hc11; clear hb11 hc11 hs11))
  have hbel : Below w10.heap.size w10 w11 := ((Below.refl _ w10).alloc (Nat.le_refl _) _).trans (HC11.out.below (fun k hk => by rw [List.mem_singleton.1 hk]; exact Nat.le_refl _) (by simp))
  obtain ⟨p2, hp2⟩ : ∃ p, p = w10.heap.size := ⟨_, rfl⟩
  obtain ⟨zb, hzb⟩ : ∃ z, z = w9.heap.size := ⟨_, rfl⟩
  have HZB : Hid (z ≤ zb) := by show z ≤ zb; rw [hzb]; exact HZ8.out
  have HPB : Hid (zb < p2) := by show zb < p2; rw [hzb, hp2]; exact HS10.out
  have HJ11 : Hid (OwnObj 27 w11 zb p2 4325496 ⟨some ⟨zb, 0, none⟩, 1, 1⟩ [hv]) := by
   subst hp2; subst hzb
   exact ⟨HB11.out, HO10.out.below hbel, fun k hk he => by simp [Sl.v, Value.ownBlock] at hk; have := HS10.out; omega, fun x hx hm => by rw [List.mem_singleton.1 hx] at hm; have := HOK9.out.lt _ (footN_sub _ _ hm); have := HS10.out; omega⟩
  have HBW11 := hid (HBW10.out.trans (hbel.mono (Nat.le_trans HZ8.out (Nat.le_of_lt HS10.out))))
  have HZ11 : Hid (zb ≤ w11.heap.size) := by show zb ≤ _; rw [hzb]; exact Nat.le_trans (Nat.le_of_lt HS10.out) hbel.size
  rw [← hp2, ← hzb]
  clear hbel hp2 hzb HB11 HC11 HO10 HBW10 HS10 HZ8 HOK9
  obtain ⟨ka, hka⟩ : ∃ ka, q.its.a = ka := ⟨_, rfl⟩
  have HKA := hid hka
  obtain ⟨kn, hkn⟩ : ∃ kn, q.its.n = kn := ⟨_, rfl⟩
  have HN := hid hkn
  rw [hkn] at hnn HKN
  clear hka hkn
  go_wp2_with fail
  go_loopw [5] (fun y wr => ∃ (k : Nat) (s2 : Sl) (l2 : List ItV), k ≤ kn ∧ y = .int .i64 k ∧ s2.n = k + 1 ∧ l2.map ItV.it = layHead q.rq :: ((q.items.take k).map fun x => layItem x.rq) ∧ Below z W wr ∧ zb ≤ wr.heap.size ∧ OwnObj 27 wr zb p2 4325496 s2 l2 ∧ ∀ x ∈ l2, b + 1 ∉ x.footN) (fun y _ => kn - (intOf y).toNat)
  case atStart => exact ⟨0, ⟨some ⟨zb, 0, none⟩, 1, 1⟩, [hv], Nat.zero_le _, rfl, rfl, by simp [HHI.out], HBW11.out, HZ11.out, HJ11.out, fun x hx => by rw [List.mem_singleton.1 hx]; exact HHF.out⟩
  case round =>
   clear HBW11 HZ11 HJ11
   obtain ⟨k, s2, l2, hk, rfl, hsk, hlo, hbw, hzw, hj, hft⟩ := hrel
   have HFT := hid hft
   clear hft
   have HBW := hid hbw; have HZW4 := hid hzw; have HJ := hid hj; have HLO := hid hlo; have HSK := hid hsk
   have hbr : Below W.heap.size W wr := by rw [← HZW.out]; exact HBW.out
   have HBR := hid hbr
   clear hbw hzw hj hlo hsk
   have c4 := cell_of_block (j := 4) (B0.out.below hbr).box (qr4 q)
   rw [HKA.out, HN.out] at c4
   clear hbr
   by_cases hlt : k < kn
   ·obtain ⟨bx, ox, x, hax, hx, hrow⟩ := (HV0.out.below HBR.out).its.rqrow (k := k) (by rw [HN.out]; exact hlt)
    rw [HKA.out] at hax
    subst hax
    have HX := hid ((HV0.out.below HBR.out).each x (List.mem_of_getElem? hx))
    have HXL : Hid (∀ k ∈ x.foot, k < b) := HQL.out x (List.mem_of_getElem? hx)
    have HT : Hid ((q.items.take (k + 1)).map (fun x => layItem x.rq) = (q.items.take k).map (fun x => layItem x.rq) ++ [layItem x.rq]) := by
     show _ = _
     rw [List.take_add_one, hx]; simp
    have HR := hid hrow
    have co := range_cell hrow 0 (v := .int .i64 x.op) rfl
    rw [Nat.add_zero] at co
    clear hx hrow
    go_wp2_with fail
    refine (refNumber_any 4325468 5 x.op _).mono ?_
    rintro e w2 ⟨rfl, hb2⟩
    have HB2 := hid hb2
    have HO2 := hid (own_one (w := w2) (T := 27) (base := w2.heap.size) { tag := 4325468, typ := 5, int := x.op } (numV_ok _ _ _ _) (Nat.le_refl _))
    clear hb2 c4 co
    go_wp2_with (refine wpList_build_item rfl 25 27 _ rfl { tag := 4325468, typ := 5, int := x.op } rfl i Tryd.underlying25 hi hz0 hz1 ?_)
    refine (refOf_any 4325391 ⟨some ⟨w2.heap.size, 0, none⟩, 1, 1⟩ _).mono ?_
    rintro e w3 ⟨rfl, hb3⟩
    have HO3 := hid (HO2.out.below hb3)
    have HS3 : Hid (w2.heap.size < w3.heap.size) := by have := hb3.size; simp at this; show _ < _; omega
    have HBL3 := hid (HB2.out.trans (((Below.refl wr.heap.size w2).alloc HB2.out.size (.cells (ItV.arr { tag := 4325468, typ := 5, int := x.op }) 27)).trans (hb3.mono (by simp; have := HB2.out.size; omega))))
    clear hb3 HO2
    go_upto_region 10 with (first | (refine wpList_alloc_obj rfl 27 rfl _ iZero ?_) | (refine wpList_store_obj rfl 27 _ _ rfl w3.heap.size rfl (ItV.arr { tag := 4325391, typ := 1, ks := ⟨some ⟨w2.heap.size, 0, none⟩, 1, 1⟩, kids := [{ tag := 4325468, typ := 5, int := x.op }] }) rfl _ _ (block_new w3 _) rfl iSize (arr_one _) ?_; intro w6 hb6 hc6 hs6; have HB6 := hid hb6; have HC6 := hid hc6; clear hb6 hc6 hs6))
    have hbel : Below w3.heap.size w3 w6 := ((Below.refl _ w3).alloc (Nat.le_refl _) _).trans (HC6.out.below (fun k hk => by rw [List.mem_singleton.1 hk]; exact Nat.le_refl _) (by simp))
    obtain ⟨p6, hp6⟩ : ∃ p, p = w3.heap.size := ⟨_, rfl⟩
    obtain ⟨zc, hzc⟩ : ∃ z, z = w2.heap.size := ⟨_, rfl⟩
    obtain ⟨c0, hc0⟩ : ∃ z, z = wr.heap.size := ⟨_, rfl⟩
    have HC0 := hid hc0
    have HZC : Hid (c0 ≤ zc) := by show c0 ≤ zc; rw [hzc, hc0]; exact HB2.out.size
    have HPB6 : Hid (zc < p6) := by show zc < p6; rw [hzc, hp6]; exact HS3.out
    have HZB0 : Hid (zb ≤ c0) := by show zb ≤ c0; rw [hc0]; exact HZW4.out
    have HJ6 : Hid (OwnObj 27 w6 zc p6 4325391 ⟨some ⟨zc, 0, none⟩, 1, 1⟩ [{ tag := 4325468, typ := 5, int := x.op }]) := by
     subst hp6; subst hzc
     exact ⟨HB6.out, HO3.out.below hbel, fun k hk he => by simp [Sl.v, Value.ownBlock] at hk; have := HS3.out; omega, fun x hx hm => by rw [List.mem_singleton.1 hx] at hm; have := numV_foot (fun _ => False) _ (footN_sub _ _ hm); exact this⟩
    have HBL6 : Hid (Below c0 wr w6) := by show Below c0 wr w6; rw [hc0]; exact HBL3.out.trans (hbel.mono HBL3.out.size)
    have HZ6 : Hid (zc ≤ w6.heap.size) := by show zc ≤ _; rw [hzc]; exact Nat.le_trans (Nat.le_of_lt HS3.out) hbel.size
    rw [← hp6, ← hzc]
    clear hbel hp6 hzc hc0 HB6 HC6 HO3 HS3 HBL3 HB2
    have hb6 : Below wr.heap.size wr w6 := by rw [← HC0.out]; exact HBL6.out
    have c4 := cell_of_block (j := 4) ((B0.out.below HBR.out).below hb6).box (qr4 q)
    rw [HKA.out, HN.out] at c4
    have ch := range_cell (range_later hb6 HR.out) 1 (v := .bool x.has) rfl
    have HB6' := hid hb6
    clear hb6
    go_upto_if 64 with (fail)
    clear c4 ch
    go_cut [6] (fun u wx => ∃ (s : Sl) (l : List ItV), u = .pointer (some ⟨p6, 0, none⟩) ∧ OwnObj 27 wx zc p6 4325391 s l ∧ s.n = l.length ∧ l.length ≤ 2 ∧ l.map ItV.it = [numI 4325468 5 x.op] ++ (if x.has then [{ tag := 4325523, typ := 8, data := x.id }] else []) ∧ (∀ y ∈ l, ∀ k ∈ y.foot, k < b) ∧ Below c0 wr wx ∧ zc ≤ wx.heap.size)
    case first =>
     cases hh : x.has with
     | false =>
      go_wp2_with fail
      go_meet
      exact ⟨_, _, rfl, HJ6.out, rfl, by simp, by simp [numV_it, hh], fun y hy => by rw [List.mem_singleton.1 hy]; exact numV_foot _, HBL6.out, HZ6.out⟩
     | true =>
      have HHH := hid hh
      obtain ⟨s, hs⟩ : ∃ s : Sl, s = ⟨some ⟨zc, 0, none⟩, 1, 1⟩ := ⟨_, rfl⟩
      have HSN : Hid (s.n = 1) := by show s.n = 1; rw [hs]
      rw [← hs] at HJ6
      clear hs
      go_upto_region 11 with (fail)
      clear hh
      have HBB := hid ((B0.out.below HBR.out).below HB6'.out)
      have HX6 := hid (HX.out.below HB6'.out)
      have HR6 := hid (range_later HB6'.out HR.out)
      refine wp_region_each 10 [.eq (.pointer (some ⟨p6, 4, none⟩)), .eq (.slice s.a s.n s.c), .eq (.pointer (some ⟨b, 4, none⟩)), .eq (.slice (some ⟨bx, ox, none⟩) kn q.its.c), .eq (.int .i64 (k : Int)), .eq (.pointer (some ⟨bx, ox + k * 8, none⟩)), .eq (.pointer (some ⟨bx, ox + k * 8 + 2, none⟩)), .eq (.slice x.ids.a x.ids.n x.ids.c), stMadeP { tag := 4325523, typ := 8, data := x.id } (· < b), stItemsP [{ tag := 4325523, typ := 8, data := x.id }] 1 (· < b)] (by kernel_rfl) (by kernel_rfl) (by kernel_rfl) (by kernel_rfl) ?_ ?_
      ·as_aux_lemma =>
        refine each_5 ?_ ?_ ?_ ?_ ?_ (each_5 ?_ ?_ ?_ ?_ ?_ (each_n))
        ·intro w1 hg Ar seen
         have s6 := seen.sl 6 (.pointer (some ⟨p6, 0, none⟩))
         refine does_plain rfl fun K Q' hK => ?_
         go_simp; exact hK _ _ (Grow.refl _) rfl
        ·intro w1 hg Ar seen
         have e0 := seen.de 0 65
         refine does_plain rfl fun K Q' hK => ?_
         have hc := cell_of_block (j := 4) ((hg.block _ (block_lt HJ6.out.blk)).trans HJ6.out.blk) (ar4 _)
         go_simp; exact hK _ _ (Grow.refl _) rfl
        ·intro w1 hg Ar seen
         have s1 := seen.sl 1 (.pointer (some ⟨b, 0, none⟩))
         refine does_plain rfl fun K Q' hK => ?_
         go_simp; exact hK _ _ (Grow.refl _) rfl
        ·intro w1 hg Ar seen
         have e2 := seen.de 2 67
         refine does_plain rfl fun K Q' hK => ?_
         have hc := cell_of_block (j := 4) ((hg.block _ (block_lt HBB.out.box)).trans HBB.out.box) (qr4 _); rw [HKA.out, HN.out] at hc
         go_simp; exact hK _ _ (Grow.refl _) rfl
        ·intro w1 hg Ar seen
         have s5 := seen.sl 5 (.int .i64 (k : Int))
         refine does_plain rfl fun K Q' hK => ?_
         go_simp; exact hK _ _ (Grow.refl _) rfl
        ·intro w1 hg Ar seen
         have e3 := seen.de 3 68
         have e4 := seen.de 4 69
         refine does_plain rfl fun K Q' hK => ?_
         go_simp; exact hK _ _ (Grow.refl _) rfl
        ·intro w1 hg Ar seen
         have e5 := seen.de 5 70
         refine does_plain rfl fun K Q' hK => ?_
         go_simp; exact hK _ _ (Grow.refl _) rfl
        ·intro w1 hg Ar seen
         have e6 := seen.de 6 71
         refine does_plain rfl fun K Q' hK => ?_
         have hc := range_cell (range_later hg HR6.out) 2 (v := .slice x.ids.a x.ids.n x.ids.c) rfl
         go_simp; exact hK _ _ (Grow.refl _) rfl
        ·intro w1 hg Ar seen
         have e7 := seen.de 7 72
         refine does_plain rfl fun K Q' hK => ?_
         go_simp
         refine (refBytes_any 4325523 x.ids _).mono ?_
         rintro e u ⟨rfl, hb⟩
         exact hK _ _ hb ⟨{ tag := 4325523, typ := 8, data := x.id, ds := x.ids }, rfl, it_flat _ _ _ _ _, ok_flat ((HX6.out.ids.below hg).below hb), fun k hk => HXL.out k (List.mem_append_left _ (foot_flat hk))⟩
        ·intro w1 hg Ar seen
         obtain ⟨v8, e8, h8⟩ := seen.dp 8 73
         refine does_plain rfl fun K Q' hK => ?_
         obtain ⟨x8, rfl, hi8, ho8, hf8⟩ := h8
         refine wp_build_itemsP _ 27 1 _ rfl [x8] rfl (by decide) (by decide) (by simp [Act.eval, e8] <;> rfl) (x8.arr) (by simp [itmCells, ItV.cells]) i Tryd.underlying25 hi hz0 hz1 (fill1 x8) ?_
         intro s hn hs
         exact hK _ _ ((Below.refl _ _).alloc (Nat.le_refl _) _) ⟨s, [x8], rfl, hn, by simp [hi8], hs, fun x hx => by simp only [List.mem_cons, List.not_mem_nil, or_false] at hx; rcases hx with rfl <;> first | exact ⟨ho8.below ((Below.refl _ _).alloc (Nat.le_refl _) _), hf8⟩⟩
      intro w1 hg
      refine upon_w' (js := [0, 1, 2, 3, 4, 5, 6, 7, 8, 9]) (by rfl) ?_
      refine upon_e (some 65) (upon_e (some 66) (upon_e (some 67) (upon_e (some 68) (upon_e (some 69) (upon_e (some 70) (upon_e (some 71) (upon_e (some 72) (upon_v (some 73) fun v8 h8 => upon_v (some 74) fun v9 h9 => upon_n ?_))))))))
      obtain ⟨s1, ys, rfl, hn1, hyi, hs1, hys⟩ := h9
      obtain ⟨a1, n1, c1⟩ := s1
      simp only at hn1
      subst hn1
      have HYS := hid hys; have HS1 := hid hs1; have HYI2 := hid hyi
      have HJ1 := hid (HJ6.out.below hg)
      have HBL1 := hid (HBL6.out.trans (hg.mono (Nat.le_trans HZC.out HZ6.out)))
      have HZ1 : Hid (zc ≤ w1.heap.size) := Nat.le_trans HZ6.out hg.size
      have HORD : Hid (b + 2 ≤ zc) := by have := HZC.out; have := HZB0.out; have := HZB.out; have := HBZ.out; show b + 2 ≤ zc; omega
      clear hyi hs1 hys hg h8 HJ6 HBB HX6 HR6 HBL6
      go_simp
      go_wp2_with (at_builtin; go_must (refine wpList_append_c rfl _ _ 25 rfl zc 27 i _ 5 72 Tryd.underlying25 hi hz0 hz1 hz2 rfl (by decide) (.slice s.a s.n s.c) s.n _ rfl HJ1.out.own.own _ 1 _ (itmCells ys) rfl HS1.out.rd (itm_one ys) HS1.out.no (by unfold maxLen; have := HSN.out; omega) (by have := HSN.out; omega) HZ1.out ?_); intro a' c' w8 hown hgw hfr; have hpush := HJ1.out.push (ys := ys) (a := a') (n := s.n + 1) (c := c') (Below.refl _ _) (fun y hy => (HYS.out y hy).1) (fun y hy k hk => ⟨fun he => by have := (HJ1.out.own.own.lt k he).1; have := (HYS.out y hy).2 k hk; have := HORD.out; omega, by have := HPB6.out; have := (HYS.out y hy).2 k hk; have := HORD.out; omega⟩) (by rw [itm_app]; exact hown) hgw hfr; have hq4 := cell_of_block (j := 4) hpush.1 (ar4 _); have hp8 := hid hpush.1; have hfz : ∀ j, w8.frozen? ⟨p6, j, none⟩ = false := (fun j => frozen_of_block hp8.out); have HJ8 := hid hpush.2; have HG8 := hid hgw; clear hown hgw hfr hpush hp8)
      clear hq4 hfz
      have hgb : Below c0 w1 w8 := (Below.refl _ _).grown HG8.out (Nat.le_trans HZC.out HZ1.out) (fun k hk => Nat.le_trans HZC.out (HJ1.out.own.own.lt k hk).1)
      have HLY : Hid (ys.length = 1) := by show _ = _; have h1 := congrArg List.length HYI2.out; simpa using h1
      go_meet
      exact ⟨⟨a', s.n + 1, c'⟩, [{ tag := 4325468, typ := 5, int := x.op }] ++ ys, rfl, HJ8.out, by simp [HLY.out]; have := HSN.out; omega, by simp [HLY.out], by rw [List.map_append, HYI2.out]; simp [HHH.out, numV_it], fun y hy k hk => by
       rcases List.mem_append.1 hy with h' | h'
       ·rw [List.mem_singleton.1 h'] at hk; exact numV_foot (· < b) k hk
       ·exact (HYS.out y h').2 k hk, (HBL1.out.trans hgb).setCell (by have := HPB6.out; have := HZC.out; show c0 ≤ p6; omega) _, Nat.le_trans HZ1.out (Nat.le_trans hgb.size (by simp [World.setCell]))⟩
    case rest =>
     clear HJ6 HBL6 HZ6 HB6'
     obtain ⟨s, l, rfl, hj6, hsn, hl2, hli, hlf, hbl, hz6⟩ := hcut
     have HJ6 := hid hj6; have HSN := hid hsn; have HL2 := hid hl2; have HLI := hid hli; have HLF := hid hlf; have HBL := hid hbl; have HZ6 := hid hz6
     have hb6 : Below wr.heap.size wr wc := by rw [← HC0.out]; exact hbl
     have HB6' := hid hb6
     clear hj6 hsn hl2 hli hlf hbl hz6 hb6
     have HBB := hid ((B0.out.below HBR.out).below HB6'.out)
     have HX6 := hid (HX.out.below HB6'.out)
     have HR6 := hid (range_later HB6'.out HR.out)
     go_upto_region 12 with (fail)
     refine wp_region_each 9 [.eq (.pointer (some ⟨p6, 4, none⟩)), .eq (.slice s.a s.n s.c), .eq (.pointer (some ⟨b, 4, none⟩)), .eq (.slice (some ⟨bx, ox, none⟩) kn q.its.c), .eq (.int .i64 (k : Int)), .eq (.pointer (some ⟨bx, ox + k * 8, none⟩)), .eq (.pointer (some ⟨bx, ox + k * 8 + 3, none⟩)), stMadeP x.pay.it (· < b), stItemsP [x.pay.it] 1 (· < b)] (by kernel_rfl) (by kernel_rfl) (by kernel_rfl) (by kernel_rfl) ?_ ?_
     ·as_aux_lemma =>
       refine each_5 ?_ ?_ ?_ ?_ ?_ (each_c ?_ (each_c ?_ (each_c ?_ (each_c ?_ (each_n)))))
       ·intro w1 hg Ar seen
        have s6 := seen.sl 6 (.pointer (some ⟨p6, 0, none⟩))
        refine does_plain rfl fun K Q' hK => ?_
        go_simp; exact hK _ _ (Grow.refl _) rfl
       ·intro w1 hg Ar seen
        have e0 := seen.de 0 77
        refine does_plain rfl fun K Q' hK => ?_
        have hc := cell_of_block (j := 4) ((hg.block _ (block_lt HJ6.out.blk)).trans HJ6.out.blk) (ar4 _)
        go_simp; exact hK _ _ (Grow.refl _) rfl
       ·intro w1 hg Ar seen
        have s1 := seen.sl 1 (.pointer (some ⟨b, 0, none⟩))
        refine does_plain rfl fun K Q' hK => ?_
        go_simp; exact hK _ _ (Grow.refl _) rfl
       ·intro w1 hg Ar seen
        have e2 := seen.de 2 79
        refine does_plain rfl fun K Q' hK => ?_
        have hc := cell_of_block (j := 4) ((hg.block _ (block_lt HBB.out.box)).trans HBB.out.box) (qr4 _); rw [HKA.out, HN.out] at hc
        go_simp; exact hK _ _ (Grow.refl _) rfl
       ·intro w1 hg Ar seen
        have s5 := seen.sl 5 (.int .i64 (k : Int))
        refine does_plain rfl fun K Q' hK => ?_
        go_simp; exact hK _ _ (Grow.refl _) rfl
       ·intro w1 hg Ar seen
        have e3 := seen.de 3 80
        have e4 := seen.de 4 81
        refine does_plain rfl fun K Q' hK => ?_
        go_simp; exact hK _ _ (Grow.refl _) rfl
       ·intro w1 hg Ar seen
        have e5 := seen.de 5 82
        refine does_plain rfl fun K Q' hK => ?_
        go_simp; exact hK _ _ (Grow.refl _) rfl
       ·intro w1 hg Ar seen
        have e6 := seen.de 6 83
        refine does_plain rfl fun K Q' hK => ?_
        refine wp_load_mid 27 _ rfl bx (ox + k * 8 + 3) (by simp [Act.eval, e6]) x.pay.arr.toList _ (pay_later (range_later hg HR6.out)) Tryd.underlying27 rfl iSize ?_
        exact hK _ _ (Grow.refl _) ⟨x.pay, rfl, rfl, HX6.out.pay.below hg, fun k hk => HXL.out k (List.mem_append_right _ hk)⟩
       ·intro w1 hg Ar seen
        obtain ⟨v7, e7, h7⟩ := seen.dp 7 84
        refine does_plain rfl fun K Q' hK => ?_
        obtain ⟨x7, rfl, hi7, ho7, hf7⟩ := h7
        refine wp_build_itemsP _ 27 1 _ rfl [x7] rfl (by decide) (by decide) (by simp [Act.eval, e7] <;> rfl) (x7.arr) (by simp [itmCells, ItV.cells]) i Tryd.underlying25 hi hz0 hz1 (fill1 x7) ?_
        intro s hn hs
        exact hK _ _ ((Below.refl _ _).alloc (Nat.le_refl _) _) ⟨s, [x7], rfl, hn, by simp [hi7], hs, fun x hx => by simp only [List.mem_cons, List.not_mem_nil, or_false] at hx; rcases hx with rfl <;> first | exact ⟨ho7.below ((Below.refl _ _).alloc (Nat.le_refl _) _), hf7⟩⟩
     intro w1 hg
     refine upon_w' (js := [0, 1, 2, 3, 4, 5, 6, 7, 8]) (by rfl) ?_
     refine upon_e (some 77) (upon_e (some 78) (upon_e (some 79) (upon_e (some 80) (upon_e (some 81) (upon_e (some 82) (upon_e (some 83) (upon_v (some 84) fun v7 h7 => upon_v (some 85) fun v8 h8 => upon_n ?_)))))))
     obtain ⟨s1, ys, rfl, hn1, hyi, hs1, hys⟩ := h8
     obtain ⟨a1, n1, c1⟩ := s1
     simp only at hn1
     subst hn1
     have HYS := hid hys; have HS1 := hid hs1; have HYI2 := hid hyi
     have HJ1 := hid (HJ6.out.below hg)
     have HBL1 := hid (HBL.out.trans (hg.mono (Nat.le_trans HZC.out HZ6.out)))
     have HZ1 : Hid (zc ≤ w1.heap.size) := Nat.le_trans HZ6.out hg.size
     have HORD : Hid (b + 2 ≤ zc) := by have := HZC.out; have := HZB0.out; have := HZB.out; have := HBZ.out; show b + 2 ≤ zc; omega
     clear hyi hs1 hys hg h7 HJ6 HBB HX6 HR6 HBL
     go_simp
     go_upto_region 13 with (at_builtin; go_must (refine wpList_append_c rfl _ _ 25 rfl zc 27 i _ 5 72 Tryd.underlying25 hi hz0 hz1 hz2 rfl (by decide) (.slice s.a s.n s.c) s.n _ rfl HJ1.out.own.own _ 1 _ (itmCells ys) rfl HS1.out.rd (itm_one ys) HS1.out.no (by unfold maxLen; have := HSN.out; have := HL2.out; omega) (by have := HSN.out; have := HL2.out; omega) HZ1.out ?_); intro a' c' w8 hown hgw hfr; have hpush := HJ1.out.push (ys := ys) (a := a') (n := s.n + 1) (c := c') (Below.refl _ _) (fun y hy => (HYS.out y hy).1) (fun y hy k hk => ⟨fun he => by have := (HJ1.out.own.own.lt k he).1; have := (HYS.out y hy).2 k hk; have := HORD.out; omega, by have := HPB6.out; have := (HYS.out y hy).2 k hk; have := HORD.out; omega⟩) (by rw [itm_app]; exact hown) hgw hfr; have hq4 := cell_of_block (j := 4) hpush.1 (ar4 _); have hp8 := hid hpush.1; have hfz : ∀ j, w8.frozen? ⟨p6, j, none⟩ = false := (fun j => frozen_of_block hp8.out); have HJ8 := hid hpush.2; have HG8 := hid hgw; clear hown hgw hfr hpush hp8)
     clear hq4 hfz
     have hgb : Below c0 w1 w8 := (Below.refl _ _).grown HG8.out (Nat.le_trans HZC.out HZ1.out) (fun k hk => Nat.le_trans HZC.out (HJ1.out.own.own.lt k hk).1)
     have hb9 : Below c0 wr (w8.setCell ⟨p6, 4, none⟩ (.slice a' (s.n + 1) c')) := (HBL1.out.trans hgb).setCell (by have := HPB6.out; have := HZC.out; show c0 ≤ p6; omega) _
     have HBL9 := hid hb9
     rw [HC0.out] at hb9
     have HJ9 := hid (HJ.out.below hb9)
     have HZ9 : Hid (zb ≤ (w8.setCell ⟨p6, 4, none⟩ (.slice a' (s.n + 1) c')).heap.size) := Nat.le_trans HZB0.out (Nat.le_trans HZC.out (Nat.le_trans HZ1.out (Nat.le_trans hgb.size (by simp [World.setCell]))))
     have HSO : Hid (∀ k, s2.v.ownBlock = some k → k < c0 ∧ zb ≤ k) := fun k hk => by rw [HC0.out]; exact ⟨(HJ.out.own.own.lt k hk).2, (HJ.out.own.own.lt k hk).1⟩
     have HP2C : Hid (p2 < c0) := by show p2 < c0; rw [HC0.out]; exact block_lt HJ.out.blk
     have hbi : ItV.it { tag := 4325391, typ := 1, ks := ⟨a', s.n + 1, c'⟩, kids := l ++ ys } = layItem x.rq := by
      rw [ItV.it_eq]
      show Itm.mk 4325391 1 0 [] ((l ++ ys).map ItV.it) = _
      rw [List.map_append, HLI.out, HYI2.out]
      rfl
     have hbf : ∀ k ∈ ItV.foot { tag := 4325391, typ := 1, ks := ⟨a', s.n + 1, c'⟩, kids := l ++ ys }, zc ≤ k ∨ k < b := fun k hk => by
      rcases ItV.mem_foot.1 hk with h' | h' | ⟨y, hy, h'⟩
      ·simp [Sl.blk] at h'
      ·exact .inl (blk_own HJ8.out.own.own k h')
      ·rcases List.mem_append.1 hy with h9 | h9
       ·exact .inr (HLF.out y h9 k h')
       ·exact .inr ((HYS.out y h9).2 k h')
     have hbo := HJ8.out.item (by have h1 := HSN.out; have h2 := HL2.out; show s.n + 1 ≤ _; omega)
     have hblk := HJ8.out.blk
     generalize ({ tag := 4325391, typ := 1, ks := ⟨a', s.n + 1, c'⟩, kids := l ++ ys } : ItV) = bv at *
     have HBI := hid hbi; have HBF := hid hbf; have HBO := hid hbo; have HBK := hid hblk
     clear hb9 hbi hbf hbo hblk hgb HJ8 HJ1 HBL1 HG8 HYS HS1 HYI2 HLI HLF HL2 HSN HJ HZ1
     generalize w8.setCell ⟨p6, 4, none⟩ (.slice a' (s.n + 1) c') = w9 at *
     have hc4 := cell_of_block (j := 4) HJ9.out.blk (ar4 _)
     simp only at hc4
     have hb9 := HBL9.out
     go_wp2_with (first | (refine wpList_load_row rfl 27 _ rfl p6 rfl _ _ _ _ HBK.out Tryd.underlying27 rfl iSize ?_) | (refine wpList_build_item rfl 25 27 _ rfl bv rfl i Tryd.underlying25 hi hz0 hz1 ?_) | (at_builtin; go_must (refine wpList_append_c rfl _ _ 25 rfl zb 27 i _ 5 72 Tryd.underlying25 hi hz0 hz1 hz2 rfl (by decide) (.slice s2.a s2.n s2.c) s2.n _ rfl (HJ9.out.below ((Below.refl _ _).alloc (Nat.le_refl _) (.cells bv.arr 27))).own.own _ 1 _ bv.cells rfl (RdC.new _ _ _ _ bv.cells (by simp [ItV.cells]) 5 rfl _ rfl) (by have := itm_one [bv]; simpa [itmCells] using this) (fun hx => by cases hx) (by unfold maxLen; have := HSK.out; omega) (by have := HSK.out; omega) (by have := HZ9.out; simp; omega) ?_); intro a2 c2 w11 hown hgw hfr; have hpush := HJ9.out.push (ys := [bv]) (a := a2) (n := s2.n + 1) (c := c2) ((Below.refl _ _).alloc (Nat.le_refl _) (.cells bv.arr 27)) (fun y hy => by rw [List.mem_singleton.1 hy]; exact HBO.out) (fun y hy k hk => by rw [List.mem_singleton.1 hy] at hk; have h1 := HBF.out k hk; have h2 := HZC.out; have h3 := HP2C.out; have h4 := HPB.out; have h5 := HZB.out; have h6 := HBZ.out; exact ⟨fun he => by have := HSO.out k he; omega, by omega⟩) (by rw [itm_app]; simpa [itmCells] using hown) hgw hfr; have hq4 := cell_of_block (j := 4) hpush.1 (ar4 _); have hp8 := hid hpush.1; have hfz : ∀ j, w11.frozen? ⟨p2, j, none⟩ = false := (fun j => frozen_of_block hp8.out); have HJN := hid hpush.2; have HGN := hid hgw; clear hown hgw hfr hpush hp8))
     clear hq4 hfz hc4
     have hgn : Below zb w9 w11 := ((Below.refl zb w9).alloc HZ9.out (.cells bv.arr 27)).grown HGN.out (by simp; have := HZ9.out; omega) (fun k hk => (HSO.out k hk).2)
     have hbwn : Below z W (w11.setCell ⟨p2, 4, none⟩ (.slice a2 (s2.n + 1) c2)) := ((HBW.out.trans (HBL9.out.mono (Nat.le_trans HZB.out HZB0.out))).trans (hgn.mono HZB.out)).setCell (by have := HPB.out; have := HZB.out; show z ≤ p2; omega) _
     have hzn : zb ≤ (w11.setCell ⟨p2, 4, none⟩ (.slice a2 (s2.n + 1) c2)).heap.size := Nat.le_trans HZ9.out (Nat.le_trans hgn.size (by simp [World.setCell]))
     have hln : (l2 ++ [bv]).map ItV.it = layHead q.rq :: ((q.items.take (k + 1)).map fun x => layItem x.rq) := by rw [List.map_append, HLO.out, HT.out, List.map_cons, List.map_nil, HBI.out]; rfl
     have hftn : ∀ x ∈ l2 ++ [bv], b + 1 ∉ x.footN := fun x hx hm => by
      rcases List.mem_append.1 hx with h' | h'
      ·exact HFT.out x h' hm
      ·rw [List.mem_singleton.1 h'] at hm
       have h1 := HBF.out _ (footN_sub _ _ hm); have h2 := HZC.out; have h4 := HZB0.out; have h5 := HZB.out; have h6 := HBZ.out
       omega
     have HN9 := hid (And.intro hln (And.intro hbwn (And.intro hzn (And.intro HJN.out hftn))))
     clear hgn hbwn hzn hln hb9 hftn
     go_roundw
     case rel =>
      have hsk := HSK.out
      first
       | exact ⟨k + 1, ⟨a2, s2.n + 1, c2⟩, l2 ++ [bv], by omega, by go_num, by simp; omega, HN9.out⟩
       | ((repeat apply Exists.intro); exact ⟨⟨k + 1, ⟨a2, s2.n + 1, c2⟩, l2 ++ [bv], by omega, by go_num, by simp; omega, HN9.out⟩, rfl⟩)
     case measure => simp [intOf]; omega
   ·obtain rfl : k = kn := by omega
    go_wp2_with (first | (refine wpList_load_row rfl 27 _ rfl p2 rfl _ _ _ _ HJ.out.blk Tryd.underlying27 rfl iSize ?_) | (refine wpList_store_obj rfl 27 _ _ rfl (b + 1) rfl _ rfl _ _ (B0.out.below HBR.out).res rfl iSize (arr_one _) ?_; intro w10 hb10 hc10 hs10; have HB10 := hid hb10; have HC10 := hid hc10; clear hb10 hc10 hs10))
    refine bodyPost_ret (results_cell_row rfl _ _ (b + 1) _ _ _ _ rfl HB10.out Tryd.underlying27 rfl iSize) rfl ?_
    have hok : ItV.ok wr { tag := 4325496, typ := 1, ks := s2, kids := l2 } := HJ.out.item (by have := HSK.out; omega)
    refine ⟨{ tag := 4325496, typ := 1, ks := s2, kids := l2 }, rfl, ?_, ItV.ok.keepN HC10.out hok (fun j hj hm => ?_), ?_, rfl, rfl, ⟨zb, by have h1 := HBE.out; have h3 := HZB.out; have h4 := HBZ.out; omega, HC10.out.owns HJ.out.own.own (fun k hk hm => by have h1 := (HJ.out.own.own.lt k hk).1; have h2 := List.mem_singleton.1 hm; have h3 := HZB.out; have h4 := HBZ.out; omega)⟩, HJ.out.own.apart⟩
    ·rw [ItV.it_eq]
     show Itm.mk 4325496 1 0 [] (l2.map ItV.it) = _
     rw [HLO.out, List.take_of_length_le (by rw [HKN.out]; exact Nat.le_refl _)]
     unfold layV ofI
     show _ = Itm.mk 4325496 1 0 [] (layHead q.rq :: ((q.items.map RqIV.rq).map layItem))
     rw [List.map_map]; rfl
    ·rw [List.mem_singleton.1 hm] at hj
     rcases ItV.mem_footN.1 hj with ⟨h', _⟩ | ⟨_, h'⟩ | ⟨x, hx, h'⟩
     ·exact h' rfl
     ·have := blk_own HJ.out.own.own _ h'; have := HZB.out; have := HBZ.out; omega
     ·exact HFT.out x hx h'
    ·exact (B0.out.below HBR.out).done HC10.out
theorem layRequest_any (q : RqV) (w : World) (hq : q.ok w) (hnn : q.its.n ≤ 1000000) : Calls Tryd.prog 18 #[.agg q.arr] w fun e w' => ∃ v : ItV, e = .returned (.agg v.arr) ∧ v.it = layV q.rq ∧ v.ok w' ∧ Below w.heap.size w w' :=
 (layRequest_own q w hq hnn).mono fun e w' ⟨v, h1, h2, h3, h4, _⟩ => ⟨v, h1, h2, h3, h4⟩
end Go.Proofs.YtbnbofooofedkaaDoor
