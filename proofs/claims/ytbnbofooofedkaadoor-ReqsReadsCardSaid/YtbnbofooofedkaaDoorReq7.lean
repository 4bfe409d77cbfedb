/- reqs.Lay. -/
import Derived.Test.YtbnbofooofedkaaDoorReq6
import Derived.Test.YtbnbofooofedkaaDoorFootN
namespace Go.Proofs.YtbnbofooofedkaaDoor
open Go.RowKit
set_option linter.unusedVariables false
set_option linter.unusedSimpArgs false
set_option maxRecDepth 100000
set_option maxHeartbeats 3200000
theorem layInt_any (t n : Int) (w : World) : Calls Tryd.prog 38 #[.int .i64 t, .int .i64 n] w fun e w' => e = .returned (.agg (ItV.arr { tag := t, typ := 2, int := n })) ∧ Below w.heap.size w w' := by
 generalize hbe : w.heap.size = b
 have HBE := hid hbe; clear hbe
 go_enter Tryd.func38, Tryd.ntmps38
 go_upto_region 1 with (refine wpList_alloc_obj rfl 27 rfl _ iZero ?_)
 go_simp
 have hbw : Below w.heap.size w (w.alloc (.cells itZ.arr 27)) := (Below.refl _ _).alloc (Nat.le_refl _) _
 have hb0 := block_new w (.cells itZ.arr 27)
 have hsz : (w.alloc (.cells itZ.arr 27)).heap.size = w.heap.size + 1 := by simp
 rw [HBE.out] at hbw hb0 hsz ⊢
 have HBW := hid hbw; have HB0 := hid hb0; have HSZ := hid hsz
 clear hbw hb0 hsz
 generalize w.alloc (.cells itZ.arr 27) = W at *
 go_wp2_with fail
 refine (payNumber_any t 2 n _).mono ?_
 rintro e w2 ⟨rfl, hb2⟩
 have HB2 := hid ((hb2.block _ (block_lt HB0.out)).trans HB0.out)
 have HBW2 := hid (HBW.out.trans (hb2.mono (by rw [HSZ.out]; omega)))
 have HSZ2 : Hid (b ≤ w2.heap.size) := by have := hb2.size; show b ≤ _; rw [HSZ.out] at this; omega
 clear hb2 HB0 HBW
 go_wp2_with (refine wpList_store_obj rfl 27 _ _ rfl b rfl (ItV.arr { tag := t, typ := 2, int := n }) rfl _ _ HB2.out rfl iSize (arr_one _) ?_; intro w10 hb10 hc10 hs10; have HB10 := hid hb10; have HC10 := hid hc10; clear hb10 hc10 hs10)
 refine bodyPost_ret (results_cell_row rfl _ _ b _ _ _ _ rfl HB10.out Tryd.underlying27 rfl iSize) rfl ?_
 exact ⟨rfl, HBW2.out.trans (HC10.out.below (fun k hk => by rw [List.mem_singleton.1 hk]; exact Nat.le_refl _) HSZ2.out)⟩
theorem head_some (q : Rq) (n : Int) (hn : n = (q.items.length : Int)) : ofI 4325495 (someI [ofI 4325481 [numI 4325482 2 q.major, numI 4325483 2 q.minor], if (q.max != 0) then numI 4325456 2 q.max else {}, numI 4325390 5 q.opt, numI 4325389 2 n]) = layHead q := by
 subst hn
 unfold layHead someI
 by_cases h : q.max = 0
 ·simp [h, ofI, numI]
 ·have : (q.max != 0) = true := by simpa using h
  simp [h, this, ofI, numI]
theorem nz_head (q : Rq) : nz (layHead q) = true := by
 unfold layHead ofI numI
 by_cases h : q.max = 0 <;> simp [h, nz, nzAll]
theorem item_some (x : RqI) (h : x.pay.tag ≠ 0) : ofI 4325391 (someI [numI 4325468 5 x.op, if x.has then { tag := 4325523, typ := 8, data := x.id } else {}, x.pay]) = layItem x := by
 have h' : (x.pay.tag != 0) = true := by simpa using h
 unfold layItem someI
 cases hh : x.has <;> simp [hh, h', ofI, numI]
theorem Lay_any (q : RqV) (w : World) (hq : q.ok w) (hp : ∀ x ∈ q.items, x.pay.tag ≠ 0) (hnn : q.its.n ≤ 1000000) : Calls Tryd.prog 17 #[.agg q.arr] w (Made (layV q.rq) w) := by
 obtain ⟨i, hi, hz0, hz1, hz2⟩ := info_parts iInfo
 have HV := hid hq; have HPT := hid hp
 have HKN := hid hq.its.qlen
 clear hq hp
 generalize hbe : w.heap.size = b
 have HBE := hid hbe; clear hbe
 go_enter Tryd.func17, Tryd.ntmps17
 go_upto_region 1 with (refine wpList_alloc_obj rfl 27 rfl _ iZero ?_)
 go_simp
 have B0 := hid (Bx2.start (T := 32) (T' := 27) (cs := q.arr) (zs := itZ.arr) (w := w) HBE.out)
 rw [HBE.out]
 have HV0 := hid (HV.out.below (((Below.refl _ w).alloc (Nat.le_refl _) (.cells q.arr 32)).alloc (by simp) (.cells itZ.arr 27)))
 generalize (w.alloc (.cells q.arr 32)).alloc (.cells itZ.arr 27) = W at *
 clear HV
 go_upto_region 2 with (fail)
 obtain ⟨z, hzw⟩ : ∃ z, z = W.heap.size := ⟨_, rfl⟩
 have HZW := hid hzw
 have HBZ : Hid (b + 2 ≤ z) := by show _ ≤ _; rw [hzw]; exact B0.out.size
 clear hzw
 refine wp_region_each 30 [.eq (.func (.func 38) #[] #[]), .eq (.pointer (some ⟨b, 0, none⟩)), .eq (.int .i64 q.major), stMade (numI 4325482 2 q.major), .eq (.func (.func 38) #[] #[]), .eq (.pointer (some ⟨b, 1, none⟩)), .eq (.int .i64 q.minor), stMade (numI 4325483 2 q.minor), stItems [numI 4325482 2 q.major, numI 4325483 2 q.minor], stMade (ofI 4325481 [numI 4325482 2 q.major, numI 4325483 2 q.minor]), .eq (.pointer (some ⟨b, 2, none⟩)), .eq (.int .i64 q.max), .eq (.bool (q.max != 0)), .eq (.func (.func 38) #[] #[]), .eq (.pointer (some ⟨b, 2, none⟩)), .eq (.int .i64 q.max), stMade (numI 4325456 2 q.max), stMade (if (q.max != 0) then numI 4325456 2 q.max else {}), .eq (.pointer (some ⟨b, 3, none⟩)), .eq (.int .i64 q.opt), stMade (numI 4325390 5 q.opt), .eq (.func (.func 38) #[] #[]), .eq (.pointer (some ⟨b, 4, none⟩)), .eq (.slice q.its.a q.its.n q.its.c), .eq (.int .i64 (q.its.n : Int)), stMade (numI 4325389 2 (q.its.n : Int)), stItems [(ofI 4325481 [numI 4325482 2 q.major, numI 4325483 2 q.minor]), (if (q.max != 0) then numI 4325456 2 q.max else {}), numI 4325390 5 q.opt, numI 4325389 2 (q.its.n : Int)], stItems (someI [(ofI 4325481 [numI 4325482 2 q.major, numI 4325483 2 q.minor]), (if (q.max != 0) then numI 4325456 2 q.max else {}), numI 4325390 5 q.opt, numI 4325389 2 (q.its.n : Int)]), stMade (ofI 4325495 (someI [(ofI 4325481 [numI 4325482 2 q.major, numI 4325483 2 q.minor]), (if (q.max != 0) then numI 4325456 2 q.max else {}), numI 4325390 5 q.opt, numI 4325389 2 (q.its.n : Int)])), stNewQ 27 itZ.arr z] (by kernel_rfl) (by kernel_rfl) (by kernel_rfl) (by kernel_rfl) ?_ ?_
 ·as_aux_lemma =>
   refine each_5 ?_ ?_ ?_ ?_ ?_ (each_5 ?_ ?_ ?_ ?_ ?_ (each_5 ?_ ?_ ?_ ?_ ?_ (each_5 ?_ ?_ ?_ ?_ ?_ (each_5 ?_ ?_ ?_ ?_ ?_ (each_5 ?_ ?_ ?_ ?_ ?_ (each_n))))))
   ·intro w1 hg Ar seen
    have s3 := seen.sl 3 (.func (.func 38) #[] #[])
    refine does_plain rfl fun K Q' hK => ?_
    go_simp; exact hK _ _ (Grow.refl _) rfl
   ·intro w1 hg Ar seen
    have s1 := seen.sl 1 (.pointer (some ⟨b, 0, none⟩))
    refine does_plain rfl fun K Q' hK => ?_
    go_simp; exact hK _ _ (Grow.refl _) rfl
   ·intro w1 hg Ar seen
    have e1 := seen.de 1 9
    refine does_plain rfl fun K Q' hK => ?_
    have hc := cell_of_block (j := 0) ((hg.block _ (block_lt B0.out.box)).trans B0.out.box) (qr0 _)
    go_simp; exact hK _ _ (Grow.refl _) rfl
   ·intro w1 hg Ar seen
    have e0 := seen.de 0 8
    have e2 := seen.de 2 10
    refine does_plain rfl fun K Q' hK => ?_
    go_simp
    refine (layInt_any 4325482 q.major _).mono ?_
    rintro e u ⟨rfl, hb⟩
    exact hK _ _ hb ⟨_, rfl, numV_it _ _ _, numV_ok _ _ _ _⟩
   ·intro w1 hg Ar seen
    have s3 := seen.sl 3 (.func (.func 38) #[] #[])
    refine does_plain rfl fun K Q' hK => ?_
    go_simp; exact hK _ _ (Grow.refl _) rfl
   ·intro w1 hg Ar seen
    have s1 := seen.sl 1 (.pointer (some ⟨b, 0, none⟩))
    refine does_plain rfl fun K Q' hK => ?_
    go_simp; exact hK _ _ (Grow.refl _) rfl
   ·intro w1 hg Ar seen
    have e5 := seen.de 5 13
    refine does_plain rfl fun K Q' hK => ?_
    have hc := cell_of_block (j := 1) ((hg.block _ (block_lt B0.out.box)).trans B0.out.box) (qr1 _)
    go_simp; exact hK _ _ (Grow.refl _) rfl
   ·intro w1 hg Ar seen
    have e4 := seen.de 4 12
    have e6 := seen.de 6 14
    refine does_plain rfl fun K Q' hK => ?_
    go_simp
    refine (layInt_any 4325483 q.minor _).mono ?_
    rintro e u ⟨rfl, hb⟩
    exact hK _ _ hb ⟨_, rfl, numV_it _ _ _, numV_ok _ _ _ _⟩
   ·intro w1 hg Ar seen
    obtain ⟨v3, e3, h3⟩ := seen.dp 3 11
    obtain ⟨v7, e7, h7⟩ := seen.dp 7 15
    refine does_plain rfl fun K Q' hK => ?_
    obtain ⟨x3, rfl, hi3, ho3⟩ := h3
    obtain ⟨x7, rfl, hi7, ho7⟩ := h7
    refine wp_build_items _ 27 2 _ rfl [x3, x7] rfl (by decide) (by decide) (by simp [Act.eval, e3, e7] <;> rfl) (x3.arr ++ x7.arr) (by simp [itmCells, ItV.cells]) i Tryd.underlying25 hi hz0 hz1 (fill2 x3 x7) ?_
    intro s hs
    exact hK _ _ ((Below.refl _ _).alloc (Nat.le_refl _) _) ⟨s, [x3, x7], rfl, by simp [hi3, hi7], hs, fun x hx => by simp only [List.mem_cons, List.not_mem_nil, or_false] at hx; rcases hx with rfl | rfl <;> exact ItV.ok.below (by first | exact ho3 | exact ho7) ((Below.refl _ _).alloc (Nat.le_refl _) _)⟩
   ·intro w1 hg Ar seen
    obtain ⟨v8, e8, h8⟩ := seen.dp 8 16
    refine does_plain rfl fun K Q' hK => ?_
    obtain ⟨s, l, rfl, hm, hs, ha⟩ := h8
    go_simp
    refine (payOf_any 4325481 s l _ hs ha).mono ?_
    rintro e u ⟨x, rfl, hi, ho, -, hb⟩
    exact hK _ _ hb ⟨x, rfl, by rw [hi, hm]; rfl, ho⟩
   ·intro w1 hg Ar seen
    have s1 := seen.sl 1 (.pointer (some ⟨b, 0, none⟩))
    refine does_plain rfl fun K Q' hK => ?_
    go_simp; exact hK _ _ (Grow.refl _) rfl
   ·intro w1 hg Ar seen
    have e10 := seen.de 10 18
    refine does_plain rfl fun K Q' hK => ?_
    have hc := cell_of_block (j := 2) ((hg.block _ (block_lt B0.out.box)).trans B0.out.box) (qr2 _)
    go_simp; exact hK _ _ (Grow.refl _) rfl
   ·intro w1 hg Ar seen
    have e11 := seen.de 11 19
    refine does_plain rfl fun K Q' hK => ?_
    go_simp; exact hK _ _ (Grow.refl _) rfl
   ·intro w1 hg Ar seen
    have s3 := seen.sl 3 (.func (.func 38) #[] #[])
    refine does_plain rfl fun K Q' hK => ?_
    go_simp; exact hK _ _ (Grow.refl _) rfl
   ·intro w1 hg Ar seen
    have s1 := seen.sl 1 (.pointer (some ⟨b, 0, none⟩))
    refine does_plain rfl fun K Q' hK => ?_
    go_simp; exact hK _ _ (Grow.refl _) rfl
   ·intro w1 hg Ar seen
    have e14 := seen.de 14 22
    refine does_plain rfl fun K Q' hK => ?_
    have hc := cell_of_block (j := 2) ((hg.block _ (block_lt B0.out.box)).trans B0.out.box) (qr2 _)
    go_simp; exact hK _ _ (Grow.refl _) rfl
   ·intro w1 hg Ar seen
    have e13 := seen.de 13 21
    have e15 := seen.de 15 23
    refine does_plain rfl fun K Q' hK => ?_
    go_simp
    refine (layInt_any 4325456 q.max _).mono ?_
    rintro e u ⟨rfl, hb⟩
    exact hK _ _ hb ⟨_, rfl, numV_it _ _ _, numV_ok _ _ _ _⟩
   ·intro w1 hg Ar seen
    have e12 := seen.de 12 20
    obtain ⟨v16, e16, h16⟩ := seen.dp 16 24
    refine does_plain rfl fun K Q' hK => ?_
    obtain ⟨x, rfl, hi, ho⟩ := h16
    go_simp
    refine (told_any (q.max != 0) x _).mono ?_
    rintro e u ⟨rfl, hb⟩
    exact hK _ _ hb ⟨_, rfl, told_it hi, told_ok (ho.below hb)⟩
   ·intro w1 hg Ar seen
    have s1 := seen.sl 1 (.pointer (some ⟨b, 0, none⟩))
    refine does_plain rfl fun K Q' hK => ?_
    go_simp; exact hK _ _ (Grow.refl _) rfl
   ·intro w1 hg Ar seen
    have e18 := seen.de 18 26
    refine does_plain rfl fun K Q' hK => ?_
    have hc := cell_of_block (j := 3) ((hg.block _ (block_lt B0.out.box)).trans B0.out.box) (qr3 _)
    go_simp; exact hK _ _ (Grow.refl _) rfl
   ·intro w1 hg Ar seen
    have e19 := seen.de 19 27
    refine does_plain rfl fun K Q' hK => ?_
    go_simp
    refine (payNumber_any 4325390 5 q.opt _).mono ?_
    rintro e u ⟨rfl, hb⟩
    exact hK _ _ hb ⟨_, rfl, numV_it _ _ _, numV_ok _ _ _ _⟩
   ·intro w1 hg Ar seen
    have s3 := seen.sl 3 (.func (.func 38) #[] #[])
    refine does_plain rfl fun K Q' hK => ?_
    go_simp; exact hK _ _ (Grow.refl _) rfl
   ·intro w1 hg Ar seen
    have s1 := seen.sl 1 (.pointer (some ⟨b, 0, none⟩))
    refine does_plain rfl fun K Q' hK => ?_
    go_simp; exact hK _ _ (Grow.refl _) rfl
   ·intro w1 hg Ar seen
    have e22 := seen.de 22 30
    refine does_plain rfl fun K Q' hK => ?_
    have hc := cell_of_block (j := 4) ((hg.block _ (block_lt B0.out.box)).trans B0.out.box) (qr4 _)
    go_simp; exact hK _ _ (Grow.refl _) rfl
   ·intro w1 hg Ar seen
    have e23 := seen.de 23 31
    refine does_plain rfl fun K Q' hK => ?_
    go_simp; exact hK _ _ (Grow.refl _) rfl
   ·intro w1 hg Ar seen
    have e21 := seen.de 21 29
    have e24 := seen.de 24 32
    refine does_plain rfl fun K Q' hK => ?_
    go_simp
    refine (layInt_any 4325389 (q.its.n : Int) _).mono ?_
    rintro e u ⟨rfl, hb⟩
    exact hK _ _ hb ⟨_, rfl, numV_it _ _ _, numV_ok _ _ _ _⟩
   ·intro w1 hg Ar seen
    obtain ⟨v9, e9, h9⟩ := seen.dp 9 17
    obtain ⟨v17, e17, h17⟩ := seen.dp 17 25
    obtain ⟨v20, e20, h20⟩ := seen.dp 20 28
    obtain ⟨v25, e25, h25⟩ := seen.dp 25 33
    refine does_plain rfl fun K Q' hK => ?_
    obtain ⟨x9, rfl, hi9, ho9⟩ := h9
    obtain ⟨x17, rfl, hi17, ho17⟩ := h17
    obtain ⟨x20, rfl, hi20, ho20⟩ := h20
    obtain ⟨x25, rfl, hi25, ho25⟩ := h25
    refine wp_build_items _ 27 4 _ rfl [x9, x17, x20, x25] rfl (by decide) (by decide) (by simp [Act.eval, e9, e17, e20, e25] <;> rfl) (x9.arr ++ x17.arr ++ x20.arr ++ x25.arr) (by simp [itmCells, ItV.cells]) i Tryd.underlying25 hi hz0 hz1 (fill4 x9 x17 x20 x25) ?_
    intro s hs
    exact hK _ _ ((Below.refl _ _).alloc (Nat.le_refl _) _) ⟨s, [x9, x17, x20, x25], rfl, by simp [hi9, hi17, hi20, hi25], hs, fun x hx => by simp only [List.mem_cons, List.not_mem_nil, or_false] at hx; rcases hx with rfl | rfl | rfl | rfl <;> exact ItV.ok.below (by first | exact ho9 | exact ho17 | exact ho20 | exact ho25) ((Below.refl _ _).alloc (Nat.le_refl _) _)⟩
   ·intro w1 hg Ar seen
    obtain ⟨v26, e26, h26⟩ := seen.dp 26 34
    refine does_plain rfl fun K Q' hK => ?_
    obtain ⟨s, l, rfl, hm, hs, ha⟩ := h26
    go_simp
    refine (paySome_any s l _ hs ha).mono ?_
    rintro e u ⟨so, lo, rfl, hl, hw, hb⟩
    have hlen : so.n ≤ 1099511627776 := (by rw [← hw.len, ← List.length_map (f := ItV.it), some_map hl hm]; exact Nat.le_trans (List.length_filter_le _ _) (by simp))
    exact hK _ _ hb ⟨so, lo, rfl, some_map hl hm, hw.sl hlen, hw.ok⟩
   ·intro w1 hg Ar seen
    obtain ⟨v27, e27, h27⟩ := seen.dp 27 35
    refine does_plain rfl fun K Q' hK => ?_
    obtain ⟨s, l, rfl, hm, hs, ha⟩ := h27
    go_simp
    refine (payOf_any 4325495 s l _ hs ha).mono ?_
    rintro e u ⟨x, rfl, hi, ho, -, hb⟩
    exact hK _ _ hb ⟨x, rfl, by rw [hi, hm]; rfl, ho⟩
   ·intro w1 hg Ar seen
    refine does_plain rfl fun K Q' hK => ?_
    refine wp_alloc_obj 27 rfl itZ.arr iZero ?_
    exact hK _ _ ((Below.refl _ _).alloc (Nat.le_refl _) _) ⟨_, rfl, block_new _ _, Nat.le_trans (Nat.le_of_eq HZW.out) hg.size⟩
 intro w1 hg
 refine upon_w' (js := [0, 1, 2, 3, 4, 5, 6, 7, 8, 9, 10, 11, 12, 13, 14, 15, 16, 17, 18, 19, 20, 21, 22, 23, 24, 25, 26, 27, 28, 29]) (by rfl) ?_
 refine upon_e (some 8) (upon_e (some 9) (upon_e (some 10) (upon_v (some 11) fun v3 h3 => upon_e (some 12) (upon_e (some 13) (upon_e (some 14) (upon_v (some 15) fun v7 h7 => upon_v (some 16) fun v8 h8 => upon_v (some 17) fun v9 h9 => upon_e (some 18) (upon_e (some 19) (upon_e (some 20) (upon_e (some 21) (upon_e (some 22) (upon_e (some 23) (upon_v (some 24) fun v16 h16 => upon_v (some 25) fun v17 h17 => upon_e (some 26) (upon_e (some 27) (upon_v (some 28) fun v20 h20 => upon_e (some 29) (upon_e (some 30) (upon_e (some 31) (upon_e (some 32) (upon_v (some 33) fun v25 h25 => upon_v (some 34) fun v26 h26 => upon_v (some 35) fun v27 h27 => upon_v (some 36) fun v28 h28 => upon_v (some 4) fun v29 h29 => upon_n ?_))))))))))))))))))
 obtain ⟨p, rfl, hp, hzp⟩ := h29
 obtain ⟨xh, rfl, hih, hoh⟩ := h28
 have hih : xh.it = layHead q.rq := hih.trans (head_some q.rq _ (by show (q.its.n : Int) = ((q.items.map RqIV.rq).length : Int); rw [List.length_map, HKN.out]))
 have HP := hid hp; have HZP := hid hzp; have HIH := hid hih; have HOH := hid hoh
 have hg' := hg
 unfold Grow at hg'
 rw [← HZW.out] at hg'
 have HGG := hid hg'
 have HSZ1 : Hid (z ≤ w1.heap.size) := by show _ ≤ _; rw [HZW.out]; exact hg.size
 have HXP : Hid (∀ k ∈ xh.foot, k < w1.heap.size) := hoh.lt
 clear hp hzp hg' hg hih hoh h3 h7 h8 h9 h16 h17 h20 h25 h26 h27
 go_simp
 go_upto_region 3 with (refine wpList_store_obj rfl 27 _ _ rfl p rfl xh.arr rfl _ _ HP.out rfl iSize (arr_one _) ?_; intro w4 hb4 hc4 hs4; have HB4 := hid hb4; have HC4 := hid hc4; have HS4 := hid hs4; clear hb4 hc4 hs4)
 have hbel := HGG.out.trans (HC4.out.below (B := z) (fun k hk => by rw [List.mem_singleton.1 hk]; exact HZP.out) HSZ1.out)
 have HBW := hid hbel
 have hoh4 := ItV.ok.keepN HC4.out HOH.out (fun k hk hm => by
  have := List.mem_singleton.1 hm
  subst this
  exact HOH.out.notZero HP.out (by rw [HIH.out]; exact nz_head _) hk)
 have HOH4 := hid hoh4
 obtain ⟨z4, hz4⟩ : ∃ z, z = w4.heap.size := ⟨_, rfl⟩
 have HZ4 := hid hz4
 have HL4 : Hid (∀ k ∈ xh.foot, k < z4) := by show ∀ k ∈ xh.foot, k < z4; rw [hz4]; exact hoh4.lt
 have hzz : z ≤ z4 := by have h1 := HSZ1.out; have h2 := HC4.out.size; rw [hz4]; omega
 have HZZ := hid hzz
 rw [HZW.out] at hbel
 clear hbel hz4 hzz HP HC4 HGG HSZ1 HS4 HOH HXP hoh4
 go_upto_region 4 with (first | (refine wpList_load_row rfl 27 _ rfl p rfl _ _ _ _ HB4.out Tryd.underlying27 rfl iSize ?_) | (refine wpList_build_items rfl 25 27 1 _ rfl [xh] rfl (by decide) (by decide) (by kernel_rfl) (xh.arr) i Tryd.underlying25 hi hz0 hz1 (fill1 _) ?_))
 have ho5 : OwnIt 27 (w4.alloc (.cells xh.arr 27)) z4 0 ⟨some ⟨w4.heap.size, 0, none⟩, 1, 1⟩ [xh] :=
  ⟨by have h := own_built (w := w4) (T := 27) (base := z4) (size := 5) (n := 1) (C := xh.arr) (by rw [HZ4.out]; exact Nat.le_refl _) rfl (by decide); simpa [itmCells, ItV.cells] using h,
   fun x hx => by rw [List.mem_singleton.1 hx]; exact HOH4.out.below ((Below.refl _ _).alloc (Nat.le_refl _) _),
   fun x hx k hk he => by rw [List.mem_singleton.1 hx] at hk; have := HL4.out k hk; simp [Sl.v, Value.ownBlock] at he; have := HZ4.out; omega,
   fun _ _ _ _ => Nat.zero_le _⟩
 have HBW5 : Hid (Below z W (w4.alloc (.cells xh.arr 27))) := HBW.out.alloc (by rw [← HZ4.out]; exact HZZ.out) _
 have HZ5 : Hid (z4 ≤ (w4.alloc (.cells xh.arr 27)).heap.size) := by show z4 ≤ _; rw [HZ4.out]; simp
 have HO5 := hid ho5
 clear ho5 HBW HOH4 HB4
 rw [← HZ4.out] at HO5 ⊢
 generalize w4.alloc (.cells xh.arr 27) = w5 at *
 obtain ⟨ka, hka⟩ : ∃ ka, q.its.a = ka := ⟨_, rfl⟩
 have HKA := hid hka
 obtain ⟨kn, hkn⟩ : ∃ kn, q.its.n = kn := ⟨_, rfl⟩
 have HN := hid hkn
 have hbr : Below W.heap.size W w5 := by rw [← HZW.out]; exact HBW5.out
 have hc4 := cell_of_block (j := 4) (B0.out.below hbr).box (qr4 q)
 rw [hkn] at hnn HKN
 rw [hka, hkn] at hc4
 clear hka hkn hbr
 go_wp2_with fail
 clear hc4
 go_loopw [5, 42] (fun u y wr => ∃ (k : Nat) (s : Sl) (lo : List ItV), k ≤ kn ∧ y = .int .i64 k ∧ u = .slice s.a s.n s.c ∧ s.n = k + 1 ∧ lo.map ItV.it = layHead q.rq :: ((q.items.take k).map fun x => layItem x.rq) ∧ Below z W wr ∧ z4 ≤ wr.heap.size ∧ OwnIt 27 wr z4 0 s lo) (fun _ y _ => kn - (intOf y).toNat)
 case atStart => exact ⟨0, ⟨some ⟨z4, 0, none⟩, 1, 1⟩, [xh], Nat.zero_le _, rfl, rfl, rfl, by simp [HIH.out], HBW5.out, HZ5.out, HO5.out⟩
 case round =>
  clear HBW5 HZ5 HO5
  obtain ⟨k, s, lo, hk, rfl, rfl, hsk, hlo, hbw, hzw, ho⟩ := hrel
  have HBW := hid hbw; have HZW4 := hid hzw; have HO := hid ho; have HLO := hid hlo; have HSK := hid hsk
  have hbr : Below W.heap.size W wr := by rw [← HZW.out]; exact HBW.out
  have HBR := hid hbr
  clear hbw hzw ho hlo hsk hbr
  by_cases hlt : k < kn
  ·obtain ⟨bx, ox, x, hax, hx, hrow⟩ := (HV0.out.below HBR.out).its.rqrow (k := k) (by rw [HN.out]; exact hlt)
   rw [HKA.out] at hax
   subst hax
   have HX := hid ((HV0.out.below HBR.out).each x (List.mem_of_getElem? hx))
   have HXT := hid (HPT.out x (List.mem_of_getElem? hx))
   have HT : Hid ((q.items.take (k + 1)).map (fun x => layItem x.rq) = (q.items.take k).map (fun x => layItem x.rq) ++ [layItem x.rq]) := by
    show _ = _
    rw [List.take_add_one, hx]; simp
   have HR := hid hrow
   clear hx hrow
   go_upto_region 7 with (first | (refine wpList_load_mid rfl 41 _ rfl bx (ox + k * 8) rfl x.arr.toList _ HR.out Tryd.underlying41 rfl qSize ?_; simp only [Array.toArray_toList]) | (refine wpList_alloc_obj rfl 41 rfl _ qZero ?_) | (refine wpList_store_obj rfl 41 _ _ rfl wr.heap.size rfl _ rfl _ _ (block_new wr _) rfl qSize (qarr_one x) ?_; intro w6 hb6 hc6 hs6; have HB6 := hid hb6; have HC6 := hid hc6; have HS6 := hid hs6; clear hb6 hc6 hs6))
   have hbel : Below wr.heap.size wr w6 := ((Below.refl _ wr).alloc (Nat.le_refl _) _).trans (HC6.out.below (fun k hk => by rw [List.mem_singleton.1 hk]; exact Nat.le_refl _) (by simp))
   have HX6 := hid (HX.out.below hbel); have HO6 := hid (HO.out.below hbel)
   have HBL := hid hbel
   have HSR : Hid (∀ k, s.v.ownBlock = some k → k < wr.heap.size) := fun k hk => (HO.out.own.lt k hk).2
   clear hbel HC6 HS6 HR HX HO
   obtain ⟨c, hcw⟩ : ∃ c, c = wr.heap.size := ⟨_, rfl⟩
   have HCW := hid hcw
   have HC6 : Hid (c ≤ w6.heap.size) := by show c ≤ _; rw [hcw]; exact HBL.out.size
   rw [← hcw] at HB6 HSR ⊢
   clear hcw
   refine wp_region_each 16 [.eq (.slice s.a s.n s.c), .eq (.pointer (some ⟨c, 0, none⟩)), .eq (.int .i64 x.op), stMade (numI 4325468 5 x.op), .eq (.pointer (some ⟨c, 1, none⟩)), .eq (.bool x.has), .eq (.pointer (some ⟨c, 2, none⟩)), .eq (.slice x.ids.a x.ids.n x.ids.c), stMade { tag := 4325523, typ := 8, data := x.id }, stMade (if x.has then { tag := 4325523, typ := 8, data := x.id } else {}), .eq (.pointer (some ⟨c, 3, none⟩)), stMade x.pay.it, stItems [numI 4325468 5 x.op, (if x.has then { tag := 4325523, typ := 8, data := x.id } else {}), x.pay.it], stItems (someI [numI 4325468 5 x.op, (if x.has then { tag := 4325523, typ := 8, data := x.id } else {}), x.pay.it]), stMadeL (layItem x.rq) c, stItemL (layItem x.rq) c] (by kernel_rfl) (by kernel_rfl) (by kernel_rfl) (by kernel_rfl) ?_ ?_
   ·as_aux_lemma =>
     refine each_5 ?_ ?_ ?_ ?_ ?_ (each_5 ?_ ?_ ?_ ?_ ?_ (each_5 ?_ ?_ ?_ ?_ ?_ (each_c ?_ (each_n))))
     ·intro w1 hg Ar seen
      have s5 := seen.sl 5 (.slice s.a s.n s.c)
      refine does_plain rfl fun K Q' hK => ?_
      go_simp; exact hK _ _ (Grow.refl _) rfl
     ·intro w1 hg Ar seen
      have s7 := seen.sl 7 (.pointer (some ⟨c, 0, none⟩))
      refine does_plain rfl fun K Q' hK => ?_
      go_simp; exact hK _ _ (Grow.refl _) rfl
     ·intro w1 hg Ar seen
      have e1 := seen.de 1 47
      refine does_plain rfl fun K Q' hK => ?_
      have hc := cell_of_block (j := 0) ((hg.block _ (block_lt HB6.out)).trans HB6.out) (xr0 _)
      go_simp; exact hK _ _ (Grow.refl _) rfl
     ·intro w1 hg Ar seen
      have e2 := seen.de 2 48
      refine does_plain rfl fun K Q' hK => ?_
      go_simp
      refine (payNumber_any 4325468 5 x.op _).mono ?_
      rintro e u ⟨rfl, hb⟩
      exact hK _ _ hb ⟨_, rfl, numV_it _ _ _, numV_ok _ _ _ _⟩
     ·intro w1 hg Ar seen
      have s7 := seen.sl 7 (.pointer (some ⟨c, 0, none⟩))
      refine does_plain rfl fun K Q' hK => ?_
      go_simp; exact hK _ _ (Grow.refl _) rfl
     ·intro w1 hg Ar seen
      have e4 := seen.de 4 50
      refine does_plain rfl fun K Q' hK => ?_
      have hc := cell_of_block (j := 1) ((hg.block _ (block_lt HB6.out)).trans HB6.out) (xr1 _)
      go_simp; exact hK _ _ (Grow.refl _) rfl
     ·intro w1 hg Ar seen
      have s7 := seen.sl 7 (.pointer (some ⟨c, 0, none⟩))
      refine does_plain rfl fun K Q' hK => ?_
      go_simp; exact hK _ _ (Grow.refl _) rfl
     ·intro w1 hg Ar seen
      have e6 := seen.de 6 52
      refine does_plain rfl fun K Q' hK => ?_
      have hc := cell_of_block (j := 2) ((hg.block _ (block_lt HB6.out)).trans HB6.out) (xr2 _)
      go_simp; exact hK _ _ (Grow.refl _) rfl
     ·intro w1 hg Ar seen
      have e7 := seen.de 7 53
      refine does_plain rfl fun K Q' hK => ?_
      go_simp
      refine (payBytes_any 4325523 x.ids x.id _ (HX6.out.ids.below hg)).mono ?_
      rintro e u ⟨sd, rfl, hn, ho, hb⟩
      exact hK _ _ hb ⟨_, rfl, it_flat _ _ _ _ _, ok_flat (SlC.of_own ho (by rw [hn, HX6.out.ids.lenB]; exact HX6.out.ids.sm))⟩
     ·intro w1 hg Ar seen
      have e5 := seen.de 5 51
      obtain ⟨v8, e8, h8⟩ := seen.dp 8 54
      refine does_plain rfl fun K Q' hK => ?_
      obtain ⟨y, rfl, hi, ho⟩ := h8
      go_simp
      refine (told_any x.has y _).mono ?_
      rintro e u ⟨rfl, hb⟩
      exact hK _ _ hb ⟨_, rfl, told_it hi, told_ok (ho.below hb)⟩
     ·intro w1 hg Ar seen
      have s7 := seen.sl 7 (.pointer (some ⟨c, 0, none⟩))
      refine does_plain rfl fun K Q' hK => ?_
      go_simp; exact hK _ _ (Grow.refl _) rfl
     ·intro w1 hg Ar seen
      have e10 := seen.de 10 56
      refine does_plain rfl fun K Q' hK => ?_
      refine wp_load_mid 27 _ rfl c 3 (by simp [Act.eval, e10]) x.pay.arr.toList _ (range_later hg (range_of_block HB6.out 3 _ (pay_range x))) Tryd.underlying27 rfl iSize ?_
      exact hK _ _ (Grow.refl _) ⟨x.pay, rfl, rfl, HX6.out.pay.below hg⟩
     ·intro w1 hg Ar seen
      obtain ⟨v3, e3, h3⟩ := seen.dp 3 49
      obtain ⟨v9, e9, h9⟩ := seen.dp 9 55
      obtain ⟨v11, e11, h11⟩ := seen.dp 11 57
      refine does_plain rfl fun K Q' hK => ?_
      obtain ⟨x3, rfl, hi3, ho3⟩ := h3
      obtain ⟨x9, rfl, hi9, ho9⟩ := h9
      obtain ⟨x11, rfl, hi11, ho11⟩ := h11
      refine wp_build_items _ 27 3 _ rfl [x3, x9, x11] rfl (by decide) (by decide) (by simp [Act.eval, e3, e9, e11] <;> rfl) (x3.arr ++ x9.arr ++ x11.arr) (by simp [itmCells, ItV.cells]) i Tryd.underlying25 hi hz0 hz1 (fill3 x3 x9 x11) ?_
      intro s hs
      exact hK _ _ ((Below.refl _ _).alloc (Nat.le_refl _) _) ⟨s, [x3, x9, x11], rfl, by simp [hi3, hi9, hi11], hs, fun x hx => by simp only [List.mem_cons, List.not_mem_nil, or_false] at hx; rcases hx with rfl | rfl | rfl <;> exact ItV.ok.below (by first | exact ho3 | exact ho9 | exact ho11) ((Below.refl _ _).alloc (Nat.le_refl _) _)⟩
     ·intro w1 hg Ar seen
      obtain ⟨v12, e12, h12⟩ := seen.dp 12 58
      refine does_plain rfl fun K Q' hK => ?_
      obtain ⟨s, l, rfl, hm, hs, ha⟩ := h12
      go_simp
      refine (paySome_any s l _ hs ha).mono ?_
      rintro e u ⟨so, lo, rfl, hl, hw, hb⟩
      have hlen : so.n ≤ 1099511627776 := (by rw [← hw.len, ← List.length_map (f := ItV.it), some_map hl hm]; exact Nat.le_trans (List.length_filter_le _ _) (by simp))
      exact hK _ _ hb ⟨so, lo, rfl, some_map hl hm, hw.sl hlen, hw.ok⟩
     ·intro w1 hg Ar seen
      obtain ⟨v13, e13, h13⟩ := seen.dp 13 59
      refine does_plain rfl fun K Q' hK => ?_
      obtain ⟨s, l, rfl, hm, hs, ha⟩ := h13
      go_simp
      refine (payOf_any 4325391 s l _ hs ha).mono ?_
      rintro e u ⟨y, rfl, hi, ho, hl, hb⟩
      exact hK _ _ hb ⟨y, rfl, by rw [hi, hm]; exact item_some x.rq (by show x.pay.it.tag ≠ 0; rw [it_tag']; exact HXT.out), ho, fun k hk => by have := hl k hk; have := hg.size; have := HC6.out; omega⟩
     ·intro w1 hg Ar seen
      obtain ⟨v14, e14, h14⟩ := seen.dp 14 60
      refine does_plain rfl fun K Q' hK => ?_
      obtain ⟨y, rfl, hy, ho, hl⟩ := h14
      refine wp_build_items _ 27 1 _ rfl [y] rfl (by decide) (by decide) (by simp [Act.eval, e14] <;> rfl) (y.arr) (by simp [itmCells, ItV.cells]) i Tryd.underlying25 hi hz0 hz1 (fill1 y) ?_
      intro s hs
      exact hK _ _ ((Below.refl _ _).alloc (Nat.le_refl _) _) ⟨s, y, rfl, hs.klen.symm, hy, hs, ho.below ((Below.refl _ _).alloc (Nat.le_refl _) _), hl⟩
   intro w1 hg
   refine upon_w' (js := [0, 1, 2, 3, 4, 5, 6, 7, 8, 9, 10, 11, 12, 13, 14, 15]) (by rfl) ?_
   refine upon_e (some 46) (upon_e (some 47) (upon_e (some 48) (upon_v (some 49) fun v3 h3 => upon_e (some 50) (upon_e (some 51) (upon_e (some 52) (upon_e (some 53) (upon_v (some 54) fun v8 h8 => upon_v (some 55) fun v9 h9 => upon_e (some 56) (upon_v (some 57) fun v11 h11 => upon_v (some 58) fun v12 h12 => upon_v (some 59) fun v13 h13 => upon_v (some 60) fun v14 h14 => upon_v (some 61) fun v15 h15 => upon_n ?_))))))))
   obtain ⟨s1, y, rfl, hn1, hy, hs1, hyo, hyl⟩ := h15
   obtain ⟨a1, n1, c1⟩ := s1
   simp only at hn1
   subst hn1
   have HY := hid hy; have HS1 := hid hs1; have HYO := hid hyo; have HYL := hid hyl
   have HO7 := hid (HO6.out.below hg)
   have HBL7 := hid (HBL.out.trans (hg.mono (by rw [← HCW.out]; exact HC6.out)))
   have H7 : Hid (c ≤ w1.heap.size) := Nat.le_trans HC6.out hg.size
   clear hy hs1 hyo hyl hg h3 h8 h9 h11 h12 h13 h14 HBL HX6 HO6 HB6
   go_simp
   go_wp2_with (at_builtin; go_must (refine wpList_append_c rfl _ _ 25 rfl z4 27 i _ 5 72 Tryd.underlying25 hi hz0 hz1 hz2 rfl (by decide) (.slice s.a s.n s.c) s.n _ rfl HO7.out.own _ 1 _ (itmCells [y]) rfl HS1.out.rd (itm_one [y]) HS1.out.no (by unfold maxLen; have := HSK.out; omega) (by have := HSK.out; omega) (by have := H7.out; have := HZW4.out; have := HCW.out; omega) ?_); intro a' c' w8 hown hgw hfr; have HO8 := hid hown; have HG8 := hid hgw; have HF8 := hid hfr; clear hown hgw hfr)
   have ho8 : OwnIt 27 w8 z4 0 ⟨a', s.n + 1, c'⟩ (lo ++ [y]) :=
    HO7.out.app (Below.refl _ _) y HYO.out (fun k hk he => by have := HSR.out k he; have := HYL.out k hk; omega) (fun _ _ => Nat.zero_le _) (by rw [itm_app]; exact HO8.out) HG8.out HF8.out
   have hch : Chg s.v.ownBlock.toList w1 w8 := (Chg.refl _ w1).grown HG8.out (fun k hk => .inl (by rw [hk]; simp))
   have hbw8 : Below z W w8 := (HBW.out.trans (HBL7.out.mono (Nat.le_trans HZZ.out HZW4.out))).trans (hch.below (B := z) (fun k hk => by
      rcases Nat.lt_or_ge k z4 with h' | h'
      ·exact absurd hk (HO7.out.ahead h')
      ·exact Nat.le_trans HZZ.out h') (Nat.le_trans HZZ.out (Nat.le_trans HZW4.out (by rw [← HCW.out]; exact H7.out))))
   have hz8 : z4 ≤ w8.heap.size := Nat.le_trans HZW4.out (Nat.le_trans (by rw [← HCW.out]; exact H7.out) hch.size)
   have hl8 : (lo ++ [y]).map ItV.it = layHead q.rq :: ((q.items.take (k + 1)).map fun x => layItem x.rq) := by rw [List.map_append, HLO.out, HT.out, List.map_cons, List.map_nil, HY.out]; rfl
   have H8 := hid (And.intro hl8 (And.intro hbw8 (And.intro hz8 ho8)))
   clear ho8 hch hbw8 hz8 hl8
   go_roundw
   case rel =>
    have hsk := HSK.out
    first
     | exact ⟨k + 1, ⟨a', s.n + 1, c'⟩, lo ++ [y], by omega, by go_num, rfl, by simp; omega, H8.out⟩
     | ((repeat apply Exists.intro); exact ⟨⟨k + 1, ⟨a', s.n + 1, c'⟩, lo ++ [y], by omega, by go_num, rfl, by simp; omega, H8.out⟩, rfl⟩)
   case measure => simp [intOf]; omega
  ·obtain rfl : k = kn := by omega
   have hsl := HO.out.sl (Nat.le_trans (Nat.le_of_eq HSK.out) (by omega))
   have B9 := hid (B0.out.below HBR.out)
   have HZ9 := hid HZW4.out
   have HOK9 := hid HO.out.ok
   have HSL := hid hsl
   have HLQ : Hid (lo.map ItV.it = layHead q.rq :: (q.rq.items.map layItem)) := by
    show _ = layHead q.rq :: ((q.items.map RqIV.rq).map layItem)
    rw [HLO.out, List.take_of_length_le (by rw [HKN.out]; exact Nat.le_refl _), List.map_map]; rfl
   clear hsl HO HLO HBW
   go_wp2_with fail
   refine (payOf_any 4325496 s lo _ HSL.out HOK9.out).mono ?_
   rintro e w10 ⟨v, rfl, hiv, hov, hlv, hb10⟩
   have B10 := hid (B9.out.below hb10)
   have HIV : Hid (v.it = layV q.rq) := by show _ = _; rw [hiv, HLQ.out]; rfl
   have HOV := hid hov
   have HLV : Hid (∀ k ∈ v.foot, b + 2 ≤ k) := fun k hk => by have := hlv k hk; have := B9.out.size; omega
   clear hiv hov hlv hb10 B9
   go_wp2_with (refine wpList_store_obj rfl 27 _ _ rfl (b + 1) rfl v.arr rfl _ _ B10.out.res rfl iSize (arr_one _) ?_; intro w11 hb11 hc11 hs11; have HB11 := hid hb11; have HC11 := hid hc11; clear hb11 hc11 hs11)
   refine bodyPost_ret (results_cell_row rfl _ _ (b + 1) _ _ _ _ rfl HB11.out Tryd.underlying27 rfl iSize) rfl ?_
   exact ⟨v, rfl, HIV.out, ItV.ok.keep HC11.out HOV.out (fun k hk hm => by have := HLV.out k hk; have := List.mem_singleton.1 hm; omega), fun k hk => by have := HLV.out k hk; rw [HBE.out]; omega, by rw [HBE.out]; exact B10.out.done HC11.out⟩
end Go.Proofs.YtbnbofooofedkaaDoor
