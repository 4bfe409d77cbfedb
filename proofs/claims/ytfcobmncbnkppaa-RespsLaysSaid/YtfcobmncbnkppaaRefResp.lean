/- locksmithref15.LayResponse. -/
import Derived.Test.YtfcobmncbnkppaaRsp4
import Derived.Test.YtfcobmncbnkppaaOwnObj
import Derived.Deep.DeepCutAuto
import Derived.Deep.CutBlock
namespace Go.Proofs.Ytfcobmncbnkppaa
open Go.RowKit
set_option linter.unusedVariables false
set_option linter.unusedSimpArgs false
set_option maxRecDepth 100000
set_option maxHeartbeats 4000000
theorem nz_rsHead (t n : Int) : nz (layRsHead t n) = true := by simp [layRsHead, ofI, numI, nz, nzAll]
theorem layResponse_any (q : RsV) (w : World) (hq : q.ok w) (hnn : q.its.n ≤ 1000000) (hms : ∀ x ∈ q.items, x.msg.size ≤ 140737488355328) : Calls Try.prog 7 #[.agg q.arr] w fun e w' => ∃ v : ItV, e = .returned (.agg v.arr) ∧ v.it = layRs q.rq ∧ v.ok w' ∧ Below w.heap.size w w' := by
  obtain ⟨i, hi, hz0, hz1, hz2⟩ := info_parts iInfo
  have HV := hid hq
  have HMSG := hid hms
  have hql := fun x hx => (hq.each x hx).lt
  have HKN := hid hq.its.rslen
  clear hq hms
  generalize hbe : w.heap.size = b
  rw [hbe] at hql
  have HQL : Hid (∀ x ∈ q.items, ∀ k ∈ x.foot, k < b) := hql
  have HBE := hid hbe; clear hbe hql
  go_enter Try.func7, Try.ntmps7
  go_upto_region 1 with (refine wpList_alloc_obj rfl 27 rfl _ iZero ?_)
  go_simp
  have B0 := hid (Bx2.start (T := 31) (T' := 27) (cs := q.arr) (zs := itZ.arr) (w := w) HBE.out)
  rw [HBE.out]
  have HV0 := hid (HV.out.below (((Below.refl _ w).alloc (Nat.le_refl _) (.cells q.arr 31)).alloc (by simp) (.cells itZ.arr 27)))
  generalize (w.alloc (.cells q.arr 31)).alloc (.cells itZ.arr 27) = W at *
  clear HV
  obtain ⟨z, hzw⟩ : ∃ z, z = W.heap.size := ⟨_, rfl⟩
  have HZW := hid hzw
  have HBZ : Hid (b + 2 ≤ z) := by show _ ≤ _; rw [hzw]; exact B0.out.size
  clear hzw
  refine wp_region_each 16 [stMade (numI 4325482 2 1), stMade (numI 4325483 2 4), stItems [numI 4325482 2 1, numI 4325483 2 4], stMade (ofI 4325481 [numI 4325482 2 1, numI 4325483 2 4]), .eq (.pointer (some ⟨b, 0, none⟩)), .eq (.int .i64 q.time), stMade (numI 4325522 9 q.time), .eq (.pointer (some ⟨b, 1, none⟩)), .eq (.slice q.its.a q.its.n q.its.c), .eq (.int .i64 (q.its.n : Int)), stMade (numI 4325389 2 (q.its.n : Int)), stItems [ofI 4325481 [numI 4325482 2 1, numI 4325483 2 4], numI 4325522 9 q.time, numI 4325389 2 (q.its.n : Int)], stMade (layRsHead q.time (q.its.n : Int)), stOwn1 27 (layRsHead q.time (q.its.n : Int)) z, stHead 27 4325499 (layRsHead q.time (q.its.n : Int)) z, stNewQ 27 itZ.arr z] (by kernel_rfl) (by kernel_rfl) (by kernel_rfl) (by kernel_rfl) ?_ ?_
  · as_aux_lemma =>
      refine each_c (o' := _) ?_ (each_c (o' := _) ?_ (each_c (o' := _) ?_ (each_c (o' := _) ?_ (each_c (o' := _) ?_ (each_c (o' := _) ?_ (each_c (o' := _) ?_ (each_c (o' := _) ?_ (each_c (o' := _) ?_ (each_c (o' := _) ?_ (each_c (o' := _) ?_ (each_c (o' := _) ?_ (each_c (o' := _) ?_ (each_c (o' := _) ?_ (each_c (o' := _) ?_ (each_c (o' := _) ?_ (each_n))))))))))))))))
      -- 0: call fn21<locksmithref15.Number> [4325482:i64, 2:i64, 1:i64] T[3, 3, 2]
      · intro w1 hg Ar seen
        refine does_plain rfl fun K Q' hK => ?_
        go_simp
        refine (refNumber_any 4325482 2 1 _).mono ?_
        rintro e u ⟨rfl, hb⟩
        exact hK _ _ hb ⟨_, rfl, numV_it _ _ _, numV_ok _ _ _ _⟩
      -- 1: call fn21<locksmithref15.Number> [4325483:i64, 2:i64, 4:i64] T[3, 3, 2]
      · intro w1 hg Ar seen
        refine does_plain rfl fun K Q' hK => ?_
        go_simp
        refine (refNumber_any 4325483 2 4 _).mono ?_
        rintro e u ⟨rfl, hb⟩
        exact hK _ _ hb ⟨_, rfl, numV_it _ _ _, numV_ok _ _ _ _⟩
      -- 2: buildSlice 25 2 [(0, t7), (1, t8)]
      · intro w1 hg Ar seen
        obtain ⟨v0, e0, h0⟩ := seen.dep 0 (d := 7) (by kernel_rfl) (by kernel_rfl) rfl
        obtain ⟨v1, e1, h1⟩ := seen.dep 1 (d := 8) (by kernel_rfl) (by kernel_rfl) rfl
        refine does_plain rfl fun K Q' hK => ?_
        obtain ⟨x0, rfl, hi0, ho0⟩ := h0
        obtain ⟨x1, rfl, hi1, ho1⟩ := h1
        refine wp_build_items _ 27 2 _ rfl [x0, x1] rfl (by decide) (by decide) (by simp [Act.eval, e0, e1] <;> rfl) (x0.arr ++ x1.arr) (by simp [itmCells, ItV.cells]) i Try.underlying25 hi hz0 hz1 (fill2 x0 x1) ?_
        intro s hs
        exact hK _ _ ((Below.refl _ _).alloc (Nat.le_refl _) _) ⟨s, [x0, x1], rfl, by simp [hi0, hi1], hs, fun x hx => by simp only [List.mem_cons, List.not_mem_nil, or_false] at hx; rcases hx with rfl | rfl <;> exact ItV.ok.below (by first | exact ho0 | exact ho1) ((Below.refl _ _).alloc (Nat.le_refl _) _)⟩
      -- 3: call fn20<locksmithref15.Of> [4325481:i64, t9] T[3, 25]
      · intro w1 hg Ar seen
        obtain ⟨v2, e2, h2⟩ := seen.dep 2 (d := 9) (by kernel_rfl) (by kernel_rfl) rfl
        refine does_plain rfl fun K Q' hK => ?_
        obtain ⟨s, l, rfl, hm, hs, ha⟩ := h2
        go_simp
        refine (refOf_any 4325481 s _).mono ?_
        rintro e u ⟨rfl, hb⟩
        exact hK _ _ hb ⟨{ tag := 4325481, typ := 1, ks := s, kids := l }, rfl, by rw [ItV.it_eq]; simp only [hm]; rfl, ItV.ok_iff.2 ⟨SlC.nil _, hs.below hb, fun x hx => (ha x hx).below hb⟩⟩
      -- 4: fieldAddr 31 t1 0
      · intro w1 hg Ar seen
        have s1 := seen.slot 1 (v := .pointer (some ⟨b, 0, none⟩)) (by kernel_rfl) rfl
        refine does_plain rfl fun K Q' hK => ?_
        go_simp; exact hK _ _ (Grow.refl _) rfl
      -- 5: load 2 t11
      · intro w1 hg Ar seen
        obtain ⟨v4, e4, h4⟩ := seen.dep 4 (d := 11) (by kernel_rfl) (by kernel_rfl) rfl
        rcases h4 with rfl
        refine does_plain rfl fun K Q' hK => ?_
        have hc := cell_of_block (j := 0) ((hg.block _ (block_lt B0.out.box)).trans B0.out.box) (rv0 _)
        go_simp; exact hK _ _ (Grow.refl _) rfl
      -- 6: call fn21<locksmithref15.Number> [4325522:i64, 9:i64, t12] T[3, 3, 2]
      · intro w1 hg Ar seen
        obtain ⟨v5, e5, h5⟩ := seen.dep 5 (d := 12) (by kernel_rfl) (by kernel_rfl) rfl
        rcases h5 with rfl
        refine does_plain rfl fun K Q' hK => ?_
        go_simp
        refine (refNumber_any 4325522 9 q.time _).mono ?_
        rintro e u ⟨rfl, hb⟩
        exact hK _ _ hb ⟨_, rfl, numV_it _ _ _, numV_ok _ _ _ _⟩
      -- 7: fieldAddr 31 t1 1
      · intro w1 hg Ar seen
        have s1 := seen.slot 1 (v := .pointer (some ⟨b, 0, none⟩)) (by kernel_rfl) rfl
        refine does_plain rfl fun K Q' hK => ?_
        go_simp; exact hK _ _ (Grow.refl _) rfl
      -- 8: load 29 t14
      · intro w1 hg Ar seen
        obtain ⟨v7, e7, h7⟩ := seen.dep 7 (d := 14) (by kernel_rfl) (by kernel_rfl) rfl
        rcases h7 with rfl
        refine does_plain rfl fun K Q' hK => ?_
        have hc := cell_of_block (j := 1) ((hg.block _ (block_lt B0.out.box)).trans B0.out.box) (rv1 _)
        go_simp; exact hK _ _ (Grow.refl _) rfl
      -- 9: call len [t15] T[29]
      · intro w1 hg Ar seen
        obtain ⟨v8, e8, h8⟩ := seen.dep 8 (d := 15) (by kernel_rfl) (by kernel_rfl) rfl
        rcases h8 with rfl
        refine does_plain rfl fun K Q' hK => ?_
        go_simp; exact hK _ _ (Grow.refl _) rfl
      -- 10: call fn21<locksmithref15.Number> [4325389:i64, 2:i64, t16] T[3, 3, 2]
      · intro w1 hg Ar seen
        obtain ⟨v9, e9, h9⟩ := seen.dep 9 (d := 16) (by kernel_rfl) (by kernel_rfl) rfl
        rcases h9 with rfl
        refine does_plain rfl fun K Q' hK => ?_
        go_simp
        refine (refNumber_any 4325389 2 (q.its.n : Int) _).mono ?_
        rintro e u ⟨rfl, hb⟩
        exact hK _ _ hb ⟨_, rfl, numV_it _ _ _, numV_ok _ _ _ _⟩
      -- 11: buildSlice 25 3 [(0, t10), (1, t13), (2, t17)]
      · intro w1 hg Ar seen
        obtain ⟨v3, e3, h3⟩ := seen.dep 3 (d := 10) (by kernel_rfl) (by kernel_rfl) rfl
        obtain ⟨v6, e6, h6⟩ := seen.dep 6 (d := 13) (by kernel_rfl) (by kernel_rfl) rfl
        obtain ⟨v10, e10, h10⟩ := seen.dep 10 (d := 17) (by kernel_rfl) (by kernel_rfl) rfl
        refine does_plain rfl fun K Q' hK => ?_
        obtain ⟨x3, rfl, hi3, ho3⟩ := h3
        obtain ⟨x6, rfl, hi6, ho6⟩ := h6
        obtain ⟨x10, rfl, hi10, ho10⟩ := h10
        refine wp_build_items _ 27 3 _ rfl [x3, x6, x10] rfl (by decide) (by decide) (by simp [Act.eval, e3, e6, e10] <;> rfl) (x3.arr ++ x6.arr ++ x10.arr) (by simp [itmCells, ItV.cells]) i Try.underlying25 hi hz0 hz1 (fill3 x3 x6 x10) ?_
        intro s hs
        exact hK _ _ ((Below.refl _ _).alloc (Nat.le_refl _) _) ⟨s, [x3, x6, x10], rfl, by simp [hi3, hi6, hi10], hs, fun x hx => by simp only [List.mem_cons, List.not_mem_nil, or_false] at hx; rcases hx with rfl | rfl | rfl <;> exact ItV.ok.below (by first | exact ho3 | exact ho6 | exact ho10) ((Below.refl _ _).alloc (Nat.le_refl _) _)⟩
      -- 12: call fn20<locksmithref15.Of> [4325498:i64, t18] T[3, 25]
      · intro w1 hg Ar seen
        obtain ⟨v11, e11, h11⟩ := seen.dep 11 (d := 18) (by kernel_rfl) (by kernel_rfl) rfl
        refine does_plain rfl fun K Q' hK => ?_
        obtain ⟨s, l, rfl, hm, hs, ha⟩ := h11
        go_simp
        refine (refOf_any 4325498 s _).mono ?_
        rintro e u ⟨rfl, hb⟩
        exact hK _ _ hb ⟨{ tag := 4325498, typ := 1, ks := s, kids := l }, rfl, by rw [ItV.it_eq]; simp only [hm]; rfl, ItV.ok_iff.2 ⟨SlC.nil _, hs.below hb, fun x hx => (ha x hx).below hb⟩⟩
      -- 13: buildSlice 25 1 [(0, t19)]
      · intro w1 hg Ar seen
        obtain ⟨v12, e12, h12⟩ := seen.dep 12 (d := 19) (by kernel_rfl) (by kernel_rfl) rfl
        refine does_plain rfl fun K Q' hK => ?_
        obtain ⟨y, rfl, hy, ho⟩ := h12
        refine wp_build_item _ 27 _ rfl y (by simp [Act.eval, e12]) i Try.underlying25 hi hz0 hz1 ?_
        exact hK _ _ ((Below.refl _ _).alloc (Nat.le_refl _) _) ⟨⟨_, _, _⟩, y, rfl, rfl, hy, own_one y ho (Nat.le_trans (Nat.le_of_eq HZW.out) hg.size)⟩
      -- 14: call fn20<locksmithref15.Of> [4325499:i64, t20] T[3, 25]
      · intro w1 hg Ar seen
        obtain ⟨v13, e13, h13⟩ := seen.dep 13 (d := 20) (by kernel_rfl) (by kernel_rfl) rfl
        refine does_plain rfl fun K Q' hK => ?_
        obtain ⟨s, y, rfl, hn, hy, ho⟩ := h13
        have HN := hid hn
        clear hn
        go_simp
        refine (refOf_any 4325499 s _).mono ?_
        rintro e u ⟨rfl, hb⟩
        exact hK _ _ hb ⟨s, y, rfl, HN.out, hy, ho.below hb⟩
      -- 15: alloc 27
      · intro w1 hg Ar seen
        refine does_plain rfl fun K Q' hK => ?_
        refine wp_alloc_obj 27 rfl itZ.arr iZero ?_
        exact hK _ _ ((Below.refl _ _).alloc (Nat.le_refl _) _) ⟨_, rfl, block_new _ _, Nat.le_trans (Nat.le_of_eq HZW.out) hg.size⟩
  intro w1 hg
  refine upon_w' (js := [0, 1, 2, 3, 4, 5, 6, 7, 8, 9, 10, 11, 12, 13, 14, 15]) (by rfl) ?_
  refine upon_c (x := some 7) (by kernel_rfl) rfl fun v0 h0 => ?_
  refine upon_c (x := some 8) (by kernel_rfl) rfl fun v1 h1 => ?_
  refine upon_c (x := some 9) (by kernel_rfl) rfl fun v2 h2 => ?_
  refine upon_c (x := some 10) (by kernel_rfl) rfl fun v3 h3 => ?_
  refine upon_c (x := some 11) (by kernel_rfl) rfl fun v4 h4 => ?_
  rcases h4 with rfl
  refine upon_c (x := some 12) (by kernel_rfl) rfl fun v5 h5 => ?_
  rcases h5 with rfl
  refine upon_c (x := some 13) (by kernel_rfl) rfl fun v6 h6 => ?_
  refine upon_c (x := some 14) (by kernel_rfl) rfl fun v7 h7 => ?_
  rcases h7 with rfl
  refine upon_c (x := some 15) (by kernel_rfl) rfl fun v8 h8 => ?_
  rcases h8 with rfl
  refine upon_c (x := some 16) (by kernel_rfl) rfl fun v9 h9 => ?_
  rcases h9 with rfl
  refine upon_c (x := some 17) (by kernel_rfl) rfl fun v10 h10 => ?_
  refine upon_c (x := some 18) (by kernel_rfl) rfl fun v11 h11 => ?_
  refine upon_c (x := some 19) (by kernel_rfl) rfl fun v12 h12 => ?_
  refine upon_c (x := some 20) (by kernel_rfl) rfl fun v13 h13 => ?_
  refine upon_c (x := some 21) (by kernel_rfl) rfl fun v14 h14 => ?_
  refine upon_c (x := some 3) (by kernel_rfl) rfl fun v15 h15 => ?_
  refine upon_n ?_
  obtain ⟨p, rfl, hp, hzp⟩ := h15
  obtain ⟨s, y, rfl, hsn, hyi, hyo⟩ := h14
  have HP := hid hp; have HZP := hid hzp; have HSN := hid hsn; have HYI := hid hyi; have HYO := hid hyo
  have HHF : Hid (b + 1 ∉ y.footN) := (hyo.ok y (List.mem_singleton.2 rfl)).notZero (T := 27) ((B0.out.below hg).res) (by rw [hyi]; exact nz_rsHead _ _)
  have hg' := hg
  unfold Grow at hg'
  rw [← HZW.out] at hg'
  have HGG := hid hg'
  have HSZ1 : Hid (z ≤ w1.heap.size) := by show _ ≤ _; rw [HZW.out]; exact hg.size
  clear hp hzp hg' hg hsn hyi hyo h0 h1 h2 h3 h6 h10 h11 h12 h13
  go_simp
  go_upto_region 2 with (refine wpList_store_obj rfl 27 _ _ rfl p rfl (ItV.arr { tag := 4325499, typ := 1, ks := s, kids := [y] }) rfl _ _ HP.out rfl iSize (arr_one _) ?_; intro w4 hb4 hc4 hs4; have HB4 := hid hb4; have HC4 := hid hc4; clear hb4 hc4 hs4)
  have HJ11 : Hid (OwnObj 27 w4 z p 4325499 s [y]) := OwnObj.start (x := { tag := 4325499, typ := 1, ks := s, kids := [y] }) rfl HYO.out (by rw [ItV.it_eq, List.map_cons, List.map_nil, HYI.out]; simp [nz, nzAll, layRsHead, ofI, numI]) HP.out (by rw [HSN.out]; decide) (by rw [HSN.out]; decide) HB4.out HC4.out
  have HBW11 : Hid (Below z W w4) := HGG.out.trans (HC4.out.below (B := z) (fun k hk => by rw [List.mem_singleton.1 hk]; exact HZP.out) HSZ1.out)
  have HZ11 : Hid (z ≤ w4.heap.size) := Nat.le_trans HSZ1.out HC4.out.size
  clear HP HYO HB4 HC4 HGG HSZ1
  obtain ⟨ka, hka⟩ : ∃ ka, q.its.a = ka := ⟨_, rfl⟩
  have HKA := hid hka
  obtain ⟨kn, hkn⟩ : ∃ kn, q.its.n = kn := ⟨_, rfl⟩
  have HN := hid hkn
  rw [hkn] at hnn HKN HYI
  clear hka hkn
  go_wp2_with fail
  go_loopw [4] (fun y wr => ∃ (k : Nat) (s2 : Sl) (l2 : List ItV), k ≤ kn ∧ y = .int .i64 k ∧ s2.n = k + 1 ∧ l2.map ItV.it = layRsHead q.time (kn : Int) :: ((q.items.take k).map fun x => layRsI x.rq) ∧ Below z W wr ∧ z ≤ wr.heap.size ∧ OwnObj 27 wr z p 4325499 s2 l2 ∧ ∀ x ∈ l2, b + 1 ∉ x.footN) (fun y _ => kn - (intOf y).toNat)
  case atStart => exact ⟨0, s, [y], Nat.zero_le _, rfl, HSN.out, by simp [HYI.out], HBW11.out, HZ11.out, HJ11.out, fun x hx => by rw [List.mem_singleton.1 hx]; exact HHF.out⟩
  case round =>
    clear HBW11 HZ11 HJ11 HHF HYI HSN
    obtain ⟨k, s2, l2, hk, rfl, hsk, hlo, hbw, hzw, hj, hft⟩ := hrel
    have HFT := hid hft
    clear hft
    have HBW := hid hbw; have HZW4 := hid hzw; have HJ := hid hj; have HLO := hid hlo; have HSK := hid hsk
    have hbr : Below W.heap.size W wr := by rw [← HZW.out]; exact HBW.out
    have HBR := hid hbr
    clear hbw hzw hj hlo hsk
    have c1 := cell_of_block (j := 1) (B0.out.below hbr).box (rv1 q)
    rw [HKA.out, HN.out] at c1
    clear hbr
    by_cases hlt : k < kn
    · obtain ⟨bx, ox, x, hax, hx, hrow⟩ := (HV0.out.below HBR.out).its.rsrow (k := k) (by rw [HN.out]; exact hlt)
      rw [HKA.out] at hax
      subst hax
      have HX := hid ((HV0.out.below HBR.out).each x (List.mem_of_getElem? hx))
      have HXL : Hid (∀ k ∈ x.foot, k < b) := HQL.out x (List.mem_of_getElem? hx)
      have HMS := hid (HMSG.out x (List.mem_of_getElem? hx))
      have HT : Hid ((q.items.take (k + 1)).map (fun x => layRsI x.rq) = (q.items.take k).map (fun x => layRsI x.rq) ++ [layRsI x.rq]) := by
        show _ = _
        rw [List.take_add_one, hx]; simp
      have HR := hid hrow
      clear hx hrow
      go_upto_region 6 with (first | (refine wpList_load_mid rfl 44 _ rfl bx (ox + k * 13) rfl x.arr.toList _ HR.out Try.underlying44 rfl sSize ?_; simp only [Array.toArray_toList]) | (refine wpList_alloc_obj rfl 44 rfl _ sZero ?_) | (refine wpList_store_obj rfl 44 _ _ rfl wr.heap.size rfl x.arr rfl _ _ (block_new wr _) rfl sSize (sarr_one _) ?_; intro w5 hb5 hc5 hs5; have HXB5 := hid hb5; have HC5 := hid hc5; clear hb5 hc5 hs5))
      go_simp
      have hbel : Below wr.heap.size wr w5 := ((Below.refl _ wr).alloc (Nat.le_refl _) _).trans (HC5.out.below (fun k hk => by rw [List.mem_singleton.1 hk]; exact Nat.le_refl _) (by simp))
      have HX5 := hid (HX.out.below hbel)
      have HBL5 := hid hbel
      have HJ5 := hid (HJ.out.below hbel)
      obtain ⟨c0, hc0⟩ : ∃ z, z = wr.heap.size := ⟨_, rfl⟩
      have HC0 := hid hc0
      obtain ⟨px, hpx⟩ : ∃ q, q = wr.heap.size := ⟨_, rfl⟩
      have HPXC := hid (hpx.trans hc0.symm)
      rw [← hpx] at HXB5 ⊢
      clear hbel HC5 HR hc0 hpx c1
      obtain ⟨zc, hzc⟩ : ∃ z, z = w5.heap.size := ⟨_, rfl⟩
      have HZC := hid hzc
      have HPX : Hid (px < zc) := by show px < zc; rw [hzc]; exact block_lt HXB5.out
      have HZB0 : Hid (z ≤ c0) := by show z ≤ c0; rw [HC0.out]; exact HZW4.out
      have HORD : Hid (b + 2 ≤ zc) := by have := HPX.out; have := HPXC.out; have := HZB0.out; have := HBZ.out; show b + 2 ≤ zc; omega
      clear hzc
      go_wp2_with fail
      refine (refOf_any 4325391 {} _).mono ?_
      rintro e w3 ⟨rfl, hb3⟩
      have HB3 := hid hb3
      clear hb3
      go_upto_region 7 with (first | (refine wpList_alloc_obj rfl 27 rfl _ iZero ?_) | (refine wpList_store_obj rfl 27 _ _ rfl w3.heap.size rfl (ItV.arr { tag := 4325391, typ := 1 }) rfl _ _ (block_new w3 _) rfl iSize (arr_one _) ?_; intro w6 hb6 hc6 hs6; have HB6 := hid hb6; have HC6 := hid hc6; clear hb6 hc6 hs6))
      go_simp
      have hbel : Below w3.heap.size w3 w6 := ((Below.refl _ w3).alloc (Nat.le_refl _) _).trans (HC6.out.below (fun k hk => by rw [List.mem_singleton.1 hk]; exact Nat.le_refl _) (by simp))
      have HBL : Hid (Below zc w5 w6) := by show Below zc w5 w6; rw [HZC.out]; exact HB3.out.trans (hbel.mono HB3.out.size)
      have HZ6 : Hid (zc ≤ w6.heap.size) := by show zc ≤ _; rw [HZC.out]; exact Nat.le_trans HB3.out.size hbel.size
      obtain ⟨p6, hp6⟩ : ∃ p, p = w3.heap.size := ⟨_, rfl⟩
      have HPB6 : Hid (zc ≤ p6) := by show zc ≤ p6; rw [hp6, HZC.out]; exact HB3.out.size
      rw [← hp6] at HB6 ⊢
      clear hbel hp6 HC6 HB3
      have HJ6 : Hid (OwnObj 27 w6 zc p6 4325391 {} []) := ⟨HB6.out, ⟨World.ownsRow_nil _ _ _ _, (fun x hx => by cases hx), (fun x hx => by cases hx), (fun x hx => by cases hx)⟩, (fun k hk => by simp [Value.ownBlock] at hk), (fun x hx => by cases hx)⟩
      clear HB6
      obtain ⟨s, hs⟩ : ∃ s : Sl, s = {} := ⟨_, rfl⟩
      obtain ⟨l, hl⟩ : ∃ l : List ItV, l = [] := ⟨_, rfl⟩
      have HSN : Hid (s.n = l.length) := by show s.n = l.length; rw [hs, hl]; rfl
      have HL2 : Hid (l.length ≤ 0) := by show l.length ≤ 0; rw [hl]; decide
      have HLI : Hid (l.map ItV.it = ([] : List Itm)) := by show _ = _; rw [hl]; rfl
      have HLF : Hid (∀ y ∈ l, ∀ k ∈ y.foot, k < b ∨ zc ≤ k) := fun y hy => by rw [hl] at hy; cases hy
      rw [← hs, ← hl] at HJ6
      clear hs hl
      have HXB := hid ((HBL.out.block _ HPX.out).trans HXB5.out)
      have hbc : Below w5.heap.size w5 w6 := by rw [← HZC.out]; exact HBL.out
      have HXO := hid (HX5.out.below hbc)
      clear hbc
      have hcc : w6.cell? ⟨px, 1, none⟩ = some (.bool x.hasOp) := cell_of_block (j := 1) HXB.out (rx1 x)
      go_upto_if 36 with (fail)
      clear hcc
      go_cut [] (fun wx => ∃ (sX : Sl) (lX : List ItV), OwnObj 27 wx zc p6 4325391 sX lX ∧ sX.n = lX.length ∧ lX.length ≤ 1 ∧ lX.map ItV.it = [] ++ (if x.hasOp then [numI 4325468 5 x.op] else []) ∧ (∀ y ∈ lX, ∀ k ∈ y.foot, k < b ∨ zc ≤ k) ∧ Below zc w5 wx ∧ zc ≤ wx.heap.size)
      case first =>
        cases hh : x.hasOp with
        | false =>
          go_wp2_with fail
          go_meet
          exact ⟨s, l, HJ6.out, HSN.out, (by have := HL2.out; omega), (by rw [HLI.out]; simp [hh]), HLF.out, HBL.out, HZ6.out⟩
        | true =>
          have HHH := hid hh
          obtain ⟨cw, hcw⟩ : ∃ c, c = w6.heap.size := ⟨_, rfl⟩
          have HCW := hid hcw
          clear hcw
          go_upto_region 8 with (fail)
          clear hh
          refine wp_region_each 6 [.eq (.pointer (some ⟨p6, 4, none⟩)), .eq (.slice s.a s.n s.c), .eq (.pointer (some ⟨px, 0, none⟩)), .eq (.int .i64 x.op), stMadeP (numI 4325468 5 x.op) (fun k => k < b ∨ cw ≤ k), stItemsP [numI 4325468 5 x.op] 1 (fun k => k < b ∨ cw ≤ k)] (by kernel_rfl) (by kernel_rfl) (by kernel_rfl) (by kernel_rfl) ?_ ?_
          · as_aux_lemma =>
              refine each_c (o' := _) ?_ (each_c (o' := _) ?_ (each_c (o' := _) ?_ (each_c (o' := _) ?_ (each_c (o' := _) ?_ (each_c (o' := _) ?_ (each_n))))))
              -- 0: fieldAddr 27 t6 4
              · intro w1 hg Ar seen
                have s6 := seen.slot 6 (v := .pointer (some ⟨p6, 0, none⟩)) (by kernel_rfl) rfl
                refine does_plain rfl fun K Q' hK => ?_
                go_simp; exact hK _ _ (Grow.refl _) rfl
              -- 1: load 25 t37
              · intro w1 hg Ar seen
                obtain ⟨v0, e0, h0⟩ := seen.dep 0 (d := 37) (by kernel_rfl) (by kernel_rfl) rfl
                rcases h0 with rfl
                refine does_plain rfl fun K Q' hK => ?_
                have hc := cell_of_block (j := 4) ((hg.block _ (block_lt HJ6.out.blk)).trans HJ6.out.blk) (ar4 _)
                go_simp; exact hK _ _ (Grow.refl _) rfl
              -- 2: fieldAddr 44 t5 0
              · intro w1 hg Ar seen
                have s5 := seen.slot 5 (v := .pointer (some ⟨px, 0, none⟩)) (by kernel_rfl) rfl
                refine does_plain rfl fun K Q' hK => ?_
                go_simp; exact hK _ _ (Grow.refl _) rfl
              -- 3: load 3 t39
              · intro w1 hg Ar seen
                obtain ⟨v2, e2, h2⟩ := seen.dep 2 (d := 39) (by kernel_rfl) (by kernel_rfl) rfl
                rcases h2 with rfl
                refine does_plain rfl fun K Q' hK => ?_
                have hc := cell_of_block (j := 0) ((hg.block _ (block_lt HXB.out)).trans HXB.out) (rx0 x)
                go_simp; exact hK _ _ (Grow.refl _) rfl
              -- 4: call fn21<locksmithref15.Number> [4325468:i64, 5:i64, t40] T[3, 3, 2]
              · intro w1 hg Ar seen
                obtain ⟨v3, e3, h3⟩ := seen.dep 3 (d := 40) (by kernel_rfl) (by kernel_rfl) rfl
                rcases h3 with rfl
                refine does_plain rfl fun K Q' hK => ?_
                go_simp
                refine (refNumber_any 4325468 5 x.op _).mono ?_
                rintro e u ⟨rfl, hb⟩
                exact hK _ _ hb ⟨_, rfl, numV_it _ _ _, numV_ok _ _ _ _, numV_foot _⟩
              -- 5: buildSlice 25 1 [(0, t41)]
              · intro w1 hg Ar seen
                obtain ⟨v4, e4, h4⟩ := seen.dep 4 (d := 41) (by kernel_rfl) (by kernel_rfl) rfl
                refine does_plain rfl fun K Q' hK => ?_
                obtain ⟨x4, rfl, hi4, ho4, hf4⟩ := h4
                refine wp_build_itemsP _ 27 1 _ rfl [x4] rfl (by decide) (by decide) (by simp [Act.eval, e4] <;> rfl) (x4.arr) (by simp [itmCells, ItV.cells]) i Try.underlying25 hi hz0 hz1 (fill1 x4) ?_
                intro s hn hs
                exact hK _ _ ((Below.refl _ _).alloc (Nat.le_refl _) _) ⟨s, [x4], rfl, hn, by simp [hi4], hs, fun x hx => by simp only [List.mem_cons, List.not_mem_nil, or_false] at hx; rcases hx with rfl <;> first | exact ⟨ho4.below ((Below.refl _ _).alloc (Nat.le_refl _) _), hf4⟩⟩
          intro w1 hg
          refine upon_w' (js := [0, 1, 2, 3, 4, 5]) (by rfl) ?_
          refine upon_c (x := some 37) (by kernel_rfl) rfl fun v0 h0 => ?_
          rcases h0 with rfl
          refine upon_c (x := some 38) (by kernel_rfl) rfl fun v1 h1 => ?_
          rcases h1 with rfl
          refine upon_c (x := some 39) (by kernel_rfl) rfl fun v2 h2 => ?_
          rcases h2 with rfl
          refine upon_c (x := some 40) (by kernel_rfl) rfl fun v3 h3 => ?_
          rcases h3 with rfl
          refine upon_c (x := some 41) (by kernel_rfl) rfl fun v4 h4 => ?_
          refine upon_c (x := some 42) (by kernel_rfl) rfl fun v5 h5 => ?_
          refine upon_n ?_
          obtain ⟨s1, ys, rfl, hn1, hyi, hs1, hys⟩ := h5
          obtain ⟨a1, n1, c1⟩ := s1
          simp only at hn1
          subst hn1
          have HYS := hid hys; have HS1 := hid hs1; have HYI2 := hid hyi
          have HJ1 := hid (HJ6.out.below hg)
          have HBL1 := hid (HBL.out.trans (hg.mono HZ6.out))
          have HZ1 : Hid (zc ≤ w1.heap.size) := Nat.le_trans HZ6.out hg.size
          have HOL : Hid (∀ k, s.v.ownBlock = some k → k < cw ∧ zc ≤ k) := fun k hk => ⟨by rw [HCW.out]; exact (HJ6.out.own.own.lt k hk).2, (HJ6.out.own.own.lt k hk).1⟩
          have HPC : Hid (p6 < cw) := by show p6 < cw; rw [HCW.out]; exact block_lt HJ6.out.blk
          have HZCW : Hid (zc ≤ cw) := by show zc ≤ cw; rw [HCW.out]; exact HZ6.out
          clear hyi hs1 hys hg h4 HJ6 HBL
          go_simp
          go_wp2_with (at_builtin; go_must (refine wpList_append_c rfl _ _ 25 rfl zc 27 i _ 5 72 Try.underlying25 hi hz0 hz1 hz2 rfl (by decide) (.slice s.a s.n s.c) s.n _ rfl HJ1.out.own.own _ 1 _ (itmCells ys) rfl HS1.out.rd (itm_one ys) HS1.out.no (by unfold maxLen; have := HSN.out; have := HL2.out; omega) (by have := HSN.out; have := HL2.out; omega) HZ1.out ?_); intro a' c' w8 hown hgw hfr; have hpush := HJ1.out.push (ys := ys) (a := a') (n := s.n + 1) (c := c') (Below.refl _ _) (fun y hy => (HYS.out y hy).1) (fun y hy k hk => ⟨fun he => by have h2 : k < cw ∧ zc ≤ k := HOL.out k he; have h3 : k < b ∨ cw ≤ k := (HYS.out y hy).2 k hk; have := HORD.out; omega, by have h3 : k < b ∨ cw ≤ k := (HYS.out y hy).2 k hk; have := HORD.out; have := HPC.out; have := HPB6.out; omega⟩) (by rw [itm_app]; exact hown) hgw hfr; have hq4 := cell_of_block (j := 4) hpush.1 (ar4 _); have hp8 := hid hpush.1; have hfz : ∀ j, w8.frozen? ⟨p6, j, none⟩ = false := (fun j => frozen_of_block hp8.out); have HJ8 := hid hpush.2; have HG8 := hid hgw; clear hown hgw hfr hpush hp8)
          clear hq4 hfz
          have hgb : Below zc w1 w8 := (Below.refl _ _).grown HG8.out HZ1.out (fun k hk => (HJ1.out.own.own.lt k hk).1)
          have HLY : Hid (ys.length = 1) := by show _ = _; have h1 := congrArg List.length HYI2.out; simpa using h1
          have HNEW : Hid (∃ (sX : Sl) (lX : List ItV), OwnObj 27 (w8.setCell ⟨p6, 4, none⟩ (.slice a' (s.n + 1) c')) zc p6 4325391 sX lX ∧ sX.n = lX.length ∧ lX.length ≤ 1 ∧ lX.map ItV.it = [] ++ (if x.hasOp then [numI 4325468 5 x.op] else []) ∧ (∀ y ∈ lX, ∀ k ∈ y.foot, k < b ∨ zc ≤ k) ∧ Below zc w5 (w8.setCell ⟨p6, 4, none⟩ (.slice a' (s.n + 1) c')) ∧ zc ≤ (w8.setCell ⟨p6, 4, none⟩ (.slice a' (s.n + 1) c')).heap.size) :=
            ⟨⟨a', s.n + 1, c'⟩, l ++ ys, HJ8.out, (by rw [List.length_append, HLY.out]; have := HSN.out; simp only; omega), (by rw [List.length_append, HLY.out]; have := HL2.out; omega), (by rw [List.map_append, HLI.out, HYI2.out]; simp [HHH.out]), (fun y hy k hk => by
              rcases List.mem_append.1 hy with h' | h'
              · exact HLF.out y h' k hk
              · rcases (HYS.out y h').2 k hk with h9 | h9
                · exact .inl h9
                · exact .inr (Nat.le_trans HZCW.out h9)), (HBL1.out.trans hgb).setCell (p := ⟨p6, 4, none⟩) HPB6.out _, Nat.le_trans HZ1.out (Nat.le_trans hgb.size (by simp [World.setCell]))⟩
          go_meet
          exact HNEW.out
      case rest =>
        clear HJ6 HSN HL2 HLI HLF HBL HZ6 HXB HXO
        obtain ⟨s, l, hj6, hsn, hl2, hli, hlf, hbl, hz6⟩ := hcut
        have HJ6 := hid hj6; have HSN := hid hsn; have HL2 := hid hl2; have HLI := hid hli; have HLF := hid hlf; have HBL := hid hbl; have HZ6 := hid hz6
        clear hj6 hsn hl2 hli hlf hbl hz6
        have HXB := hid ((HBL.out.block _ HPX.out).trans HXB5.out)
        have hbc : Below w5.heap.size w5 wc := by rw [← HZC.out]; exact HBL.out
        have HXO := hid (HX5.out.below hbc)
        clear hbc
        have hcc : wc.cell? ⟨px, 2, none⟩ = some (.bool x.hasId) := cell_of_block (j := 2) HXB.out (rx2 x)
        go_upto_if 46 with (fail)
        clear hcc
        go_cut [] (fun wx => ∃ (sX : Sl) (lX : List ItV), OwnObj 27 wx zc p6 4325391 sX lX ∧ sX.n = lX.length ∧ lX.length ≤ 2 ∧ lX.map ItV.it = [] ++ (if x.hasOp then [numI 4325468 5 x.op] else []) ++ (if x.hasId then [{ tag := 4325523, typ := 8, data := x.id }] else []) ∧ (∀ y ∈ lX, ∀ k ∈ y.foot, k < b ∨ zc ≤ k) ∧ Below zc w5 wx ∧ zc ≤ wx.heap.size)
        case first =>
          cases hh : x.hasId with
          | false =>
            go_wp2_with fail
            go_meet
            exact ⟨s, l, HJ6.out, HSN.out, (by have := HL2.out; omega), (by rw [HLI.out]; simp [hh]), HLF.out, HBL.out, HZ6.out⟩
          | true =>
            have HHH := hid hh
            obtain ⟨cw, hcw⟩ : ∃ c, c = wc.heap.size := ⟨_, rfl⟩
            have HCW := hid hcw
            clear hcw
            go_upto_region 10 with (fail)
            clear hh
            refine wp_region_each 6 [.eq (.pointer (some ⟨p6, 4, none⟩)), .eq (.slice s.a s.n s.c), .eq (.pointer (some ⟨px, 3, none⟩)), .eq (.slice x.ids.a x.ids.n x.ids.c), stMadeP { tag := 4325523, typ := 8, data := x.id } (fun k => k < b ∨ cw ≤ k), stItemsP [{ tag := 4325523, typ := 8, data := x.id }] 1 (fun k => k < b ∨ cw ≤ k)] (by kernel_rfl) (by kernel_rfl) (by kernel_rfl) (by kernel_rfl) ?_ ?_
            · as_aux_lemma =>
                refine each_c (o' := _) ?_ (each_c (o' := _) ?_ (each_c (o' := _) ?_ (each_c (o' := _) ?_ (each_c (o' := _) ?_ (each_c (o' := _) ?_ (each_n))))))
                -- 0: fieldAddr 27 t6 4
                · intro w1 hg Ar seen
                  have s6 := seen.slot 6 (v := .pointer (some ⟨p6, 0, none⟩)) (by kernel_rfl) rfl
                  refine does_plain rfl fun K Q' hK => ?_
                  go_simp; exact hK _ _ (Grow.refl _) rfl
                -- 1: load 25 t47
                · intro w1 hg Ar seen
                  obtain ⟨v0, e0, h0⟩ := seen.dep 0 (d := 47) (by kernel_rfl) (by kernel_rfl) rfl
                  rcases h0 with rfl
                  refine does_plain rfl fun K Q' hK => ?_
                  have hc := cell_of_block (j := 4) ((hg.block _ (block_lt HJ6.out.blk)).trans HJ6.out.blk) (ar4 _)
                  go_simp; exact hK _ _ (Grow.refl _) rfl
                -- 2: fieldAddr 44 t5 3
                · intro w1 hg Ar seen
                  have s5 := seen.slot 5 (v := .pointer (some ⟨px, 0, none⟩)) (by kernel_rfl) rfl
                  refine does_plain rfl fun K Q' hK => ?_
                  go_simp; exact hK _ _ (Grow.refl _) rfl
                -- 3: load 24 t49
                · intro w1 hg Ar seen
                  obtain ⟨v2, e2, h2⟩ := seen.dep 2 (d := 49) (by kernel_rfl) (by kernel_rfl) rfl
                  rcases h2 with rfl
                  refine does_plain rfl fun K Q' hK => ?_
                  have hc := cell_of_block (j := 3) ((hg.block _ (block_lt HXB.out)).trans HXB.out) (rx3 x)
                  go_simp; exact hK _ _ (Grow.refl _) rfl
                -- 4: call fn22<locksmithref15.Bytes> [4325523:i64, t50] T[3, 24]
                · intro w1 hg Ar seen
                  obtain ⟨v3, e3, h3⟩ := seen.dep 3 (d := 50) (by kernel_rfl) (by kernel_rfl) rfl
                  rcases h3 with rfl
                  refine does_plain rfl fun K Q' hK => ?_
                  go_simp
                  refine (refBytes_any 4325523 x.ids _).mono ?_
                  rintro e u ⟨rfl, hb⟩
                  exact hK _ _ hb ⟨{ tag := 4325523, typ := 8, data := x.id, ds := x.ids }, rfl, it_flat _ _ _ _ _, ok_flat ((HXO.out.ids.below hg).below hb), fun k hk => .inl (HXL.out k (List.mem_append_left _ (foot_flat hk)))⟩
                -- 5: buildSlice 25 1 [(0, t51)]
                · intro w1 hg Ar seen
                  obtain ⟨v4, e4, h4⟩ := seen.dep 4 (d := 51) (by kernel_rfl) (by kernel_rfl) rfl
                  refine does_plain rfl fun K Q' hK => ?_
                  obtain ⟨x4, rfl, hi4, ho4, hf4⟩ := h4
                  refine wp_build_itemsP _ 27 1 _ rfl [x4] rfl (by decide) (by decide) (by simp [Act.eval, e4] <;> rfl) (x4.arr) (by simp [itmCells, ItV.cells]) i Try.underlying25 hi hz0 hz1 (fill1 x4) ?_
                  intro s hn hs
                  exact hK _ _ ((Below.refl _ _).alloc (Nat.le_refl _) _) ⟨s, [x4], rfl, hn, by simp [hi4], hs, fun x hx => by simp only [List.mem_cons, List.not_mem_nil, or_false] at hx; rcases hx with rfl <;> first | exact ⟨ho4.below ((Below.refl _ _).alloc (Nat.le_refl _) _), hf4⟩⟩
            intro w1 hg
            refine upon_w' (js := [0, 1, 2, 3, 4, 5]) (by rfl) ?_
            refine upon_c (x := some 47) (by kernel_rfl) rfl fun v0 h0 => ?_
            rcases h0 with rfl
            refine upon_c (x := some 48) (by kernel_rfl) rfl fun v1 h1 => ?_
            rcases h1 with rfl
            refine upon_c (x := some 49) (by kernel_rfl) rfl fun v2 h2 => ?_
            rcases h2 with rfl
            refine upon_c (x := some 50) (by kernel_rfl) rfl fun v3 h3 => ?_
            rcases h3 with rfl
            refine upon_c (x := some 51) (by kernel_rfl) rfl fun v4 h4 => ?_
            refine upon_c (x := some 52) (by kernel_rfl) rfl fun v5 h5 => ?_
            refine upon_n ?_
            obtain ⟨s1, ys, rfl, hn1, hyi, hs1, hys⟩ := h5
            obtain ⟨a1, n1, c1⟩ := s1
            simp only at hn1
            subst hn1
            have HYS := hid hys; have HS1 := hid hs1; have HYI2 := hid hyi
            have HJ1 := hid (HJ6.out.below hg)
            have HBL1 := hid (HBL.out.trans (hg.mono HZ6.out))
            have HZ1 : Hid (zc ≤ w1.heap.size) := Nat.le_trans HZ6.out hg.size
            have HOL : Hid (∀ k, s.v.ownBlock = some k → k < cw ∧ zc ≤ k) := fun k hk => ⟨by rw [HCW.out]; exact (HJ6.out.own.own.lt k hk).2, (HJ6.out.own.own.lt k hk).1⟩
            have HPC : Hid (p6 < cw) := by show p6 < cw; rw [HCW.out]; exact block_lt HJ6.out.blk
            have HZCW : Hid (zc ≤ cw) := by show zc ≤ cw; rw [HCW.out]; exact HZ6.out
            clear hyi hs1 hys hg h4 HJ6 HBL
            go_simp
            go_wp2_with (at_builtin; go_must (refine wpList_append_c rfl _ _ 25 rfl zc 27 i _ 5 72 Try.underlying25 hi hz0 hz1 hz2 rfl (by decide) (.slice s.a s.n s.c) s.n _ rfl HJ1.out.own.own _ 1 _ (itmCells ys) rfl HS1.out.rd (itm_one ys) HS1.out.no (by unfold maxLen; have := HSN.out; have := HL2.out; omega) (by have := HSN.out; have := HL2.out; omega) HZ1.out ?_); intro a' c' w8 hown hgw hfr; have hpush := HJ1.out.push (ys := ys) (a := a') (n := s.n + 1) (c := c') (Below.refl _ _) (fun y hy => (HYS.out y hy).1) (fun y hy k hk => ⟨fun he => by have h2 : k < cw ∧ zc ≤ k := HOL.out k he; have h3 : k < b ∨ cw ≤ k := (HYS.out y hy).2 k hk; have := HORD.out; omega, by have h3 : k < b ∨ cw ≤ k := (HYS.out y hy).2 k hk; have := HORD.out; have := HPC.out; have := HPB6.out; omega⟩) (by rw [itm_app]; exact hown) hgw hfr; have hq4 := cell_of_block (j := 4) hpush.1 (ar4 _); have hp8 := hid hpush.1; have hfz : ∀ j, w8.frozen? ⟨p6, j, none⟩ = false := (fun j => frozen_of_block hp8.out); have HJ8 := hid hpush.2; have HG8 := hid hgw; clear hown hgw hfr hpush hp8)
            clear hq4 hfz
            have hgb : Below zc w1 w8 := (Below.refl _ _).grown HG8.out HZ1.out (fun k hk => (HJ1.out.own.own.lt k hk).1)
            have HLY : Hid (ys.length = 1) := by show _ = _; have h1 := congrArg List.length HYI2.out; simpa using h1
            have HNEW : Hid (∃ (sX : Sl) (lX : List ItV), OwnObj 27 (w8.setCell ⟨p6, 4, none⟩ (.slice a' (s.n + 1) c')) zc p6 4325391 sX lX ∧ sX.n = lX.length ∧ lX.length ≤ 2 ∧ lX.map ItV.it = [] ++ (if x.hasOp then [numI 4325468 5 x.op] else []) ++ (if x.hasId then [{ tag := 4325523, typ := 8, data := x.id }] else []) ∧ (∀ y ∈ lX, ∀ k ∈ y.foot, k < b ∨ zc ≤ k) ∧ Below zc w5 (w8.setCell ⟨p6, 4, none⟩ (.slice a' (s.n + 1) c')) ∧ zc ≤ (w8.setCell ⟨p6, 4, none⟩ (.slice a' (s.n + 1) c')).heap.size) :=
              ⟨⟨a', s.n + 1, c'⟩, l ++ ys, HJ8.out, (by rw [List.length_append, HLY.out]; have := HSN.out; simp only; omega), (by rw [List.length_append, HLY.out]; have := HL2.out; omega), (by rw [List.map_append, HLI.out, HYI2.out]; simp [HHH.out]), (fun y hy k hk => by
                rcases List.mem_append.1 hy with h' | h'
                · exact HLF.out y h' k hk
                · rcases (HYS.out y h').2 k hk with h9 | h9
                  · exact .inl h9
                  · exact .inr (Nat.le_trans HZCW.out h9)), (HBL1.out.trans hgb).setCell (p := ⟨p6, 4, none⟩) HPB6.out _, Nat.le_trans HZ1.out (Nat.le_trans hgb.size (by simp [World.setCell]))⟩
            go_meet
            exact HNEW.out
        case rest =>
          clear HJ6 HSN HL2 HLI HLF HBL HZ6 HXB HXO
          obtain ⟨s, l, hj6, hsn, hl2, hli, hlf, hbl, hz6⟩ := hcut
          have HJ6 := hid hj6; have HSN := hid hsn; have HL2 := hid hl2; have HLI := hid hli; have HLF := hid hlf; have HBL := hid hbl; have HZ6 := hid hz6
          clear hj6 hsn hl2 hli hlf hbl hz6
          have HXB := hid ((HBL.out.block _ HPX.out).trans HXB5.out)
          have hbc : Below w5.heap.size w5 wc := by rw [← HZC.out]; exact HBL.out
          have HXO := hid (HX5.out.below hbc)
          clear hbc
          obtain ⟨cw, hcw⟩ : ∃ c, c = wc.heap.size := ⟨_, rfl⟩
          have HCW := hid hcw
          clear hcw
          go_upto_region 11 with (fail)
          refine wp_region_each 6 [.eq (.pointer (some ⟨p6, 4, none⟩)), .eq (.slice s.a s.n s.c), .eq (.pointer (some ⟨px, 4, none⟩)), .eq (.int .i64 x.status), stMadeP (numI 4325503 5 x.status) (fun k => k < b ∨ cw ≤ k), stItemsP [numI 4325503 5 x.status] 1 (fun k => k < b ∨ cw ≤ k)] (by kernel_rfl) (by kernel_rfl) (by kernel_rfl) (by kernel_rfl) ?_ ?_
          · as_aux_lemma =>
              refine each_c (o' := _) ?_ (each_c (o' := _) ?_ (each_c (o' := _) ?_ (each_c (o' := _) ?_ (each_c (o' := _) ?_ (each_c (o' := _) ?_ (each_n))))))
              -- 0: fieldAddr 27 t6 4
              · intro w1 hg Ar seen
                have s6 := seen.slot 6 (v := .pointer (some ⟨p6, 0, none⟩)) (by kernel_rfl) rfl
                refine does_plain rfl fun K Q' hK => ?_
                go_simp; exact hK _ _ (Grow.refl _) rfl
              -- 1: load 25 t55
              · intro w1 hg Ar seen
                obtain ⟨v0, e0, h0⟩ := seen.dep 0 (d := 55) (by kernel_rfl) (by kernel_rfl) rfl
                rcases h0 with rfl
                refine does_plain rfl fun K Q' hK => ?_
                have hc := cell_of_block (j := 4) ((hg.block _ (block_lt HJ6.out.blk)).trans HJ6.out.blk) (ar4 _)
                go_simp; exact hK _ _ (Grow.refl _) rfl
              -- 2: fieldAddr 44 t5 4
              · intro w1 hg Ar seen
                have s5 := seen.slot 5 (v := .pointer (some ⟨px, 0, none⟩)) (by kernel_rfl) rfl
                refine does_plain rfl fun K Q' hK => ?_
                go_simp; exact hK _ _ (Grow.refl _) rfl
              -- 3: load 3 t57
              · intro w1 hg Ar seen
                obtain ⟨v2, e2, h2⟩ := seen.dep 2 (d := 57) (by kernel_rfl) (by kernel_rfl) rfl
                rcases h2 with rfl
                refine does_plain rfl fun K Q' hK => ?_
                have hc := cell_of_block (j := 4) ((hg.block _ (block_lt HXB.out)).trans HXB.out) (rx4 x)
                go_simp; exact hK _ _ (Grow.refl _) rfl
              -- 4: call fn21<locksmithref15.Number> [4325503:i64, 5:i64, t58] T[3, 3, 2]
              · intro w1 hg Ar seen
                obtain ⟨v3, e3, h3⟩ := seen.dep 3 (d := 58) (by kernel_rfl) (by kernel_rfl) rfl
                rcases h3 with rfl
                refine does_plain rfl fun K Q' hK => ?_
                go_simp
                refine (refNumber_any 4325503 5 x.status _).mono ?_
                rintro e u ⟨rfl, hb⟩
                exact hK _ _ hb ⟨_, rfl, numV_it _ _ _, numV_ok _ _ _ _, numV_foot _⟩
              -- 5: buildSlice 25 1 [(0, t59)]
              · intro w1 hg Ar seen
                obtain ⟨v4, e4, h4⟩ := seen.dep 4 (d := 59) (by kernel_rfl) (by kernel_rfl) rfl
                refine does_plain rfl fun K Q' hK => ?_
                obtain ⟨x4, rfl, hi4, ho4, hf4⟩ := h4
                refine wp_build_itemsP _ 27 1 _ rfl [x4] rfl (by decide) (by decide) (by simp [Act.eval, e4] <;> rfl) (x4.arr) (by simp [itmCells, ItV.cells]) i Try.underlying25 hi hz0 hz1 (fill1 x4) ?_
                intro s hn hs
                exact hK _ _ ((Below.refl _ _).alloc (Nat.le_refl _) _) ⟨s, [x4], rfl, hn, by simp [hi4], hs, fun x hx => by simp only [List.mem_cons, List.not_mem_nil, or_false] at hx; rcases hx with rfl <;> first | exact ⟨ho4.below ((Below.refl _ _).alloc (Nat.le_refl _) _), hf4⟩⟩
          intro w1 hg
          refine upon_w' (js := [0, 1, 2, 3, 4, 5]) (by rfl) ?_
          refine upon_c (x := some 55) (by kernel_rfl) rfl fun v0 h0 => ?_
          rcases h0 with rfl
          refine upon_c (x := some 56) (by kernel_rfl) rfl fun v1 h1 => ?_
          rcases h1 with rfl
          refine upon_c (x := some 57) (by kernel_rfl) rfl fun v2 h2 => ?_
          rcases h2 with rfl
          refine upon_c (x := some 58) (by kernel_rfl) rfl fun v3 h3 => ?_
          rcases h3 with rfl
          refine upon_c (x := some 59) (by kernel_rfl) rfl fun v4 h4 => ?_
          refine upon_c (x := some 60) (by kernel_rfl) rfl fun v5 h5 => ?_
          refine upon_n ?_
          obtain ⟨s1, ys, rfl, hn1, hyi, hs1, hys⟩ := h5
          obtain ⟨a1, n1, c1⟩ := s1
          simp only at hn1
          subst hn1
          have HYS := hid hys; have HS1 := hid hs1; have HYI2 := hid hyi
          have HJ1 := hid (HJ6.out.below hg)
          have HBL1 := hid (HBL.out.trans (hg.mono HZ6.out))
          have HZ1 : Hid (zc ≤ w1.heap.size) := Nat.le_trans HZ6.out hg.size
          have HOL : Hid (∀ k, s.v.ownBlock = some k → k < cw ∧ zc ≤ k) := fun k hk => ⟨by rw [HCW.out]; exact (HJ6.out.own.own.lt k hk).2, (HJ6.out.own.own.lt k hk).1⟩
          have HPC : Hid (p6 < cw) := by show p6 < cw; rw [HCW.out]; exact block_lt HJ6.out.blk
          have HZCW : Hid (zc ≤ cw) := by show zc ≤ cw; rw [HCW.out]; exact HZ6.out
          clear hyi hs1 hys hg h4 HJ6 HBL
          go_simp
          go_upto_region 12 with (at_builtin; go_must (refine wpList_append_c rfl _ _ 25 rfl zc 27 i _ 5 72 Try.underlying25 hi hz0 hz1 hz2 rfl (by decide) (.slice s.a s.n s.c) s.n _ rfl HJ1.out.own.own _ 1 _ (itmCells ys) rfl HS1.out.rd (itm_one ys) HS1.out.no (by unfold maxLen; have := HSN.out; have := HL2.out; omega) (by have := HSN.out; have := HL2.out; omega) HZ1.out ?_); intro a' c' w8 hown hgw hfr; have hpush := HJ1.out.push (ys := ys) (a := a') (n := s.n + 1) (c := c') (Below.refl _ _) (fun y hy => (HYS.out y hy).1) (fun y hy k hk => ⟨fun he => by have h2 : k < cw ∧ zc ≤ k := HOL.out k he; have h3 : k < b ∨ cw ≤ k := (HYS.out y hy).2 k hk; have := HORD.out; omega, by have h3 : k < b ∨ cw ≤ k := (HYS.out y hy).2 k hk; have := HORD.out; have := HPC.out; have := HPB6.out; omega⟩) (by rw [itm_app]; exact hown) hgw hfr; have hq4 := cell_of_block (j := 4) hpush.1 (ar4 _); have hp8 := hid hpush.1; have hfz : ∀ j, w8.frozen? ⟨p6, j, none⟩ = false := (fun j => frozen_of_block hp8.out); have HJ8 := hid hpush.2; have HG8 := hid hgw; clear hown hgw hfr hpush hp8)
          clear hq4 hfz
          have hgb : Below zc w1 w8 := (Below.refl _ _).grown HG8.out HZ1.out (fun k hk => (HJ1.out.own.own.lt k hk).1)
          have HLY : Hid (ys.length = 1) := by show _ = _; have h1 := congrArg List.length HYI2.out; simpa using h1
          have HNEW : Hid (∃ (sX : Sl) (lX : List ItV), OwnObj 27 (w8.setCell ⟨p6, 4, none⟩ (.slice a' (s.n + 1) c')) zc p6 4325391 sX lX ∧ sX.n = lX.length ∧ lX.length ≤ 3 ∧ lX.map ItV.it = [] ++ (if x.hasOp then [numI 4325468 5 x.op] else []) ++ (if x.hasId then [{ tag := 4325523, typ := 8, data := x.id }] else []) ++ [numI 4325503 5 x.status] ∧ (∀ y ∈ lX, ∀ k ∈ y.foot, k < b ∨ zc ≤ k) ∧ Below zc w5 (w8.setCell ⟨p6, 4, none⟩ (.slice a' (s.n + 1) c')) ∧ zc ≤ (w8.setCell ⟨p6, 4, none⟩ (.slice a' (s.n + 1) c')).heap.size) :=
            ⟨⟨a', s.n + 1, c'⟩, l ++ ys, HJ8.out, (by rw [List.length_append, HLY.out]; have := HSN.out; simp only; omega), (by rw [List.length_append, HLY.out]; have := HL2.out; omega), (by rw [List.map_append, HLI.out, HYI2.out]; try rfl), (fun y hy k hk => by
              rcases List.mem_append.1 hy with h' | h'
              · exact HLF.out y h' k hk
              · rcases (HYS.out y h').2 k hk with h9 | h9
                · exact .inl h9
                · exact .inr (Nat.le_trans HZCW.out h9)), (HBL1.out.trans hgb).setCell (p := ⟨p6, 4, none⟩) HPB6.out _, Nat.le_trans HZ1.out (Nat.le_trans hgb.size (by simp [World.setCell]))⟩
          clear hgb HJ8 HJ1 HBL1 HG8 HYS HS1 HYI2 HLI HLF HL2 HSN HZ1 HLY HOL HPC HZCW HCW HXB HXO
          generalize w8.setCell ⟨p6, 4, none⟩ (.slice a' (s.n + 1) c') = wc at *
          clear HZ6
          have hcut := HNEW.out
          clear HNEW
          obtain ⟨s, l, hj6, hsn, hl2, hli, hlf, hbl, hz6⟩ := hcut
          have HJ6 := hid hj6; have HSN := hid hsn; have HL2 := hid hl2; have HLI := hid hli; have HLF := hid hlf; have HBL := hid hbl; have HZ6 := hid hz6
          clear hj6 hsn hl2 hli hlf hbl hz6
          have HXB := hid ((HBL.out.block _ HPX.out).trans HXB5.out)
          have hbc : Below w5.heap.size w5 wc := by rw [← HZC.out]; exact HBL.out
          have HXO := hid (HX5.out.below hbc)
          clear hbc
          have hcc : wc.cell? ⟨px, 5, none⟩ = some (.int .i64 x.reason) := cell_of_block (j := 5) HXB.out (rx5 x)
          go_upto_if 65 with (fail)
          clear hcc
          go_cut [] (fun wx => ∃ (sX : Sl) (lX : List ItV), OwnObj 27 wx zc p6 4325391 sX lX ∧ sX.n = lX.length ∧ lX.length ≤ 4 ∧ lX.map ItV.it = [] ++ (if x.hasOp then [numI 4325468 5 x.op] else []) ++ (if x.hasId then [{ tag := 4325523, typ := 8, data := x.id }] else []) ++ [numI 4325503 5 x.status] ++ (if x.reason ≠ 0 then [numI 4325502 5 x.reason] else []) ∧ (∀ y ∈ lX, ∀ k ∈ y.foot, k < b ∨ zc ≤ k) ∧ Below zc w5 wx ∧ zc ≤ wx.heap.size)
          case first =>
            by_cases hh : x.reason = 0
            · have hb0 : (x.reason == 0) = true := by simpa using hh
              go_wp2_with fail
              go_meet
              exact ⟨s, l, HJ6.out, HSN.out, (by have := HL2.out; omega), (by rw [HLI.out]; simp [hh]), HLF.out, HBL.out, HZ6.out⟩
            · have hb0 : (x.reason == 0) = false := by simpa using hh
              have HHH := hid hh
              obtain ⟨cw, hcw⟩ : ∃ c, c = wc.heap.size := ⟨_, rfl⟩
              have HCW := hid hcw
              clear hcw
              go_upto_region 13 with (fail)
              clear hh hb0
              refine wp_region_each 6 [.eq (.pointer (some ⟨p6, 4, none⟩)), .eq (.slice s.a s.n s.c), .eq (.pointer (some ⟨px, 5, none⟩)), .eq (.int .i64 x.reason), stMadeP (numI 4325502 5 x.reason) (fun k => k < b ∨ cw ≤ k), stItemsP [numI 4325502 5 x.reason] 1 (fun k => k < b ∨ cw ≤ k)] (by kernel_rfl) (by kernel_rfl) (by kernel_rfl) (by kernel_rfl) ?_ ?_
              · as_aux_lemma =>
                  refine each_c (o' := _) ?_ (each_c (o' := _) ?_ (each_c (o' := _) ?_ (each_c (o' := _) ?_ (each_c (o' := _) ?_ (each_c (o' := _) ?_ (each_n))))))
                  -- 0: fieldAddr 27 t6 4
                  · intro w1 hg Ar seen
                    have s6 := seen.slot 6 (v := .pointer (some ⟨p6, 0, none⟩)) (by kernel_rfl) rfl
                    refine does_plain rfl fun K Q' hK => ?_
                    go_simp; exact hK _ _ (Grow.refl _) rfl
                  -- 1: load 25 t66
                  · intro w1 hg Ar seen
                    obtain ⟨v0, e0, h0⟩ := seen.dep 0 (d := 66) (by kernel_rfl) (by kernel_rfl) rfl
                    rcases h0 with rfl
                    refine does_plain rfl fun K Q' hK => ?_
                    have hc := cell_of_block (j := 4) ((hg.block _ (block_lt HJ6.out.blk)).trans HJ6.out.blk) (ar4 _)
                    go_simp; exact hK _ _ (Grow.refl _) rfl
                  -- 2: fieldAddr 44 t5 5
                  · intro w1 hg Ar seen
                    have s5 := seen.slot 5 (v := .pointer (some ⟨px, 0, none⟩)) (by kernel_rfl) rfl
                    refine does_plain rfl fun K Q' hK => ?_
                    go_simp; exact hK _ _ (Grow.refl _) rfl
                  -- 3: load 3 t68
                  · intro w1 hg Ar seen
                    obtain ⟨v2, e2, h2⟩ := seen.dep 2 (d := 68) (by kernel_rfl) (by kernel_rfl) rfl
                    rcases h2 with rfl
                    refine does_plain rfl fun K Q' hK => ?_
                    have hc := cell_of_block (j := 5) ((hg.block _ (block_lt HXB.out)).trans HXB.out) (rx5 x)
                    go_simp; exact hK _ _ (Grow.refl _) rfl
                  -- 4: call fn21<locksmithref15.Number> [4325502:i64, 5:i64, t69] T[3, 3, 2]
                  · intro w1 hg Ar seen
                    obtain ⟨v3, e3, h3⟩ := seen.dep 3 (d := 69) (by kernel_rfl) (by kernel_rfl) rfl
                    rcases h3 with rfl
                    refine does_plain rfl fun K Q' hK => ?_
                    go_simp
                    refine (refNumber_any 4325502 5 x.reason _).mono ?_
                    rintro e u ⟨rfl, hb⟩
                    exact hK _ _ hb ⟨_, rfl, numV_it _ _ _, numV_ok _ _ _ _, numV_foot _⟩
                  -- 5: buildSlice 25 1 [(0, t70)]
                  · intro w1 hg Ar seen
                    obtain ⟨v4, e4, h4⟩ := seen.dep 4 (d := 70) (by kernel_rfl) (by kernel_rfl) rfl
                    refine does_plain rfl fun K Q' hK => ?_
                    obtain ⟨x4, rfl, hi4, ho4, hf4⟩ := h4
                    refine wp_build_itemsP _ 27 1 _ rfl [x4] rfl (by decide) (by decide) (by simp [Act.eval, e4] <;> rfl) (x4.arr) (by simp [itmCells, ItV.cells]) i Try.underlying25 hi hz0 hz1 (fill1 x4) ?_
                    intro s hn hs
                    exact hK _ _ ((Below.refl _ _).alloc (Nat.le_refl _) _) ⟨s, [x4], rfl, hn, by simp [hi4], hs, fun x hx => by simp only [List.mem_cons, List.not_mem_nil, or_false] at hx; rcases hx with rfl <;> first | exact ⟨ho4.below ((Below.refl _ _).alloc (Nat.le_refl _) _), hf4⟩⟩
              intro w1 hg
              refine upon_w' (js := [0, 1, 2, 3, 4, 5]) (by rfl) ?_
              refine upon_c (x := some 66) (by kernel_rfl) rfl fun v0 h0 => ?_
              rcases h0 with rfl
              refine upon_c (x := some 67) (by kernel_rfl) rfl fun v1 h1 => ?_
              rcases h1 with rfl
              refine upon_c (x := some 68) (by kernel_rfl) rfl fun v2 h2 => ?_
              rcases h2 with rfl
              refine upon_c (x := some 69) (by kernel_rfl) rfl fun v3 h3 => ?_
              rcases h3 with rfl
              refine upon_c (x := some 70) (by kernel_rfl) rfl fun v4 h4 => ?_
              refine upon_c (x := some 71) (by kernel_rfl) rfl fun v5 h5 => ?_
              refine upon_n ?_
              obtain ⟨s1, ys, rfl, hn1, hyi, hs1, hys⟩ := h5
              obtain ⟨a1, n1, c1⟩ := s1
              simp only at hn1
              subst hn1
              have HYS := hid hys; have HS1 := hid hs1; have HYI2 := hid hyi
              have HJ1 := hid (HJ6.out.below hg)
              have HBL1 := hid (HBL.out.trans (hg.mono HZ6.out))
              have HZ1 : Hid (zc ≤ w1.heap.size) := Nat.le_trans HZ6.out hg.size
              have HOL : Hid (∀ k, s.v.ownBlock = some k → k < cw ∧ zc ≤ k) := fun k hk => ⟨by rw [HCW.out]; exact (HJ6.out.own.own.lt k hk).2, (HJ6.out.own.own.lt k hk).1⟩
              have HPC : Hid (p6 < cw) := by show p6 < cw; rw [HCW.out]; exact block_lt HJ6.out.blk
              have HZCW : Hid (zc ≤ cw) := by show zc ≤ cw; rw [HCW.out]; exact HZ6.out
              clear hyi hs1 hys hg h4 HJ6 HBL
              go_simp
              go_wp2_with (at_builtin; go_must (refine wpList_append_c rfl _ _ 25 rfl zc 27 i _ 5 72 Try.underlying25 hi hz0 hz1 hz2 rfl (by decide) (.slice s.a s.n s.c) s.n _ rfl HJ1.out.own.own _ 1 _ (itmCells ys) rfl HS1.out.rd (itm_one ys) HS1.out.no (by unfold maxLen; have := HSN.out; have := HL2.out; omega) (by have := HSN.out; have := HL2.out; omega) HZ1.out ?_); intro a' c' w8 hown hgw hfr; have hpush := HJ1.out.push (ys := ys) (a := a') (n := s.n + 1) (c := c') (Below.refl _ _) (fun y hy => (HYS.out y hy).1) (fun y hy k hk => ⟨fun he => by have h2 : k < cw ∧ zc ≤ k := HOL.out k he; have h3 : k < b ∨ cw ≤ k := (HYS.out y hy).2 k hk; have := HORD.out; omega, by have h3 : k < b ∨ cw ≤ k := (HYS.out y hy).2 k hk; have := HORD.out; have := HPC.out; have := HPB6.out; omega⟩) (by rw [itm_app]; exact hown) hgw hfr; have hq4 := cell_of_block (j := 4) hpush.1 (ar4 _); have hp8 := hid hpush.1; have hfz : ∀ j, w8.frozen? ⟨p6, j, none⟩ = false := (fun j => frozen_of_block hp8.out); have HJ8 := hid hpush.2; have HG8 := hid hgw; clear hown hgw hfr hpush hp8)
              clear hq4 hfz
              have hgb : Below zc w1 w8 := (Below.refl _ _).grown HG8.out HZ1.out (fun k hk => (HJ1.out.own.own.lt k hk).1)
              have HLY : Hid (ys.length = 1) := by show _ = _; have h1 := congrArg List.length HYI2.out; simpa using h1
              have HNEW : Hid (∃ (sX : Sl) (lX : List ItV), OwnObj 27 (w8.setCell ⟨p6, 4, none⟩ (.slice a' (s.n + 1) c')) zc p6 4325391 sX lX ∧ sX.n = lX.length ∧ lX.length ≤ 4 ∧ lX.map ItV.it = [] ++ (if x.hasOp then [numI 4325468 5 x.op] else []) ++ (if x.hasId then [{ tag := 4325523, typ := 8, data := x.id }] else []) ++ [numI 4325503 5 x.status] ++ (if x.reason ≠ 0 then [numI 4325502 5 x.reason] else []) ∧ (∀ y ∈ lX, ∀ k ∈ y.foot, k < b ∨ zc ≤ k) ∧ Below zc w5 (w8.setCell ⟨p6, 4, none⟩ (.slice a' (s.n + 1) c')) ∧ zc ≤ (w8.setCell ⟨p6, 4, none⟩ (.slice a' (s.n + 1) c')).heap.size) :=
                ⟨⟨a', s.n + 1, c'⟩, l ++ ys, HJ8.out, (by rw [List.length_append, HLY.out]; have := HSN.out; simp only; omega), (by rw [List.length_append, HLY.out]; have := HL2.out; omega), (by rw [List.map_append, HLI.out, HYI2.out]; simp [HHH.out]), (fun y hy k hk => by
                  rcases List.mem_append.1 hy with h' | h'
                  · exact HLF.out y h' k hk
                  · rcases (HYS.out y h').2 k hk with h9 | h9
                    · exact .inl h9
                    · exact .inr (Nat.le_trans HZCW.out h9)), (HBL1.out.trans hgb).setCell (p := ⟨p6, 4, none⟩) HPB6.out _, Nat.le_trans HZ1.out (Nat.le_trans hgb.size (by simp [World.setCell]))⟩
              go_meet
              exact HNEW.out
          case rest =>
            clear HJ6 HSN HL2 HLI HLF HBL HZ6 HXB HXO
            obtain ⟨s, l, hj6, hsn, hl2, hli, hlf, hbl, hz6⟩ := hcut
            have HJ6 := hid hj6; have HSN := hid hsn; have HL2 := hid hl2; have HLI := hid hli; have HLF := hid hlf; have HBL := hid hbl; have HZ6 := hid hz6
            clear hj6 hsn hl2 hli hlf hbl hz6
            have HXB := hid ((HBL.out.block _ HPX.out).trans HXB5.out)
            have hbc : Below w5.heap.size w5 wc := by rw [← HZC.out]; exact HBL.out
            have HXO := hid (HX5.out.below hbc)
            clear hbc
            have hcc : wc.cell? ⟨px, 6, none⟩ = some (.string x.msg) := cell_of_block (j := 6) HXB.out (rx6 x)
            go_upto_if 76 with (fail)
            clear hcc
            go_cut [] (fun wx => ∃ (sX : Sl) (lX : List ItV), OwnObj 27 wx zc p6 4325391 sX lX ∧ sX.n = lX.length ∧ lX.length ≤ 5 ∧ lX.map ItV.it = [] ++ (if x.hasOp then [numI 4325468 5 x.op] else []) ++ (if x.hasId then [{ tag := 4325523, typ := 8, data := x.id }] else []) ++ [numI 4325503 5 x.status] ++ (if x.reason ≠ 0 then [numI 4325502 5 x.reason] else []) ++ (if x.msg.toList ≠ [] then [{ tag := 4325501, typ := 7, data := x.msg.data.toList }] else []) ∧ (∀ y ∈ lX, ∀ k ∈ y.foot, k < b ∨ zc ≤ k) ∧ Below zc w5 wx ∧ zc ≤ wx.heap.size)
            case first =>
              by_cases hh : x.msg.toList = []
              · have hb0 : ¬ ((!x.msg.toList.isEmpty) = true) := by rw [hh]; decide
                go_wp2_with fail
                go_meet
                exact ⟨s, l, HJ6.out, HSN.out, (by have := HL2.out; omega), (by rw [HLI.out]; simp [hh]), HLF.out, HBL.out, HZ6.out⟩
              · have hb0 : (!x.msg.toList.isEmpty) = true := by simpa using hh
                have HHH := hid hh
                obtain ⟨cw, hcw⟩ : ∃ c, c = wc.heap.size := ⟨_, rfl⟩
                have HCW := hid hcw
                clear hcw
                go_upto_region 15 with (fail)
                all_goals (first | (rename_i hz; exact absurd (hb0.symm.trans hz) (by decide)) | skip)
                clear hh hb0
                refine wp_region_each 6 [.eq (.pointer (some ⟨p6, 4, none⟩)), .eq (.slice s.a s.n s.c), .eq (.pointer (some ⟨px, 6, none⟩)), .eq (.string x.msg), stMadeP { tag := 4325501, typ := 7, data := x.msg.data.toList } (fun k => k < b ∨ cw ≤ k), stItemsP [{ tag := 4325501, typ := 7, data := x.msg.data.toList }] 1 (fun k => k < b ∨ cw ≤ k)] (by kernel_rfl) (by kernel_rfl) (by kernel_rfl) (by kernel_rfl) ?_ ?_
                · as_aux_lemma =>
                    refine each_c (o' := _) ?_ (each_c (o' := _) ?_ (each_c (o' := _) ?_ (each_c (o' := _) ?_ (each_c (o' := _) ?_ (each_c (o' := _) ?_ (each_n))))))
                    -- 0: fieldAddr 27 t6 4
                    · intro w1 hg Ar seen
                      have s6 := seen.slot 6 (v := .pointer (some ⟨p6, 0, none⟩)) (by kernel_rfl) rfl
                      refine does_plain rfl fun K Q' hK => ?_
                      go_simp; exact hK _ _ (Grow.refl _) rfl
                    -- 1: load 25 t77
                    · intro w1 hg Ar seen
                      obtain ⟨v0, e0, h0⟩ := seen.dep 0 (d := 77) (by kernel_rfl) (by kernel_rfl) rfl
                      rcases h0 with rfl
                      refine does_plain rfl fun K Q' hK => ?_
                      have hc := cell_of_block (j := 4) ((hg.block _ (block_lt HJ6.out.blk)).trans HJ6.out.blk) (ar4 _)
                      go_simp; exact hK _ _ (Grow.refl _) rfl
                    -- 2: fieldAddr 44 t5 6
                    · intro w1 hg Ar seen
                      have s5 := seen.slot 5 (v := .pointer (some ⟨px, 0, none⟩)) (by kernel_rfl) rfl
                      refine does_plain rfl fun K Q' hK => ?_
                      go_simp; exact hK _ _ (Grow.refl _) rfl
                    -- 3: load 9 t79
                    · intro w1 hg Ar seen
                      obtain ⟨v2, e2, h2⟩ := seen.dep 2 (d := 79) (by kernel_rfl) (by kernel_rfl) rfl
                      rcases h2 with rfl
                      refine does_plain rfl fun K Q' hK => ?_
                      have hc := cell_of_block (j := 6) ((hg.block _ (block_lt HXB.out)).trans HXB.out) (rx6 x)
                      go_simp; exact hK _ _ (Grow.refl _) rfl
                    -- 4: call fn23<locksmithref15.Text> [4325501:i64, t80] T[3, 9]
                    · intro w1 hg Ar seen
                      obtain ⟨v3, e3, h3⟩ := seen.dep 3 (d := 80) (by kernel_rfl) (by kernel_rfl) rfl
                      rcases h3 with rfl
                      refine does_plain rfl fun K Q' hK => ?_
                      go_simp
                      refine (refText_any 4325501 x.msg _ HMS.out).mono ?_
                      rintro e u ⟨v, rfl, hvi, hvo, hvf, hb⟩
                      exact hK _ _ hb ⟨v, rfl, hvi, hvo, fun k hk => .inr (by have h1 := hvf k hk; have h2 := hg.size; rw [← HCW.out] at h2; omega)⟩
                    -- 5: buildSlice 25 1 [(0, t81)]
                    · intro w1 hg Ar seen
                      obtain ⟨v4, e4, h4⟩ := seen.dep 4 (d := 81) (by kernel_rfl) (by kernel_rfl) rfl
                      refine does_plain rfl fun K Q' hK => ?_
                      obtain ⟨x4, rfl, hi4, ho4, hf4⟩ := h4
                      refine wp_build_itemsP _ 27 1 _ rfl [x4] rfl (by decide) (by decide) (by simp [Act.eval, e4] <;> rfl) (x4.arr) (by simp [itmCells, ItV.cells]) i Try.underlying25 hi hz0 hz1 (fill1 x4) ?_
                      intro s hn hs
                      exact hK _ _ ((Below.refl _ _).alloc (Nat.le_refl _) _) ⟨s, [x4], rfl, hn, by simp [hi4], hs, fun x hx => by simp only [List.mem_cons, List.not_mem_nil, or_false] at hx; rcases hx with rfl <;> first | exact ⟨ho4.below ((Below.refl _ _).alloc (Nat.le_refl _) _), hf4⟩⟩
                intro w1 hg
                refine upon_w' (js := [0, 1, 2, 3, 4, 5]) (by rfl) ?_
                refine upon_c (x := some 77) (by kernel_rfl) rfl fun v0 h0 => ?_
                rcases h0 with rfl
                refine upon_c (x := some 78) (by kernel_rfl) rfl fun v1 h1 => ?_
                rcases h1 with rfl
                refine upon_c (x := some 79) (by kernel_rfl) rfl fun v2 h2 => ?_
                rcases h2 with rfl
                refine upon_c (x := some 80) (by kernel_rfl) rfl fun v3 h3 => ?_
                rcases h3 with rfl
                refine upon_c (x := some 81) (by kernel_rfl) rfl fun v4 h4 => ?_
                refine upon_c (x := some 82) (by kernel_rfl) rfl fun v5 h5 => ?_
                refine upon_n ?_
                obtain ⟨s1, ys, rfl, hn1, hyi, hs1, hys⟩ := h5
                obtain ⟨a1, n1, c1⟩ := s1
                simp only at hn1
                subst hn1
                have HYS := hid hys; have HS1 := hid hs1; have HYI2 := hid hyi
                have HJ1 := hid (HJ6.out.below hg)
                have HBL1 := hid (HBL.out.trans (hg.mono HZ6.out))
                have HZ1 : Hid (zc ≤ w1.heap.size) := Nat.le_trans HZ6.out hg.size
                have HOL : Hid (∀ k, s.v.ownBlock = some k → k < cw ∧ zc ≤ k) := fun k hk => ⟨by rw [HCW.out]; exact (HJ6.out.own.own.lt k hk).2, (HJ6.out.own.own.lt k hk).1⟩
                have HPC : Hid (p6 < cw) := by show p6 < cw; rw [HCW.out]; exact block_lt HJ6.out.blk
                have HZCW : Hid (zc ≤ cw) := by show zc ≤ cw; rw [HCW.out]; exact HZ6.out
                clear hyi hs1 hys hg h4 HJ6 HBL
                go_simp
                go_wp2_with (at_builtin; go_must (refine wpList_append_c rfl _ _ 25 rfl zc 27 i _ 5 72 Try.underlying25 hi hz0 hz1 hz2 rfl (by decide) (.slice s.a s.n s.c) s.n _ rfl HJ1.out.own.own _ 1 _ (itmCells ys) rfl HS1.out.rd (itm_one ys) HS1.out.no (by unfold maxLen; have := HSN.out; have := HL2.out; omega) (by have := HSN.out; have := HL2.out; omega) HZ1.out ?_); intro a' c' w8 hown hgw hfr; have hpush := HJ1.out.push (ys := ys) (a := a') (n := s.n + 1) (c := c') (Below.refl _ _) (fun y hy => (HYS.out y hy).1) (fun y hy k hk => ⟨fun he => by have h2 : k < cw ∧ zc ≤ k := HOL.out k he; have h3 : k < b ∨ cw ≤ k := (HYS.out y hy).2 k hk; have := HORD.out; omega, by have h3 : k < b ∨ cw ≤ k := (HYS.out y hy).2 k hk; have := HORD.out; have := HPC.out; have := HPB6.out; omega⟩) (by rw [itm_app]; exact hown) hgw hfr; have hq4 := cell_of_block (j := 4) hpush.1 (ar4 _); have hp8 := hid hpush.1; have hfz : ∀ j, w8.frozen? ⟨p6, j, none⟩ = false := (fun j => frozen_of_block hp8.out); have HJ8 := hid hpush.2; have HG8 := hid hgw; clear hown hgw hfr hpush hp8)
                clear hq4 hfz
                have hgb : Below zc w1 w8 := (Below.refl _ _).grown HG8.out HZ1.out (fun k hk => (HJ1.out.own.own.lt k hk).1)
                have HLY : Hid (ys.length = 1) := by show _ = _; have h1 := congrArg List.length HYI2.out; simpa using h1
                have HNEW : Hid (∃ (sX : Sl) (lX : List ItV), OwnObj 27 (w8.setCell ⟨p6, 4, none⟩ (.slice a' (s.n + 1) c')) zc p6 4325391 sX lX ∧ sX.n = lX.length ∧ lX.length ≤ 5 ∧ lX.map ItV.it = [] ++ (if x.hasOp then [numI 4325468 5 x.op] else []) ++ (if x.hasId then [{ tag := 4325523, typ := 8, data := x.id }] else []) ++ [numI 4325503 5 x.status] ++ (if x.reason ≠ 0 then [numI 4325502 5 x.reason] else []) ++ (if x.msg.toList ≠ [] then [{ tag := 4325501, typ := 7, data := x.msg.data.toList }] else []) ∧ (∀ y ∈ lX, ∀ k ∈ y.foot, k < b ∨ zc ≤ k) ∧ Below zc w5 (w8.setCell ⟨p6, 4, none⟩ (.slice a' (s.n + 1) c')) ∧ zc ≤ (w8.setCell ⟨p6, 4, none⟩ (.slice a' (s.n + 1) c')).heap.size) :=
                  ⟨⟨a', s.n + 1, c'⟩, l ++ ys, HJ8.out, (by rw [List.length_append, HLY.out]; have := HSN.out; simp only; omega), (by rw [List.length_append, HLY.out]; have := HL2.out; omega), (by rw [List.map_append, HLI.out, HYI2.out]; simp [HHH.out]), (fun y hy k hk => by
                    rcases List.mem_append.1 hy with h' | h'
                    · exact HLF.out y h' k hk
                    · rcases (HYS.out y h').2 k hk with h9 | h9
                      · exact .inl h9
                      · exact .inr (Nat.le_trans HZCW.out h9)), (HBL1.out.trans hgb).setCell (p := ⟨p6, 4, none⟩) HPB6.out _, Nat.le_trans HZ1.out (Nat.le_trans hgb.size (by simp [World.setCell]))⟩
                go_meet
                exact HNEW.out
            case rest =>
              clear HJ6 HSN HL2 HLI HLF HBL HZ6 HXB HXO
              obtain ⟨s, l, hj6, hsn, hl2, hli, hlf, hbl, hz6⟩ := hcut
              have HJ6 := hid hj6; have HSN := hid hsn; have HL2 := hid hl2; have HLI := hid hli; have HLF := hid hlf; have HBL := hid hbl; have HZ6 := hid hz6
              clear hj6 hsn hl2 hli hlf hbl hz6
              have HXB := hid ((HBL.out.block _ HPX.out).trans HXB5.out)
              have hbc : Below w5.heap.size w5 wc := by rw [← HZC.out]; exact HBL.out
              have HXO := hid (HX5.out.below hbc)
              clear hbc
              have hcc : wc.cell? ⟨px, 12, none⟩ = some (.bool x.hasPay) := cell_of_block (j := 12) HXB.out (rx12 x)
              go_upto_if 86 with (fail)
              clear hcc
              go_cut [] (fun wx => ∃ (sX : Sl) (lX : List ItV), OwnObj 27 wx zc p6 4325391 sX lX ∧ sX.n = lX.length ∧ lX.length ≤ 6 ∧ lX.map ItV.it = [] ++ (if x.hasOp then [numI 4325468 5 x.op] else []) ++ (if x.hasId then [{ tag := 4325523, typ := 8, data := x.id }] else []) ++ [numI 4325503 5 x.status] ++ (if x.reason ≠ 0 then [numI 4325502 5 x.reason] else []) ++ (if x.msg.toList ≠ [] then [{ tag := 4325501, typ := 7, data := x.msg.data.toList }] else []) ++ (if x.hasPay then [x.pay.it] else []) ∧ (∀ y ∈ lX, ∀ k ∈ y.foot, k < b ∨ zc ≤ k) ∧ Below zc w5 wx ∧ zc ≤ wx.heap.size)
              case first =>
                cases hh : x.hasPay with
                | false =>
                  go_wp2_with fail
                  go_meet
                  exact ⟨s, l, HJ6.out, HSN.out, (by have := HL2.out; omega), (by rw [HLI.out]; simp [hh]), HLF.out, HBL.out, HZ6.out⟩
                | true =>
                  have HHH := hid hh
                  have HOL : Hid (∀ k, s.v.ownBlock = some k → zc ≤ k) := fun k hk => (HJ6.out.own.own.lt k hk).1
                  have HBO := hid HXO.out.pay
                  have hc4 := cell_of_block (j := 4) HJ6.out.blk (ar4 _)
                  simp only at hc4
                  go_wp2_with (first | (refine wpList_load_mid rfl 27 _ rfl px 7 rfl x.pay.arr.toList _ (range_of_block HXB.out 7 _ (rpay_range x)) Try.underlying27 rfl iSize ?_; simp only [Array.toArray_toList]) | (refine wpList_build_item rfl 25 27 _ rfl x.pay rfl i Try.underlying25 hi hz0 hz1 ?_) | (at_builtin; go_must (refine wpList_append_c rfl _ _ 25 rfl zc 27 i _ 5 72 Try.underlying25 hi hz0 hz1 hz2 rfl (by decide) (.slice s.a s.n s.c) s.n _ rfl (HJ6.out.below ((Below.refl _ _).alloc (Nat.le_refl _) (.cells x.pay.arr 27))).own.own _ 1 _ x.pay.cells rfl (RdC.new _ _ _ _ x.pay.cells (by simp [ItV.cells]) 5 rfl _ rfl) (by have := itm_one [x.pay]; simpa [itmCells] using this) (fun hx => by cases hx) (by unfold maxLen; have := HSN.out; have := HL2.out; omega) (by have := HSN.out; have := HL2.out; omega) (by have := HZ6.out; simp; omega) ?_); intro a2 c2 w8 hown hgw hfr; have hpush := HJ6.out.push (ys := [x.pay]) (a := a2) (n := s.n + 1) (c := c2) ((Below.refl _ _).alloc (Nat.le_refl _) (.cells x.pay.arr 27)) (fun y hy => by rw [List.mem_singleton.1 hy]; exact HBO.out) (fun y hy k hk => by rw [List.mem_singleton.1 hy] at hk; have h1 := HXL.out k (List.mem_append_right _ hk); have h2 := HORD.out; have h3 := HPB6.out; exact ⟨fun he => by have := HOL.out k he; omega, by omega⟩) (by rw [itm_app]; simpa [itmCells] using hown) hgw hfr; have hq4 := cell_of_block (j := 4) hpush.1 (ar4 _); have hp8 := hid hpush.1; have hfz : ∀ j, w8.frozen? ⟨p6, j, none⟩ = false := (fun j => frozen_of_block hp8.out); have HJ8 := hid hpush.2; have HGN := hid hgw; clear hown hgw hfr hpush hp8))
                  clear hq4 hfz hc4
                  have hgb : Below zc wc w8 := ((Below.refl zc wc).alloc HZ6.out (.cells x.pay.arr 27)).grown HGN.out (by simp; have := HZ6.out; omega) (fun k hk => HOL.out k hk)
                  go_meet
                  exact ⟨⟨a2, s.n + 1, c2⟩, l ++ [x.pay], HJ8.out, (by rw [List.length_append, List.length_singleton]; have := HSN.out; simp only; omega), (by rw [List.length_append, List.length_singleton]; have := HL2.out; omega), (by rw [List.map_append, HLI.out]; simp [HHH.out]), (fun y hy k hk => by
                    rcases List.mem_append.1 hy with h' | h'
                    · exact HLF.out y h' k hk
                    · rw [List.mem_singleton.1 h'] at hk; exact .inl (HXL.out k (List.mem_append_right _ hk))), (HBL.out.trans hgb).setCell (p := ⟨p6, 4, none⟩) HPB6.out _, Nat.le_trans HZ6.out (Nat.le_trans hgb.size (by simp [World.setCell]))⟩
              case rest =>
                clear HJ6 HSN HL2 HLI HLF HBL HZ6 HXB HXO
                obtain ⟨s, l, hj6, hsn, hl2, hli, hlf, hbl, hz6⟩ := hcut
                have HJ6 := hid hj6; have HSN := hid hsn; have HL2 := hid hl2; have HLI := hid hli; have HLF := hid hlf; have HBL := hid hbl; have HZ6 := hid hz6
                clear hj6 hsn hl2 hli hlf hbl hz6
                have HXB := hid ((HBL.out.block _ HPX.out).trans HXB5.out)
                have hbc : Below w5.heap.size w5 wc := by rw [← HZC.out]; exact HBL.out
                have HXO := hid (HX5.out.below hbc)
                clear hbc
                have hmo : wr.heap.size ≤ zc := by have h1 := HPX.out; have h2 := HPXC.out; have h3 := HC0.out; omega
                have hb9 : Below wr.heap.size wr wc := HBL5.out.trans (HBL.out.mono hmo)
                have HBL9 : Hid (Below z wr wc) := hb9.mono HZW4.out
                have HJ9 := hid (HJ.out.below hb9)
                have HZ9 : Hid (z ≤ wc.heap.size) := Nat.le_trans HZW4.out hb9.size
                have HSO : Hid (∀ k, s2.v.ownBlock = some k → k < c0 ∧ z ≤ k) := fun k hk => by rw [HC0.out]; exact ⟨(HJ.out.own.own.lt k hk).2, (HJ.out.own.own.lt k hk).1⟩
                have HP2C : Hid (p < c0) := by show p < c0; rw [HC0.out]; exact block_lt HJ.out.blk
                have hbi : ItV.it { tag := 4325391, typ := 1, ks := s, kids := l } = layRsI x.rq := by
                  rw [ItV.it_eq]
                  show Itm.mk 4325391 1 0 [] (l.map ItV.it) = _
                  rw [HLI.out]
                  rfl
                have hbf : ∀ k ∈ ItV.foot { tag := 4325391, typ := 1, ks := s, kids := l }, zc ≤ k ∨ k < b := fun k hk => by
                  rcases ItV.mem_foot.1 hk with h' | h' | ⟨y, hy, h'⟩
                  · simp [Sl.blk] at h'
                  · exact .inl (blk_own HJ6.out.own.own k h')
                  · exact (HLF.out y hy k h').symm
                have hbo := HJ6.out.item (by have h1 := HSN.out; have h2 := HL2.out; show s.n ≤ _; omega)
                have hblk := HJ6.out.blk
                generalize ({ tag := 4325391, typ := 1, ks := s, kids := l } : ItV) = bv at *
                have HBI := hid hbi; have HBF := hid hbf; have HBO := hid hbo; have HBK := hid hblk
                clear hmo hb9 hbi hbf hbo hblk HJ6 HBL HLI HLF HL2 HSN HJ HXB HXO HX5
                have hc4 := cell_of_block (j := 4) HJ9.out.blk (ar4 _)
                simp only at hc4
                go_wp2_with (first | (refine wpList_load_row rfl 27 _ rfl p6 rfl _ _ _ _ HBK.out Try.underlying27 rfl iSize ?_) | (refine wpList_build_item rfl 25 27 _ rfl bv rfl i Try.underlying25 hi hz0 hz1 ?_) | (at_builtin; go_must (refine wpList_append_c rfl _ _ 25 rfl z 27 i _ 5 72 Try.underlying25 hi hz0 hz1 hz2 rfl (by decide) (.slice s2.a s2.n s2.c) s2.n _ rfl (HJ9.out.below ((Below.refl _ _).alloc (Nat.le_refl _) (.cells bv.arr 27))).own.own _ 1 _ bv.cells rfl (RdC.new _ _ _ _ bv.cells (by simp [ItV.cells]) 5 rfl _ rfl) (by have := itm_one [bv]; simpa [itmCells] using this) (fun hx => by cases hx) (by unfold maxLen; have := HSK.out; omega) (by have := HSK.out; omega) (by have := HZ9.out; simp; omega) ?_); intro a2 c2 w11 hown hgw hfr; have hpush := HJ9.out.push (ys := [bv]) (a := a2) (n := s2.n + 1) (c := c2) ((Below.refl _ _).alloc (Nat.le_refl _) (.cells bv.arr 27)) (fun y hy => by rw [List.mem_singleton.1 hy]; exact HBO.out) (fun y hy k hk => by rw [List.mem_singleton.1 hy] at hk; have h1 := HBF.out k hk; have h3 := HP2C.out; have h4 := HZP.out; have h6 := HBZ.out; have h7 := HPX.out; have h8 := HPXC.out; exact ⟨fun he => by have := HSO.out k he; omega, by omega⟩) (by rw [itm_app]; simpa [itmCells] using hown) hgw hfr; have hq4 := cell_of_block (j := 4) hpush.1 (ar4 _); have hp8 := hid hpush.1; have hfz : ∀ j, w11.frozen? ⟨p, j, none⟩ = false := (fun j => frozen_of_block hp8.out); have HJN := hid hpush.2; have HGN := hid hgw; clear hown hgw hfr hpush hp8))
                clear hq4 hfz hc4
                have hgn : Below z wc w11 := ((Below.refl z wc).alloc HZ9.out (.cells bv.arr 27)).grown HGN.out (by simp; have := HZ9.out; omega) (fun k hk => (HSO.out k hk).2)
                have hbwn : Below z W (w11.setCell ⟨p, 4, none⟩ (.slice a2 (s2.n + 1) c2)) := ((HBW.out.trans HBL9.out).trans hgn).setCell HZP.out _
                have hzn : z ≤ (w11.setCell ⟨p, 4, none⟩ (.slice a2 (s2.n + 1) c2)).heap.size := Nat.le_trans HZ9.out (Nat.le_trans hgn.size (by simp [World.setCell]))
                have hln : (l2 ++ [bv]).map ItV.it = layRsHead q.time (kn : Int) :: ((q.items.take (k + 1)).map fun x => layRsI x.rq) := by rw [List.map_append, HLO.out, HT.out, List.map_cons, List.map_nil, HBI.out]; rfl
                have hftn : ∀ x ∈ l2 ++ [bv], b + 1 ∉ x.footN := fun x hx hm => by
                  rcases List.mem_append.1 hx with h' | h'
                  · exact HFT.out x h' hm
                  · rw [List.mem_singleton.1 h'] at hm
                    have h1 := HBF.out _ (footN_sub _ _ hm); have h2 := HORD.out
                    omega
                have HN9 := hid (And.intro hln (And.intro hbwn (And.intro hzn (And.intro HJN.out hftn))))
                clear hgn hbwn hzn hln hftn
                go_wp2_with fail
                go_roundw
                case rel =>
                  have hsk := HSK.out
                  first
                    | exact ⟨k + 1, ⟨a2, s2.n + 1, c2⟩, l2 ++ [bv], by omega, by go_num, by simp; omega, HN9.out⟩
                    | ((repeat apply Exists.intro); exact ⟨⟨k + 1, ⟨a2, s2.n + 1, c2⟩, l2 ++ [bv], by omega, by go_num, by simp; omega, HN9.out⟩, rfl⟩)
                case measure => simp [intOf]; omega
    · obtain rfl : k = kn := by omega
      go_wp2_with (first | (refine wpList_load_row rfl 27 _ rfl p rfl _ _ _ _ HJ.out.blk Try.underlying27 rfl iSize ?_) | (refine wpList_store_obj rfl 27 _ _ rfl (b + 1) rfl _ rfl _ _ (B0.out.below HBR.out).res rfl iSize (arr_one _) ?_; intro w10 hb10 hc10 hs10; have HB10 := hid hb10; have HC10 := hid hc10; clear hb10 hc10 hs10))
      refine bodyPost_ret (results_cell_row rfl _ _ (b + 1) _ _ _ _ rfl HB10.out Try.underlying27 rfl iSize) rfl ?_
      have hok : ItV.ok wr { tag := 4325499, typ := 1, ks := s2, kids := l2 } := HJ.out.item (by have := HSK.out; omega)
      refine ⟨{ tag := 4325499, typ := 1, ks := s2, kids := l2 }, rfl, ?_, ItV.ok.keepN HC10.out hok (fun j hj hm => ?_), ?_⟩
      · rw [ItV.it_eq]
        show Itm.mk 4325499 1 0 [] (l2.map ItV.it) = _
        rw [HLO.out, List.take_of_length_le (by rw [HKN.out]; exact Nat.le_refl _)]
        have hlen : (q.rq.items.length : Int) = (k : Int) := by show ((q.items.map RsIV.rq).length : Int) = _; rw [List.length_map, HKN.out]
        unfold layRs ofI
        rw [hlen]
        show _ = Itm.mk 4325499 1 0 [] (layRsHead q.time (k : Int) :: ((q.items.map RsIV.rq).map layRsI))
        rw [List.map_map]; rfl
      · rw [List.mem_singleton.1 hm] at hj
        rcases ItV.mem_footN.1 hj with ⟨h', _⟩ | ⟨_, h'⟩ | ⟨x, hx, h'⟩
        · exact h' rfl
        · have := blk_own HJ.out.own.own _ h'; have := HBZ.out; omega
        · exact HFT.out x hx h'
      · exact (B0.out.below HBR.out).done HC10.out
end Go.Proofs.Ytfcobmncbnkppaa
