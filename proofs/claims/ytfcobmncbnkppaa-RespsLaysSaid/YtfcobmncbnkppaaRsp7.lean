/- resps.Lay. -/
import Derived.Test.YtfcobmncbnkppaaRsp6
namespace Go.Proofs.Ytfcobmncbnkppaa
open Go.RowKit
set_option linter.unusedVariables false
set_option linter.unusedSimpArgs false
set_option maxRecDepth 100000
set_option maxHeartbeats 3200000
theorem OwnIt.lower {T : TypeId} {w : World} {base low base' low' : Nat} {s : Sl} {l : List ItV} (o : OwnIt T w base low s l) (hb : base' ≤ base) (hl : low' ≤ low) : OwnIt T w base' low' s l :=
  ⟨ownsRow_base o.own (fun k hk => by have := (o.own.lt k hk).1; omega), o.ok, o.apart, fun x hx k hk => Nat.le_trans hl (o.low x hx k hk)⟩
def stKidsO (T : TypeId) (L : List Itm) (c : Nat) : St Grow := ⟨fun v w => ∃ (s : Sl) (l : List ItV), v = .slice s.a s.n s.c ∧ l.map ItV.it = L ∧ OwnIt T w c 0 s l, fun v w w' h hg => let ⟨s, l, e, h1, h2⟩ := h; ⟨s, l, e, h1, h2.below hg⟩⟩
theorem kids_some (x : RsI) : someI [if x.hasOp then (numI 4325468 5 x.op) else {}, if x.hasId then { tag := 4325523, typ := 8, data := x.id } else {}, numI 4325503 5 x.status, if (x.reason != 0) then (numI 4325502 5 x.reason) else {}, if (!x.msg.toList.isEmpty) then { tag := 4325501, typ := 7, data := x.msg.data.toList } else {}] = rsKids x := by
  unfold rsKids someI
  by_cases h3 : x.reason = 0 <;> cases h4 : x.msg.toList <;> cases h1 : x.hasOp <;> cases h2 : x.hasId <;> simp [h3, numI]
theorem rsKids_len (x : RsI) : (rsKids x).length ≤ 5 := by
  unfold rsKids
  by_cases h3 : x.reason = 0 <;> by_cases h4 : x.msg.toList = [] <;> cases h1 : x.hasOp <;> cases h2 : x.hasId <;> simp [h3, h4]
theorem rLay_any (q : RsV) (w : World) (hq : q.ok w) (hms : ∀ x ∈ q.items, x.msg.size ≤ 140737488355328) (hnn : q.its.n ≤ 1000000) : Calls Try.prog 9 #[.agg q.arr] w (Made (layRs q.rq) w) := by
  obtain ⟨i, hi, hz0, hz1, hz2⟩ := info_parts iInfo
  have HV := hid hq; have HMSG := hid hms
  have hql := fun x hx => (hq.each x hx).lt
  have HKN := hid hq.its.rslen
  clear hq hms
  generalize hbe : w.heap.size = b
  rw [hbe] at hql
  have HQL : Hid (∀ x ∈ q.items, ∀ k ∈ x.foot, k < b) := hql
  have HBE := hid hbe; clear hbe hql
  go_enter Try.func9, Try.ntmps9
  go_upto_region 1 with (refine wpList_alloc_obj rfl 27 rfl _ iZero ?_)
  go_simp
  have B0 := hid (Bx2.start (T := 31) (T' := 27) (cs := q.arr) (zs := itZ.arr) (w := w) HBE.out)
  rw [HBE.out]
  have HV0 := hid (HV.out.below (((Below.refl _ w).alloc (Nat.le_refl _) (.cells q.arr 31)).alloc (by simp) (.cells itZ.arr 27)))
  generalize (w.alloc (.cells q.arr 31)).alloc (.cells itZ.arr 27) = W at *
  clear HV
  go_upto_region 3 with (fail)
  obtain ⟨z, hzw⟩ : ∃ z, z = W.heap.size := ⟨_, rfl⟩
  have HZW := hid hzw
  have HBZ : Hid (b + 2 ≤ z) := by show _ ≤ _; rw [hzw]; exact B0.out.size
  clear hzw
  refine wp_region_each 17 [.eq (.func (.func 26) #[] #[]), stMade (numI 4325482 2 1), .eq (.func (.func 26) #[] #[]), stMade (numI 4325483 2 4), stItems [numI 4325482 2 1, numI 4325483 2 4], stMade (ofI 4325481 [numI 4325482 2 1, numI 4325483 2 4]), .eq (.pointer (some ⟨b, 0, none⟩)), .eq (.int .i64 q.time), stMade (numI 4325522 9 q.time), .eq (.func (.func 26) #[] #[]), .eq (.pointer (some ⟨b, 1, none⟩)), .eq (.slice q.its.a q.its.n q.its.c), .eq (.int .i64 (q.its.n : Int)), stMade (numI 4325389 2 (q.its.n : Int)), stItems [(ofI 4325481 [numI 4325482 2 1, numI 4325483 2 4]), numI 4325522 9 q.time, numI 4325389 2 (q.its.n : Int)], stMade (layRsHead q.time (q.its.n : Int)), stOwn1 27 (layRsHead q.time (q.its.n : Int)) z] (by kernel_rfl) (by kernel_rfl) (by kernel_rfl) (by kernel_rfl) ?_ ?_
  · as_aux_lemma =>
      refine each_c (o' := _) ?_ (each_c (o' := _) ?_ (each_c (o' := _) ?_ (each_c (o' := _) ?_ (each_c (o' := _) ?_ (each_c (o' := _) ?_ (each_c (o' := _) ?_ (each_c (o' := _) ?_ (each_c (o' := _) ?_ (each_c (o' := _) ?_ (each_c (o' := _) ?_ (each_c (o' := _) ?_ (each_c (o' := _) ?_ (each_c (o' := _) ?_ (each_c (o' := _) ?_ (each_c (o' := _) ?_ (each_c (o' := _) ?_ (each_n)))))))))))))))))
      -- 0: move t4
      · intro w1 hg Ar seen
        have s4 := seen.slot 4 (v := .func (.func 26) #[] #[]) (by kernel_rfl) rfl
        refine does_plain rfl fun K Q' hK => ?_
        go_simp; exact hK _ _ (Grow.refl _) rfl
      -- 1: call (Callee.value t9) [4325482:i64, 1:i64] T[3, 3]
      · intro w1 hg Ar seen
        obtain ⟨v0, e0, h0⟩ := seen.dep 0 (d := 9) (by kernel_rfl) (by kernel_rfl) rfl
        rcases h0 with rfl
        refine does_plain rfl fun K Q' hK => ?_
        go_simp
        refine (rLay2_any 4325482 1 _).mono ?_
        rintro e u ⟨rfl, hb⟩
        exact hK _ _ hb ⟨_, rfl, numV_it _ _ _, numV_ok _ _ _ _⟩
      -- 2: move t4
      · intro w1 hg Ar seen
        have s4 := seen.slot 4 (v := .func (.func 26) #[] #[]) (by kernel_rfl) rfl
        refine does_plain rfl fun K Q' hK => ?_
        go_simp; exact hK _ _ (Grow.refl _) rfl
      -- 3: call (Callee.value t11) [4325483:i64, 4:i64] T[3, 3]
      · intro w1 hg Ar seen
        obtain ⟨v2, e2, h2⟩ := seen.dep 2 (d := 11) (by kernel_rfl) (by kernel_rfl) rfl
        rcases h2 with rfl
        refine does_plain rfl fun K Q' hK => ?_
        go_simp
        refine (rLay2_any 4325483 4 _).mono ?_
        rintro e u ⟨rfl, hb⟩
        exact hK _ _ hb ⟨_, rfl, numV_it _ _ _, numV_ok _ _ _ _⟩
      -- 4: buildSlice 25 2 [(0, t10), (1, t12)]
      · intro w1 hg Ar seen
        obtain ⟨v1, e1, h1⟩ := seen.dep 1 (d := 10) (by kernel_rfl) (by kernel_rfl) rfl
        obtain ⟨v3, e3, h3⟩ := seen.dep 3 (d := 12) (by kernel_rfl) (by kernel_rfl) rfl
        refine does_plain rfl fun K Q' hK => ?_
        obtain ⟨x1, rfl, hi1, ho1⟩ := h1
        obtain ⟨x3, rfl, hi3, ho3⟩ := h3
        refine wp_build_items _ 27 2 _ rfl [x1, x3] rfl (by decide) (by decide) (by simp [Act.eval, e1, e3] <;> rfl) (x1.arr ++ x3.arr) (by simp [itmCells, ItV.cells]) i Try.underlying25 hi hz0 hz1 (fill2 x1 x3) ?_
        intro s hs
        exact hK _ _ ((Below.refl _ _).alloc (Nat.le_refl _) _) ⟨s, [x1, x3], rfl, by simp [hi1, hi3], hs, fun x hx => by simp only [List.mem_cons, List.not_mem_nil, or_false] at hx; rcases hx with rfl | rfl <;> exact ItV.ok.below (by first | exact ho1 | exact ho3) ((Below.refl _ _).alloc (Nat.le_refl _) _)⟩
      -- 5: call fn27<pay.Of> [4325481:i64, t13] T[3, 25]
      · intro w1 hg Ar seen
        obtain ⟨v4, e4, h4⟩ := seen.dep 4 (d := 13) (by kernel_rfl) (by kernel_rfl) rfl
        refine does_plain rfl fun K Q' hK => ?_
        obtain ⟨s, l, rfl, hm, hs, ha⟩ := h4
        go_simp
        refine (payOf_any 4325481 s l _ hs ha).mono ?_
        rintro e u ⟨x, rfl, hi, ho, -, hb⟩
        exact hK _ _ hb ⟨x, rfl, by rw [hi, hm]; rfl, ho⟩
      -- 6: fieldAddr 31 t1 0
      · intro w1 hg Ar seen
        have s1 := seen.slot 1 (v := .pointer (some ⟨b, 0, none⟩)) (by kernel_rfl) rfl
        refine does_plain rfl fun K Q' hK => ?_
        go_simp; exact hK _ _ (Grow.refl _) rfl
      -- 7: load 2 t15
      · intro w1 hg Ar seen
        obtain ⟨v6, e6, h6⟩ := seen.dep 6 (d := 15) (by kernel_rfl) (by kernel_rfl) rfl
        rcases h6 with rfl
        refine does_plain rfl fun K Q' hK => ?_
        have hc := cell_of_block (j := 0) ((hg.block _ (block_lt B0.out.box)).trans B0.out.box) (rv0 _)
        go_simp; exact hK _ _ (Grow.refl _) rfl
      -- 8: call fn25<pay.Number> [4325522:i64, 9:i64, t16] T[3, 3, 2]
      · intro w1 hg Ar seen
        obtain ⟨v7, e7, h7⟩ := seen.dep 7 (d := 16) (by kernel_rfl) (by kernel_rfl) rfl
        rcases h7 with rfl
        refine does_plain rfl fun K Q' hK => ?_
        go_simp
        refine (payNumber_any 4325522 9 q.time _).mono ?_
        rintro e u ⟨rfl, hb⟩
        exact hK _ _ hb ⟨_, rfl, numV_it _ _ _, numV_ok _ _ _ _⟩
      -- 9: move t4
      · intro w1 hg Ar seen
        have s4 := seen.slot 4 (v := .func (.func 26) #[] #[]) (by kernel_rfl) rfl
        refine does_plain rfl fun K Q' hK => ?_
        go_simp; exact hK _ _ (Grow.refl _) rfl
      -- 10: fieldAddr 31 t1 1
      · intro w1 hg Ar seen
        have s1 := seen.slot 1 (v := .pointer (some ⟨b, 0, none⟩)) (by kernel_rfl) rfl
        refine does_plain rfl fun K Q' hK => ?_
        go_simp; exact hK _ _ (Grow.refl _) rfl
      -- 11: load 29 t19
      · intro w1 hg Ar seen
        obtain ⟨v10, e10, h10⟩ := seen.dep 10 (d := 19) (by kernel_rfl) (by kernel_rfl) rfl
        rcases h10 with rfl
        refine does_plain rfl fun K Q' hK => ?_
        have hc := cell_of_block (j := 1) ((hg.block _ (block_lt B0.out.box)).trans B0.out.box) (rv1 _)
        go_simp; exact hK _ _ (Grow.refl _) rfl
      -- 12: call len [t20] T[29]
      · intro w1 hg Ar seen
        obtain ⟨v11, e11, h11⟩ := seen.dep 11 (d := 20) (by kernel_rfl) (by kernel_rfl) rfl
        rcases h11 with rfl
        refine does_plain rfl fun K Q' hK => ?_
        go_simp; exact hK _ _ (Grow.refl _) rfl
      -- 13: call (Callee.value t18) [4325389:i64, t21] T[3, 3]
      · intro w1 hg Ar seen
        obtain ⟨v9, e9, h9⟩ := seen.dep 9 (d := 18) (by kernel_rfl) (by kernel_rfl) rfl
        rcases h9 with rfl
        obtain ⟨v12, e12, h12⟩ := seen.dep 12 (d := 21) (by kernel_rfl) (by kernel_rfl) rfl
        rcases h12 with rfl
        refine does_plain rfl fun K Q' hK => ?_
        go_simp
        refine (rLay2_any 4325389 (q.its.n : Int) _).mono ?_
        rintro e u ⟨rfl, hb⟩
        exact hK _ _ hb ⟨_, rfl, numV_it _ _ _, numV_ok _ _ _ _⟩
      -- 14: buildSlice 25 3 [(0, t14), (1, t17), (2, t22)]
      · intro w1 hg Ar seen
        obtain ⟨v5, e5, h5⟩ := seen.dep 5 (d := 14) (by kernel_rfl) (by kernel_rfl) rfl
        obtain ⟨v8, e8, h8⟩ := seen.dep 8 (d := 17) (by kernel_rfl) (by kernel_rfl) rfl
        obtain ⟨v13, e13, h13⟩ := seen.dep 13 (d := 22) (by kernel_rfl) (by kernel_rfl) rfl
        refine does_plain rfl fun K Q' hK => ?_
        obtain ⟨x5, rfl, hi5, ho5⟩ := h5
        obtain ⟨x8, rfl, hi8, ho8⟩ := h8
        obtain ⟨x13, rfl, hi13, ho13⟩ := h13
        refine wp_build_items _ 27 3 _ rfl [x5, x8, x13] rfl (by decide) (by decide) (by simp [Act.eval, e5, e8, e13] <;> rfl) (x5.arr ++ x8.arr ++ x13.arr) (by simp [itmCells, ItV.cells]) i Try.underlying25 hi hz0 hz1 (fill3 x5 x8 x13) ?_
        intro s hs
        exact hK _ _ ((Below.refl _ _).alloc (Nat.le_refl _) _) ⟨s, [x5, x8, x13], rfl, by simp [hi5, hi8, hi13], hs, fun x hx => by simp only [List.mem_cons, List.not_mem_nil, or_false] at hx; rcases hx with rfl | rfl | rfl <;> exact ItV.ok.below (by first | exact ho5 | exact ho8 | exact ho13) ((Below.refl _ _).alloc (Nat.le_refl _) _)⟩
      -- 15: call fn27<pay.Of> [4325498:i64, t23] T[3, 25]
      · intro w1 hg Ar seen
        obtain ⟨v14, e14, h14⟩ := seen.dep 14 (d := 23) (by kernel_rfl) (by kernel_rfl) rfl
        refine does_plain rfl fun K Q' hK => ?_
        obtain ⟨s, l, rfl, hm, hs, ha⟩ := h14
        go_simp
        refine (payOf_any 4325498 s l _ hs ha).mono ?_
        rintro e u ⟨x, rfl, hi, ho, -, hb⟩
        exact hK _ _ hb ⟨x, rfl, by rw [hi, hm]; rfl, ho⟩
      -- 16: buildSlice 25 1 [(0, t24)]
      · intro w1 hg Ar seen
        obtain ⟨v15, e15, h15⟩ := seen.dep 15 (d := 24) (by kernel_rfl) (by kernel_rfl) rfl
        refine does_plain rfl fun K Q' hK => ?_
        obtain ⟨y, rfl, hy, ho⟩ := h15
        refine wp_build_item _ 27 _ rfl y (by simp [Act.eval, e15]) i Try.underlying25 hi hz0 hz1 ?_
        exact hK _ _ ((Below.refl _ _).alloc (Nat.le_refl _) _) ⟨⟨_, _, _⟩, y, rfl, rfl, hy, own_one y ho (Nat.le_trans (Nat.le_of_eq HZW.out) hg.size)⟩
  intro w1 hg
  refine upon_w' (js := [0, 1, 2, 3, 4, 5, 6, 7, 8, 9, 10, 11, 12, 13, 14, 15, 16]) (by rfl) ?_
  refine upon_c (x := some 9) (by kernel_rfl) rfl fun v0 h0 => ?_
  rcases h0 with rfl
  refine upon_c (x := some 10) (by kernel_rfl) rfl fun v1 h1 => ?_
  refine upon_c (x := some 11) (by kernel_rfl) rfl fun v2 h2 => ?_
  rcases h2 with rfl
  refine upon_c (x := some 12) (by kernel_rfl) rfl fun v3 h3 => ?_
  refine upon_c (x := some 13) (by kernel_rfl) rfl fun v4 h4 => ?_
  refine upon_c (x := some 14) (by kernel_rfl) rfl fun v5 h5 => ?_
  refine upon_c (x := some 15) (by kernel_rfl) rfl fun v6 h6 => ?_
  rcases h6 with rfl
  refine upon_c (x := some 16) (by kernel_rfl) rfl fun v7 h7 => ?_
  rcases h7 with rfl
  refine upon_c (x := some 17) (by kernel_rfl) rfl fun v8 h8 => ?_
  refine upon_c (x := some 18) (by kernel_rfl) rfl fun v9 h9 => ?_
  rcases h9 with rfl
  refine upon_c (x := some 19) (by kernel_rfl) rfl fun v10 h10 => ?_
  rcases h10 with rfl
  refine upon_c (x := some 20) (by kernel_rfl) rfl fun v11 h11 => ?_
  rcases h11 with rfl
  refine upon_c (x := some 21) (by kernel_rfl) rfl fun v12 h12 => ?_
  rcases h12 with rfl
  refine upon_c (x := some 22) (by kernel_rfl) rfl fun v13 h13 => ?_
  refine upon_c (x := some 23) (by kernel_rfl) rfl fun v14 h14 => ?_
  refine upon_c (x := some 24) (by kernel_rfl) rfl fun v15 h15 => ?_
  refine upon_c (x := some 25) (by kernel_rfl) rfl fun v16 h16 => ?_
  refine upon_n ?_
  obtain ⟨s, y, rfl, hsn, hyi, hyo⟩ := h16
  have HSN := hid hsn; have HYI := hid hyi; have HYO := hid hyo
  have hg' := hg
  unfold Grow at hg'
  have B1 := hid (B0.out.below hg')
  rw [← HZW.out] at hg'
  have HBW := hid hg'
  have HZ1 : Hid (z ≤ w1.heap.size) := by show _ ≤ _; rw [HZW.out]; exact hg.size
  clear hg' hg hsn hyi hyo h1 h3 h4 h5 h8 h13 h14 h15
  go_simp
  obtain ⟨ka, hka⟩ : ∃ ka, q.its.a = ka := ⟨_, rfl⟩
  have HKA := hid hka
  obtain ⟨kn, hkn⟩ : ∃ kn, q.its.n = kn := ⟨_, rfl⟩
  have HN := hid hkn
  have hc4 := cell_of_block (j := 1) B1.out.box (rv1 q)
  rw [hkn] at hnn HKN HYI
  rw [hka, hkn] at hc4
  clear hka hkn
  go_wp2_with fail
  clear hc4
  go_loopw [5, 29] (fun u y wr => ∃ (k : Nat) (s : Sl) (lo : List ItV), k ≤ kn ∧ y = .int .i64 k ∧ u = .slice s.a s.n s.c ∧ s.n = k + 1 ∧ lo.map ItV.it = layRsHead q.time (kn : Int) :: ((q.items.take k).map fun x => layRsI x.rq) ∧ Below z W wr ∧ z ≤ wr.heap.size ∧ OwnIt 27 wr z 0 s lo) (fun _ y _ => kn - (intOf y).toNat)
  case atStart => exact ⟨0, s, [y], Nat.zero_le _, rfl, rfl, HSN.out, by simp [HYI.out], HBW.out, HZ1.out, HYO.out⟩
  case round =>
    clear HBW HZ1 HYO HSN HYI B1
    obtain ⟨k, s, lo, hk, rfl, rfl, hsk, hlo, hbw, hzw, ho⟩ := hrel
    have HBW := hid hbw; have HZW4 := hid hzw; have HO := hid ho; have HLO := hid hlo; have HSK := hid hsk
    have hbr : Below W.heap.size W wr := by rw [← HZW.out]; exact HBW.out
    have HBR := hid hbr
    clear hbw hzw ho hlo hsk hbr
    by_cases hlt : k < kn
    · obtain ⟨bx, ox, x, hax, hx, hrow⟩ := (HV0.out.below HBR.out).its.rsrow (k := k) (by rw [HN.out]; exact hlt)
      rw [HKA.out] at hax
      subst hax
      have HX := hid ((HV0.out.below HBR.out).each x (List.mem_of_getElem? hx))
      have HXL := hid (HQL.out x (List.mem_of_getElem? hx))
      have HMS := hid (HMSG.out x (List.mem_of_getElem? hx))
      have HT : Hid ((q.items.take (k + 1)).map (fun x => layRsI x.rq) = (q.items.take k).map (fun x => layRsI x.rq) ++ [layRsI x.rq]) := by
        show _ = _
        rw [List.take_add_one, hx]; simp
      have HR := hid hrow
      clear hx hrow
      go_upto_region 7 with (first | (refine wpList_load_mid rfl 44 _ rfl bx (ox + k * 13) rfl x.arr.toList _ HR.out Try.underlying44 rfl sSize ?_; simp only [Array.toArray_toList]) | (refine wpList_alloc_obj rfl 44 rfl _ sZero ?_) | (refine wpList_store_obj rfl 44 _ _ rfl wr.heap.size rfl _ rfl _ _ (block_new wr _) rfl sSize (sarr_one x) ?_; intro w6 hb6 hc6 hs6; have HB6 := hid hb6; have HC6 := hid hc6; have HS6 := hid hs6; clear hb6 hc6 hs6))
      have hbel : Below wr.heap.size wr w6 := ((Below.refl _ wr).alloc (Nat.le_refl _) _).trans (HC6.out.below (fun k hk => by rw [List.mem_singleton.1 hk]; exact Nat.le_refl _) (by simp))
      have HX6 := hid (HX.out.below hbel)
      have HBL := hid hbel
      have HSR : Hid (∀ k, s.v.ownBlock = some k → k < wr.heap.size) := fun k hk => (HO.out.own.lt k hk).2
      clear hbel HC6 HS6 HR HX
      obtain ⟨c, hcw⟩ : ∃ c, c = wr.heap.size := ⟨_, rfl⟩
      have HCW := hid hcw
      have HC6 : Hid (c ≤ w6.heap.size) := by show c ≤ _; rw [hcw]; exact HBL.out.size
      rw [← hcw] at HB6 HSR ⊢
      clear hcw
      refine wp_region_each 34 [.eq (.pointer (some ⟨c, 1, none⟩)), .eq (.bool x.hasOp), .eq (.func (.func 24) #[] #[]), .eq (.pointer (some ⟨c, 0, none⟩)), .eq (.int .i64 x.op), stMade (numI 4325468 5 x.op), stMade (if x.hasOp then (numI 4325468 5 x.op) else {}), .eq (.pointer (some ⟨c, 2, none⟩)), .eq (.bool x.hasId), .eq (.pointer (some ⟨c, 3, none⟩)), .eq (.slice x.ids.a x.ids.n x.ids.c), stMade { tag := 4325523, typ := 8, data := x.id }, stMade (if x.hasId then { tag := 4325523, typ := 8, data := x.id } else {}), .eq (.func (.func 24) #[] #[]), .eq (.pointer (some ⟨c, 4, none⟩)), .eq (.int .i64 x.status), stMade (numI 4325503 5 x.status), .eq (.pointer (some ⟨c, 5, none⟩)), .eq (.int .i64 x.reason), .eq (.bool (x.reason != 0)), .eq (.func (.func 24) #[] #[]), .eq (.pointer (some ⟨c, 5, none⟩)), .eq (.int .i64 x.reason), stMade (numI 4325502 5 x.reason), stMade (if (x.reason != 0) then (numI 4325502 5 x.reason) else {}), .eq (.pointer (some ⟨c, 6, none⟩)), .eq (.string x.msg), .eq (.bool (!x.msg.toList.isEmpty)), .eq (.pointer (some ⟨c, 6, none⟩)), .eq (.string x.msg), stMade { tag := 4325501, typ := 7, data := x.msg.data.toList }, stMade (if (!x.msg.toList.isEmpty) then { tag := 4325501, typ := 7, data := x.msg.data.toList } else {}), stItems [if x.hasOp then (numI 4325468 5 x.op) else {}, if x.hasId then { tag := 4325523, typ := 8, data := x.id } else {}, numI 4325503 5 x.status, if (x.reason != 0) then (numI 4325502 5 x.reason) else {}, if (!x.msg.toList.isEmpty) then { tag := 4325501, typ := 7, data := x.msg.data.toList } else {}], stKidsO 27 (rsKids x.rq) c] (by kernel_rfl) (by kernel_rfl) (by kernel_rfl) (by kernel_rfl) ?_ ?_
      · as_aux_lemma =>
          refine each_c (o' := _) ?_ (each_c (o' := _) ?_ (each_c (o' := _) ?_ (each_c (o' := _) ?_ (each_c (o' := _) ?_ (each_c (o' := _) ?_ (each_c (o' := _) ?_ (each_c (o' := _) ?_ (each_c (o' := _) ?_ (each_c (o' := _) ?_ (each_c (o' := _) ?_ (each_c (o' := _) ?_ (each_c (o' := _) ?_ (each_c (o' := _) ?_ (each_c (o' := _) ?_ (each_c (o' := _) ?_ (each_c (o' := _) ?_ (each_c (o' := _) ?_ (each_c (o' := _) ?_ (each_c (o' := _) ?_ (each_c (o' := _) ?_ (each_c (o' := _) ?_ (each_c (o' := _) ?_ (each_c (o' := _) ?_ (each_c (o' := _) ?_ (each_c (o' := _) ?_ (each_c (o' := _) ?_ (each_c (o' := _) ?_ (each_c (o' := _) ?_ (each_c (o' := _) ?_ (each_c (o' := _) ?_ (each_c (o' := _) ?_ (each_c (o' := _) ?_ (each_c (o' := _) ?_ (each_n))))))))))))))))))))))))))))))))))
          -- 0: fieldAddr 44 t7 1
          · intro w1 hg Ar seen
            have s7 := seen.slot 7 (v := .pointer (some ⟨c, 0, none⟩)) (by kernel_rfl) rfl
            refine does_plain rfl fun K Q' hK => ?_
            go_simp; exact hK _ _ (Grow.refl _) rfl
          -- 1: load 4 t33
          · intro w1 hg Ar seen
            obtain ⟨v0, e0, h0⟩ := seen.dep 0 (d := 33) (by kernel_rfl) (by kernel_rfl) rfl
            rcases h0 with rfl
            refine does_plain rfl fun K Q' hK => ?_
            have hc := cell_of_block (j := 1) ((hg.block _ (block_lt HB6.out)).trans HB6.out) (rx1 _)
            go_simp; exact hK _ _ (Grow.refl _) rfl
          -- 2: move t3
          · intro w1 hg Ar seen
            have s3 := seen.slot 3 (v := .func (.func 24) #[] #[]) (by kernel_rfl) rfl
            refine does_plain rfl fun K Q' hK => ?_
            go_simp; exact hK _ _ (Grow.refl _) rfl
          -- 3: fieldAddr 44 t7 0
          · intro w1 hg Ar seen
            have s7 := seen.slot 7 (v := .pointer (some ⟨c, 0, none⟩)) (by kernel_rfl) rfl
            refine does_plain rfl fun K Q' hK => ?_
            go_simp; exact hK _ _ (Grow.refl _) rfl
          -- 4: load 3 t36
          · intro w1 hg Ar seen
            obtain ⟨v3, e3, h3⟩ := seen.dep 3 (d := 36) (by kernel_rfl) (by kernel_rfl) rfl
            rcases h3 with rfl
            refine does_plain rfl fun K Q' hK => ?_
            have hc := cell_of_block (j := 0) ((hg.block _ (block_lt HB6.out)).trans HB6.out) (rx0 _)
            go_simp; exact hK _ _ (Grow.refl _) rfl
          -- 5: call (Callee.value t35) [4325468:i64, t37] T[3, 3]
          · intro w1 hg Ar seen
            obtain ⟨v2, e2, h2⟩ := seen.dep 2 (d := 35) (by kernel_rfl) (by kernel_rfl) rfl
            rcases h2 with rfl
            obtain ⟨v4, e4, h4⟩ := seen.dep 4 (d := 37) (by kernel_rfl) (by kernel_rfl) rfl
            rcases h4 with rfl
            refine does_plain rfl fun K Q' hK => ?_
            go_simp
            refine (rLay1_any 4325468 x.op _).mono ?_
            rintro e u ⟨rfl, hb⟩
            exact hK _ _ hb ⟨_, rfl, numV_it _ _ _, numV_ok _ _ _ _⟩
          -- 6: call fn29<resps.told> [t34, t38] T[4, 27]
          · intro w1 hg Ar seen
            obtain ⟨v1, e1, h1⟩ := seen.dep 1 (d := 34) (by kernel_rfl) (by kernel_rfl) rfl
            rcases h1 with rfl
            obtain ⟨v5, e5, h5⟩ := seen.dep 5 (d := 38) (by kernel_rfl) (by kernel_rfl) rfl
            refine does_plain rfl fun K Q' hK => ?_
            obtain ⟨y, rfl, hi, ho⟩ := h5
            go_simp
            refine (stold_any (x.hasOp) y _).mono ?_
            rintro e u ⟨rfl, hb⟩
            exact hK _ _ hb ⟨_, rfl, told_it hi, told_ok (ho.below hb)⟩
          -- 7: fieldAddr 44 t7 2
          · intro w1 hg Ar seen
            have s7 := seen.slot 7 (v := .pointer (some ⟨c, 0, none⟩)) (by kernel_rfl) rfl
            refine does_plain rfl fun K Q' hK => ?_
            go_simp; exact hK _ _ (Grow.refl _) rfl
          -- 8: load 4 t40
          · intro w1 hg Ar seen
            obtain ⟨v7, e7, h7⟩ := seen.dep 7 (d := 40) (by kernel_rfl) (by kernel_rfl) rfl
            rcases h7 with rfl
            refine does_plain rfl fun K Q' hK => ?_
            have hc := cell_of_block (j := 2) ((hg.block _ (block_lt HB6.out)).trans HB6.out) (rx2 _)
            go_simp; exact hK _ _ (Grow.refl _) rfl
          -- 9: fieldAddr 44 t7 3
          · intro w1 hg Ar seen
            have s7 := seen.slot 7 (v := .pointer (some ⟨c, 0, none⟩)) (by kernel_rfl) rfl
            refine does_plain rfl fun K Q' hK => ?_
            go_simp; exact hK _ _ (Grow.refl _) rfl
          -- 10: load 24 t42
          · intro w1 hg Ar seen
            obtain ⟨v9, e9, h9⟩ := seen.dep 9 (d := 42) (by kernel_rfl) (by kernel_rfl) rfl
            rcases h9 with rfl
            refine does_plain rfl fun K Q' hK => ?_
            have hc := cell_of_block (j := 3) ((hg.block _ (block_lt HB6.out)).trans HB6.out) (rx3 _)
            go_simp; exact hK _ _ (Grow.refl _) rfl
          -- 11: call fn30<pay.Bytes> [4325523:i64, t43] T[3, 24]
          · intro w1 hg Ar seen
            obtain ⟨v10, e10, h10⟩ := seen.dep 10 (d := 43) (by kernel_rfl) (by kernel_rfl) rfl
            rcases h10 with rfl
            refine does_plain rfl fun K Q' hK => ?_
            go_simp
            refine (payBytes_any 4325523 x.ids x.id _ (HX6.out.ids.below hg)).mono ?_
            rintro e u ⟨sd, rfl, hn, ho, hb⟩
            exact hK _ _ hb ⟨_, rfl, it_flat _ _ _ _ _, ok_flat (SlC.of_own ho (by rw [hn, HX6.out.ids.lenB]; exact HX6.out.ids.sm))⟩
          -- 12: call fn29<resps.told> [t41, t44] T[4, 27]
          · intro w1 hg Ar seen
            obtain ⟨v8, e8, h8⟩ := seen.dep 8 (d := 41) (by kernel_rfl) (by kernel_rfl) rfl
            rcases h8 with rfl
            obtain ⟨v11, e11, h11⟩ := seen.dep 11 (d := 44) (by kernel_rfl) (by kernel_rfl) rfl
            refine does_plain rfl fun K Q' hK => ?_
            obtain ⟨y, rfl, hi, ho⟩ := h11
            go_simp
            refine (stold_any (x.hasId) y _).mono ?_
            rintro e u ⟨rfl, hb⟩
            exact hK _ _ hb ⟨_, rfl, told_it hi, told_ok (ho.below hb)⟩
          -- 13: move t3
          · intro w1 hg Ar seen
            have s3 := seen.slot 3 (v := .func (.func 24) #[] #[]) (by kernel_rfl) rfl
            refine does_plain rfl fun K Q' hK => ?_
            go_simp; exact hK _ _ (Grow.refl _) rfl
          -- 14: fieldAddr 44 t7 4
          · intro w1 hg Ar seen
            have s7 := seen.slot 7 (v := .pointer (some ⟨c, 0, none⟩)) (by kernel_rfl) rfl
            refine does_plain rfl fun K Q' hK => ?_
            go_simp; exact hK _ _ (Grow.refl _) rfl
          -- 15: load 3 t47
          · intro w1 hg Ar seen
            obtain ⟨v14, e14, h14⟩ := seen.dep 14 (d := 47) (by kernel_rfl) (by kernel_rfl) rfl
            rcases h14 with rfl
            refine does_plain rfl fun K Q' hK => ?_
            have hc := cell_of_block (j := 4) ((hg.block _ (block_lt HB6.out)).trans HB6.out) (rx4 _)
            go_simp; exact hK _ _ (Grow.refl _) rfl
          -- 16: call (Callee.value t46) [4325503:i64, t48] T[3, 3]
          · intro w1 hg Ar seen
            obtain ⟨v13, e13, h13⟩ := seen.dep 13 (d := 46) (by kernel_rfl) (by kernel_rfl) rfl
            rcases h13 with rfl
            obtain ⟨v15, e15, h15⟩ := seen.dep 15 (d := 48) (by kernel_rfl) (by kernel_rfl) rfl
            rcases h15 with rfl
            refine does_plain rfl fun K Q' hK => ?_
            go_simp
            refine (rLay1_any 4325503 x.status _).mono ?_
            rintro e u ⟨rfl, hb⟩
            exact hK _ _ hb ⟨_, rfl, numV_it _ _ _, numV_ok _ _ _ _⟩
          -- 17: fieldAddr 44 t7 5
          · intro w1 hg Ar seen
            have s7 := seen.slot 7 (v := .pointer (some ⟨c, 0, none⟩)) (by kernel_rfl) rfl
            refine does_plain rfl fun K Q' hK => ?_
            go_simp; exact hK _ _ (Grow.refl _) rfl
          -- 18: load 3 t50
          · intro w1 hg Ar seen
            obtain ⟨v17, e17, h17⟩ := seen.dep 17 (d := 50) (by kernel_rfl) (by kernel_rfl) rfl
            rcases h17 with rfl
            refine does_plain rfl fun K Q' hK => ?_
            have hc := cell_of_block (j := 5) ((hg.block _ (block_lt HB6.out)).trans HB6.out) (rx5 _)
            go_simp; exact hK _ _ (Grow.refl _) rfl
          -- 19: binOp BinOp.neq 3 t51 0:i64 3
          · intro w1 hg Ar seen
            obtain ⟨v18, e18, h18⟩ := seen.dep 18 (d := 51) (by kernel_rfl) (by kernel_rfl) rfl
            rcases h18 with rfl
            refine does_plain rfl fun K Q' hK => ?_
            go_simp; exact hK _ _ (Grow.refl _) rfl
          -- 20: move t3
          · intro w1 hg Ar seen
            have s3 := seen.slot 3 (v := .func (.func 24) #[] #[]) (by kernel_rfl) rfl
            refine does_plain rfl fun K Q' hK => ?_
            go_simp; exact hK _ _ (Grow.refl _) rfl
          -- 21: fieldAddr 44 t7 5
          · intro w1 hg Ar seen
            have s7 := seen.slot 7 (v := .pointer (some ⟨c, 0, none⟩)) (by kernel_rfl) rfl
            refine does_plain rfl fun K Q' hK => ?_
            go_simp; exact hK _ _ (Grow.refl _) rfl
          -- 22: load 3 t54
          · intro w1 hg Ar seen
            obtain ⟨v21, e21, h21⟩ := seen.dep 21 (d := 54) (by kernel_rfl) (by kernel_rfl) rfl
            rcases h21 with rfl
            refine does_plain rfl fun K Q' hK => ?_
            have hc := cell_of_block (j := 5) ((hg.block _ (block_lt HB6.out)).trans HB6.out) (rx5 _)
            go_simp; exact hK _ _ (Grow.refl _) rfl
          -- 23: call (Callee.value t53) [4325502:i64, t55] T[3, 3]
          · intro w1 hg Ar seen
            obtain ⟨v20, e20, h20⟩ := seen.dep 20 (d := 53) (by kernel_rfl) (by kernel_rfl) rfl
            rcases h20 with rfl
            obtain ⟨v22, e22, h22⟩ := seen.dep 22 (d := 55) (by kernel_rfl) (by kernel_rfl) rfl
            rcases h22 with rfl
            refine does_plain rfl fun K Q' hK => ?_
            go_simp
            refine (rLay1_any 4325502 x.reason _).mono ?_
            rintro e u ⟨rfl, hb⟩
            exact hK _ _ hb ⟨_, rfl, numV_it _ _ _, numV_ok _ _ _ _⟩
          -- 24: call fn29<resps.told> [t52, t56] T[4, 27]
          · intro w1 hg Ar seen
            obtain ⟨v19, e19, h19⟩ := seen.dep 19 (d := 52) (by kernel_rfl) (by kernel_rfl) rfl
            rcases h19 with rfl
            obtain ⟨v23, e23, h23⟩ := seen.dep 23 (d := 56) (by kernel_rfl) (by kernel_rfl) rfl
            refine does_plain rfl fun K Q' hK => ?_
            obtain ⟨y, rfl, hi, ho⟩ := h23
            go_simp
            refine (stold_any ((x.reason != 0)) y _).mono ?_
            rintro e u ⟨rfl, hb⟩
            exact hK _ _ hb ⟨_, rfl, told_it hi, told_ok (ho.below hb)⟩
          -- 25: fieldAddr 44 t7 6
          · intro w1 hg Ar seen
            have s7 := seen.slot 7 (v := .pointer (some ⟨c, 0, none⟩)) (by kernel_rfl) rfl
            refine does_plain rfl fun K Q' hK => ?_
            go_simp; exact hK _ _ (Grow.refl _) rfl
          -- 26: load 9 t58
          · intro w1 hg Ar seen
            obtain ⟨v25, e25, h25⟩ := seen.dep 25 (d := 58) (by kernel_rfl) (by kernel_rfl) rfl
            rcases h25 with rfl
            refine does_plain rfl fun K Q' hK => ?_
            have hc := cell_of_block (j := 6) ((hg.block _ (block_lt HB6.out)).trans HB6.out) (rx6 _)
            go_simp; exact hK _ _ (Grow.refl _) rfl
          -- 27: binOp BinOp.neq 9 t59 b'' 9
          · intro w1 hg Ar seen
            obtain ⟨v26, e26, h26⟩ := seen.dep 26 (d := 59) (by kernel_rfl) (by kernel_rfl) rfl
            rcases h26 with rfl
            refine does_plain rfl fun K Q' hK => ?_
            go_simp; exact hK _ _ (Grow.refl _) rfl
          -- 28: fieldAddr 44 t7 6
          · intro w1 hg Ar seen
            have s7 := seen.slot 7 (v := .pointer (some ⟨c, 0, none⟩)) (by kernel_rfl) rfl
            refine does_plain rfl fun K Q' hK => ?_
            go_simp; exact hK _ _ (Grow.refl _) rfl
          -- 29: load 9 t61
          · intro w1 hg Ar seen
            obtain ⟨v28, e28, h28⟩ := seen.dep 28 (d := 61) (by kernel_rfl) (by kernel_rfl) rfl
            rcases h28 with rfl
            refine does_plain rfl fun K Q' hK => ?_
            have hc := cell_of_block (j := 6) ((hg.block _ (block_lt HB6.out)).trans HB6.out) (rx6 _)
            go_simp; exact hK _ _ (Grow.refl _) rfl
          -- 30: call fn31<pay.Text> [4325501:i64, t62] T[3, 9]
          · intro w1 hg Ar seen
            obtain ⟨v29, e29, h29⟩ := seen.dep 29 (d := 62) (by kernel_rfl) (by kernel_rfl) rfl
            rcases h29 with rfl
            refine does_plain rfl fun K Q' hK => ?_
            go_simp
            refine (payText_any 4325501 x.msg _ HMS.out).mono ?_
            rintro e u ⟨y, rfl, hi, ho, -, hb⟩
            exact hK _ _ hb ⟨y, rfl, hi, ho⟩
          -- 31: call fn29<resps.told> [t60, t63] T[4, 27]
          · intro w1 hg Ar seen
            obtain ⟨v27, e27, h27⟩ := seen.dep 27 (d := 60) (by kernel_rfl) (by kernel_rfl) rfl
            rcases h27 with rfl
            obtain ⟨v30, e30, h30⟩ := seen.dep 30 (d := 63) (by kernel_rfl) (by kernel_rfl) rfl
            refine does_plain rfl fun K Q' hK => ?_
            obtain ⟨y, rfl, hi, ho⟩ := h30
            go_simp
            refine (stold_any ((!x.msg.toList.isEmpty)) y _).mono ?_
            rintro e u ⟨rfl, hb⟩
            exact hK _ _ hb ⟨_, rfl, told_it hi, told_ok (ho.below hb)⟩
          -- 32: buildSlice 25 5 [(0, t39), (1, t45), (2, t49), (3, t57), (4, t64)]
          · intro w1 hg Ar seen
            obtain ⟨v6, e6, h6⟩ := seen.dep 6 (d := 39) (by kernel_rfl) (by kernel_rfl) rfl
            obtain ⟨v12, e12, h12⟩ := seen.dep 12 (d := 45) (by kernel_rfl) (by kernel_rfl) rfl
            obtain ⟨v16, e16, h16⟩ := seen.dep 16 (d := 49) (by kernel_rfl) (by kernel_rfl) rfl
            obtain ⟨v24, e24, h24⟩ := seen.dep 24 (d := 57) (by kernel_rfl) (by kernel_rfl) rfl
            obtain ⟨v31, e31, h31⟩ := seen.dep 31 (d := 64) (by kernel_rfl) (by kernel_rfl) rfl
            refine does_plain rfl fun K Q' hK => ?_
            obtain ⟨x6, rfl, hi6, ho6⟩ := h6
            obtain ⟨x12, rfl, hi12, ho12⟩ := h12
            obtain ⟨x16, rfl, hi16, ho16⟩ := h16
            obtain ⟨x24, rfl, hi24, ho24⟩ := h24
            obtain ⟨x31, rfl, hi31, ho31⟩ := h31
            refine wp_build_items _ 27 5 _ rfl [x6, x12, x16, x24, x31] rfl (by decide) (by decide) (by simp [Act.eval, e6, e12, e16, e24, e31] <;> rfl) (x6.arr ++ x12.arr ++ x16.arr ++ x24.arr ++ x31.arr) (by simp [itmCells, ItV.cells]) i Try.underlying25 hi hz0 hz1 (fill5 x6 x12 x16 x24 x31) ?_
            intro s hs
            exact hK _ _ ((Below.refl _ _).alloc (Nat.le_refl _) _) ⟨s, [x6, x12, x16, x24, x31], rfl, by simp [hi6, hi12, hi16, hi24, hi31], hs, fun x hx => by simp only [List.mem_cons, List.not_mem_nil, or_false] at hx; rcases hx with rfl | rfl | rfl | rfl | rfl <;> exact ItV.ok.below (by first | exact ho6 | exact ho12 | exact ho16 | exact ho24 | exact ho31) ((Below.refl _ _).alloc (Nat.le_refl _) _)⟩
          -- 33: call fn28<pay.Some> [t65] T[25]
          · intro w1 hg Ar seen
            obtain ⟨v32, e32, h32⟩ := seen.dep 32 (d := 65) (by kernel_rfl) (by kernel_rfl) rfl
            refine does_plain rfl fun K Q' hK => ?_
            obtain ⟨s, l, rfl, hm, hs, ha⟩ := h32
            go_simp
            refine (paySome_any s l _ hs ha).mono ?_
            rintro e u ⟨so, lo, rfl, hl, hw, hb⟩
            exact hK _ _ hb ⟨so, lo, rfl, (some_map hl hm).trans (kids_some x.rq), hw.lower (Nat.le_trans (Nat.le_trans HC6.out hg.size) (Nat.le_refl _)) (Nat.zero_le _)⟩
      intro w1 hg
      refine upon_w' (js := [0, 1, 2, 3, 4, 5, 6, 7, 8, 9, 10, 11, 12, 13, 14, 15, 16, 17, 18, 19, 20, 21, 22, 23, 24, 25, 26, 27, 28, 29, 30, 31, 32, 33]) (by rfl) ?_
      refine upon_c (x := some 33) (by kernel_rfl) rfl fun v0 h0 => ?_
      rcases h0 with rfl
      refine upon_c (x := some 34) (by kernel_rfl) rfl fun v1 h1 => ?_
      rcases h1 with rfl
      refine upon_c (x := some 35) (by kernel_rfl) rfl fun v2 h2 => ?_
      rcases h2 with rfl
      refine upon_c (x := some 36) (by kernel_rfl) rfl fun v3 h3 => ?_
      rcases h3 with rfl
      refine upon_c (x := some 37) (by kernel_rfl) rfl fun v4 h4 => ?_
      rcases h4 with rfl
      refine upon_c (x := some 38) (by kernel_rfl) rfl fun v5 h5 => ?_
      refine upon_c (x := some 39) (by kernel_rfl) rfl fun v6 h6 => ?_
      refine upon_c (x := some 40) (by kernel_rfl) rfl fun v7 h7 => ?_
      rcases h7 with rfl
      refine upon_c (x := some 41) (by kernel_rfl) rfl fun v8 h8 => ?_
      rcases h8 with rfl
      refine upon_c (x := some 42) (by kernel_rfl) rfl fun v9 h9 => ?_
      rcases h9 with rfl
      refine upon_c (x := some 43) (by kernel_rfl) rfl fun v10 h10 => ?_
      rcases h10 with rfl
      refine upon_c (x := some 44) (by kernel_rfl) rfl fun v11 h11 => ?_
      refine upon_c (x := some 45) (by kernel_rfl) rfl fun v12 h12 => ?_
      refine upon_c (x := some 46) (by kernel_rfl) rfl fun v13 h13 => ?_
      rcases h13 with rfl
      refine upon_c (x := some 47) (by kernel_rfl) rfl fun v14 h14 => ?_
      rcases h14 with rfl
      refine upon_c (x := some 48) (by kernel_rfl) rfl fun v15 h15 => ?_
      rcases h15 with rfl
      refine upon_c (x := some 49) (by kernel_rfl) rfl fun v16 h16 => ?_
      refine upon_c (x := some 50) (by kernel_rfl) rfl fun v17 h17 => ?_
      rcases h17 with rfl
      refine upon_c (x := some 51) (by kernel_rfl) rfl fun v18 h18 => ?_
      rcases h18 with rfl
      refine upon_c (x := some 52) (by kernel_rfl) rfl fun v19 h19 => ?_
      rcases h19 with rfl
      refine upon_c (x := some 53) (by kernel_rfl) rfl fun v20 h20 => ?_
      rcases h20 with rfl
      refine upon_c (x := some 54) (by kernel_rfl) rfl fun v21 h21 => ?_
      rcases h21 with rfl
      refine upon_c (x := some 55) (by kernel_rfl) rfl fun v22 h22 => ?_
      rcases h22 with rfl
      refine upon_c (x := some 56) (by kernel_rfl) rfl fun v23 h23 => ?_
      refine upon_c (x := some 57) (by kernel_rfl) rfl fun v24 h24 => ?_
      refine upon_c (x := some 58) (by kernel_rfl) rfl fun v25 h25 => ?_
      rcases h25 with rfl
      refine upon_c (x := some 59) (by kernel_rfl) rfl fun v26 h26 => ?_
      rcases h26 with rfl
      refine upon_c (x := some 60) (by kernel_rfl) rfl fun v27 h27 => ?_
      rcases h27 with rfl
      refine upon_c (x := some 61) (by kernel_rfl) rfl fun v28 h28 => ?_
      rcases h28 with rfl
      refine upon_c (x := some 62) (by kernel_rfl) rfl fun v29 h29 => ?_
      rcases h29 with rfl
      refine upon_c (x := some 63) (by kernel_rfl) rfl fun v30 h30 => ?_
      refine upon_c (x := some 64) (by kernel_rfl) rfl fun v31 h31 => ?_
      refine upon_c (x := some 65) (by kernel_rfl) rfl fun v32 h32 => ?_
      refine upon_c (x := some 66) (by kernel_rfl) rfl fun v33 h33 => ?_
      refine upon_n ?_
      obtain ⟨sk, lk, rfl, hlk, hok⟩ := h33
      have HLK := hid hlk; have HOK := hid hok
      have HX7 := hid (HX6.out.below hg)
      have HB7 := hid ((hg.block _ (block_lt HB6.out)).trans HB6.out)
      have HBL7 : Hid (Below c wr w1) := by show Below c wr w1; rw [HCW.out]; exact HBL.out.trans (hg.mono (by rw [← HCW.out]; exact HC6.out))
      have H7 : Hid (c ≤ w1.heap.size) := Nat.le_trans HC6.out hg.size
      clear hlk hok hg h5 h6 h11 h12 h16 h23 h24 h30 h31 h32 HBL HX6 HB6
      go_simp
      have hc12 := cell_of_block (j := 12) HB7.out (rx12 x)
      have HAP : Hid (∀ k ∈ x.pay.foot, sk.v.ownBlock ≠ some k) := fun k hk he => by
        have h1 := (HOK.out.own.lt k he).1
        have h2 := HXL.out k (List.mem_append_right _ hk)
        have h3 := HCW.out; have h4 := HZW4.out; have h5 := HBZ.out
        omega
      have HKL : Hid (sk.n ≤ 5) := by show _ ≤ _; rw [← HOK.out.len, ← List.length_map (f := ItV.it), HLK.out]; exact rsKids_len _
      have HPI : Hid ((x.hasPay = true → rsKids x.rq ++ (if x.rq.hasPay then [x.rq.pay] else []) = rsKids x.rq ++ [x.pay.it]) ∧ (x.hasPay = false → rsKids x.rq ++ (if x.rq.hasPay then [x.rq.pay] else []) = rsKids x.rq)) :=
        ⟨fun h => by have : x.rq.hasPay = true := h; rw [this]; rfl, fun h => by have : x.rq.hasPay = false := h; rw [this]; simp⟩
      obtain ⟨hp, hhp⟩ : ∃ p, x.hasPay = p := ⟨_, rfl⟩
      have HPE := hid hhp
      rw [hhp] at hc12
      clear hhp
      go_upto_if 68 with (fail)
      go_cut [8] (fun u wx => ∃ (sk : Sl) (lk : List ItV), u = .slice sk.a sk.n sk.c ∧ sk.n ≤ 6 ∧ lk.map ItV.it = rsKids x.rq ++ (if x.rq.hasPay then [x.rq.pay] else []) ∧ OwnIt 27 wx c 0 sk lk ∧ Below c w1 wx ∧ c ≤ wx.heap.size)
      case first =>
        clear hc12
        cases hp
        · go_wp2_with fail
          go_meet
          exact ⟨sk, lk, rfl, by have := HKL.out; omega, by rw [HPI.out.2 HPE.out]; exact HLK.out, HOK.out, Below.refl _ _, H7.out⟩
        · go_wp2_with (first | (refine wpList_load_mid rfl 27 _ rfl c 7 rfl x.pay.arr.toList _ (range_of_block HB7.out 7 _ (rpay_range x)) Try.underlying27 rfl iSize ?_; simp only [Array.toArray_toList]) | (refine wpList_build_item rfl 25 27 _ rfl x.pay rfl i Try.underlying25 hi hz0 hz1 ?_) | (at_builtin; go_must (refine wpList_append_c rfl _ _ 25 rfl c 27 i _ 5 72 Try.underlying25 hi hz0 hz1 hz2 rfl (by decide) (.slice sk.a sk.n sk.c) sk.n _ rfl (HOK.out.below ((Below.refl _ _).alloc (Nat.le_refl _) (.cells x.pay.arr 27))).own _ 1 _ x.pay.cells rfl (RdC.new _ _ _ _ x.pay.cells (by simp [ItV.cells]) 5 rfl _ rfl) (by have := itm_one [x.pay]; simpa [itmCells] using this) (fun hx => by cases hx) (by unfold maxLen; have := HKL.out; omega) (by have := HKL.out; omega) (by have := H7.out; simp; omega) ?_); go_loud (intro a3 c3 w9 hown hgw hfr; have HO9 := hid hown; have HG9 := hid hgw; have HF9 := hid hfr; clear hown hgw hfr)))
          have hch : Chg sk.v.ownBlock.toList w1 w9 := ((Chg.refl _ w1).alloc _).grown HG9.out (fun k hk => .inl (by rw [hk]; simp))
          have HK9 : Hid (∃ (sk' : Sl) (lk : List ItV), Value.slice a3 (sk.n + 1) c3 = .slice sk'.a sk'.n sk'.c ∧ sk'.n ≤ 6 ∧ lk.map ItV.it = rsKids x.rq ++ (if x.rq.hasPay then [x.rq.pay] else []) ∧ OwnIt 27 w9 c 0 sk' lk ∧ Below c w1 w9 ∧ c ≤ w9.heap.size) :=
            ⟨⟨a3, sk.n + 1, c3⟩, lk ++ [x.pay], rfl, by have := HKL.out; simp; omega, by rw [HPI.out.1 HPE.out, List.map_append, HLK.out]; rfl,
              HOK.out.app ((Below.refl _ _).alloc (Nat.le_refl _) _) x.pay HX7.out.pay HAP.out (fun _ _ => Nat.zero_le _) (by rw [itm_app]; simpa [itmCells] using HO9.out) HG9.out HF9.out,
              hch.below (B := c) (fun k hk => Nat.le_of_not_lt (fun h' => absurd hk (HOK.out.ahead h'))) H7.out, Nat.le_trans H7.out hch.size⟩
          clear hch HOK HX7 HO9 HG9 HF9
          go_meet
          exact HK9.out
      case rest =>
        clear hc12 HOK HX7 HAP HKL HLK
        obtain ⟨sk, lk, rfl, hn6, hlk, hok, hbx, hzx⟩ := hcut
        have HN6 := hid hn6; have HLK := hid hlk; have HOK := hid hok
        have hbl := HBL7.out.trans hbx
        have HBLX := hid hbl; have HZX := hid hzx
        clear hn6 hlk hok hbx hzx hbl HBL7
        go_wp2_with fail
        refine (payOf_any 4325391 sk lk _ (HOK.out.sl (by have := HN6.out; omega)) HOK.out.ok).mono ?_
        rintro e w3 ⟨y, rfl, hy, hyo, hyl, hb3⟩
        have HY : Hid (y.it = layRsI x.rq) := by show _ = _; rw [hy, HLK.out]; rfl
        have HYO := hid hyo
        have HYL : Hid (∀ k ∈ y.foot, c ≤ k) := fun k hk => Nat.le_trans HZX.out (hyl k hk)
        have HZ3 : Hid (c ≤ w3.heap.size) := Nat.le_trans HZX.out hb3.size
        have hbl : Below c wr w3 := HBLX.out.trans (hb3.mono HZX.out)
        have HBL3 := hid hbl
        have HO3 := hid (HO.out.below (by rw [← HCW.out]; exact hbl))
        clear hy hyo hyl hb3 hbl HOK HBLX
        go_wp2_with (first | (refine wpList_build_item rfl 25 27 _ rfl y rfl i Try.underlying25 hi hz0 hz1 ?_) | (at_builtin; go_must (refine wpList_append_c rfl _ _ 25 rfl z 27 i _ 5 72 Try.underlying25 hi hz0 hz1 hz2 rfl (by decide) (.slice s.a s.n s.c) s.n _ rfl (HO3.out.below ((Below.refl _ _).alloc (Nat.le_refl _) (.cells y.arr 27))).own _ 1 _ y.cells rfl (RdC.new _ _ _ _ y.cells (by simp [ItV.cells]) 5 rfl _ rfl) (by have := itm_one [y]; simpa [itmCells] using this) (fun hx => by cases hx) (by unfold maxLen; have := HSK.out; omega) (by have := HSK.out; omega) (by have := HZ3.out; have := HZW4.out; have := HCW.out; simp; omega) ?_); go_loud (intro a3 c3 w9 hown hgw hfr; have HO9 := hid hown; have HG9 := hid hgw; have HF9 := hid hfr; clear hown hgw hfr)))
        have hch : Chg s.v.ownBlock.toList w3 w9 := ((Chg.refl _ w3).alloc _).grown HG9.out (fun k hk => .inl (by rw [hk]; simp))
        have ho9 : OwnIt 27 w9 z 0 ⟨a3, s.n + 1, c3⟩ (lo ++ [y]) :=
          HO3.out.app ((Below.refl _ _).alloc (Nat.le_refl _) _) y HYO.out (fun k hk he => by have := HSR.out k he; have := HYL.out k hk; have := HCW.out; omega) (fun _ _ => Nat.zero_le _) (by rw [itm_app]; simpa [itmCells] using HO9.out) HG9.out HF9.out
        have hzc : z ≤ c := by rw [HCW.out]; exact HZW4.out
        have hbw9 : Below z W w9 := (HBW.out.trans (HBL3.out.mono hzc)).trans (hch.below (B := z) (fun k hk => Nat.le_of_not_lt (fun h' => absurd hk (HO3.out.ahead h'))) (Nat.le_trans hzc HZ3.out))
        have hz9 : z ≤ w9.heap.size := Nat.le_trans hzc (Nat.le_trans HZ3.out hch.size)
        have hl9 : (lo ++ [y]).map ItV.it = layRsHead q.time (kn : Int) :: ((q.items.take (k + 1)).map fun x => layRsI x.rq) := by rw [List.map_append, HLO.out, HT.out, List.map_cons, List.map_nil, HY.out]; rfl
        have H9 := hid (And.intro hl9 (And.intro hbw9 (And.intro hz9 ho9)))
        clear ho9 hch hbw9 hz9 hl9 HO3 HO HBW hzc
        go_roundw
        case rel =>
          have hsk := HSK.out
          first
            | exact ⟨k + 1, ⟨a3, s.n + 1, c3⟩, lo ++ [y], by omega, by go_num, rfl, by simp; omega, H9.out⟩
            | ((repeat apply Exists.intro); exact ⟨⟨k + 1, ⟨a3, s.n + 1, c3⟩, lo ++ [y], by omega, by go_num, rfl, by simp; omega, H9.out⟩, rfl⟩)
        case measure => simp [intOf]; omega
    · obtain rfl : k = kn := by omega
      have hsl := HO.out.sl (Nat.le_trans (Nat.le_of_eq HSK.out) (by omega))
      have B9 := hid (B0.out.below HBR.out)
      have HOK9 := hid HO.out.ok
      have HSL := hid hsl
      have HLQ : Hid (lo.map ItV.it = layRsHead q.rq.time (q.rq.items.length : Int) :: (q.rq.items.map layRsI)) := by
        show _ = layRsHead q.time ((q.items.map RsIV.rq).length : Int) :: ((q.items.map RsIV.rq).map layRsI)
        rw [HLO.out, List.take_of_length_le (by rw [HKN.out]; exact Nat.le_refl _), List.map_map, List.length_map, HKN.out]; rfl
      clear hsl HO HLO HBW
      go_wp2_with fail
      refine (payOf_any 4325499 s lo _ HSL.out HOK9.out).mono ?_
      rintro e w10 ⟨v, rfl, hiv, hov, hlv, hb10⟩
      have B10 := hid (B9.out.below hb10)
      have HIV : Hid (v.it = layRs q.rq) := by show _ = _; rw [hiv, HLQ.out]; rfl
      have HOV := hid hov
      have HLV : Hid (∀ k ∈ v.foot, b + 2 ≤ k) := fun k hk => by have := hlv k hk; have := B9.out.size; omega
      clear hiv hov hlv hb10 B9
      go_wp2_with (refine wpList_store_obj rfl 27 _ _ rfl (b + 1) rfl v.arr rfl _ _ B10.out.res rfl iSize (arr_one _) ?_; intro w11 hb11 hc11 hs11; have HB11 := hid hb11; have HC11 := hid hc11; clear hb11 hc11 hs11)
      refine bodyPost_ret (results_cell_row rfl _ _ (b + 1) _ _ _ _ rfl HB11.out Try.underlying27 rfl iSize) rfl ?_
      exact ⟨v, rfl, HIV.out, ItV.ok.keep HC11.out HOV.out (fun k hk hm => by have := HLV.out k hk; have := List.mem_singleton.1 hm; omega), fun k hk => by have := HLV.out k hk; rw [HBE.out]; omega, by rw [HBE.out]; exact B10.out.done HC11.out⟩
end Go.Proofs.Ytfcobmncbnkppaa
