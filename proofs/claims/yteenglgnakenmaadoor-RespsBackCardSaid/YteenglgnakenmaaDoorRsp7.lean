/- resps.Lay. -/
import Derived.Test.YteenglgnakenmaaDoorRsp6
namespace Go.Proofs.YteenglgnakenmaaDoor
open Go.RowKit
set_option linter.unusedVariables false
set_option linter.unusedSimpArgs false
set_option maxRecDepth 100000
set_option maxHeartbeats 3200000
theorem OwnIt.lower {T : TypeId} {w : World} {base low base' low' : Nat} {s : Sl} {l : List ItV} (o : OwnIt T w base low s l) (hb : base' ≤ base) (hl : low' ≤ low) : OwnIt T w base' low' s l :=
  ⟨ownsRow_base o.own (fun k hk => by have := (o.own.lt k hk).1; omega), o.ok, o.apart, fun x hx k hk => Nat.le_trans hl (o.low x hx k hk)⟩
def stKidsO (T : TypeId) (L : List Itm) (c : Nat) : St Grow := ⟨fun v w => ∃ (s : Sl) (l : List ItV), v = .slice s.a s.n s.c ∧ l.map ItV.it = L ∧ OwnIt T w c 0 s l, fun v w w' h hg => let ⟨s, l, e, h1, h2⟩ := h; ⟨s, l, e, h1, h2.below hg⟩⟩
theorem kids_some (x : RsI) : someI [if x.hasOp then (numI 4325468 5 x.op) else {}, if x.hasId then { tag := 4325523, typ := 8, data := x.id } else {}, numI 4325503 5 x.status, if (x.reason != 0) then (numI 4325502 5 x.reason) else {}, if (!x.msg.toList.isEmpty) then { tag := 4325501, typ := 7, data := x.msg.data.toList } else {}] = rsKids x := by
  unfold rsKids someI
  by_cases h3 : x.reason = 0 <;> cases h4 : x.msg.toList <;> cases h1 : x.hasOp <;> cases h2 : x.hasId <;> simp [h3, numI]
theorem rsKids_len (x : RsI) : (rsKids x).length ≤ 5 := by
  unfold rsKids
  by_cases h3 : x.reason = 0 <;> by_cases h4 : x.msg.toList = [] <;> cases h1 : x.hasOp <;> cases h2 : x.hasId <;> simp [h3, h4]
theorem rLay_any (q : RsV) (w : World) (hq : q.ok w) (hms : ∀ x ∈ q.items, x.msg.size ≤ 140737488355328) (hnn : q.its.n ≤ 1000000) : Calls Tryd.prog 5 #[.agg q.arr] w (Made (layRs q.rq) w) := by
  obtain ⟨i, hi, hz0, hz1, hz2⟩ := info_parts iInfo
  have HV := hid hq; have HMSG := hid hms
  have hql := fun x hx => (hq.each x hx).lt
  have HKN := hid hq.its.rslen
  clear hq hms
  generalize hbe : w.heap.size = b
  rw [hbe] at hql
  have HQL : Hid (∀ x ∈ q.items, ∀ k ∈ x.foot, k < b) := hql
  have HBE := hid hbe; clear hbe hql
  go_enter Tryd.func5, Tryd.ntmps5
  go_upto_region 1 with (refine wpList_alloc_obj rfl 30 rfl _ iZero ?_)
  go_simp
  have B0 := hid (Bx2.start (T := 25) (T' := 30) (cs := q.arr) (zs := itZ.arr) (w := w) HBE.out)
  rw [HBE.out]
  have HV0 := hid (HV.out.below (((Below.refl _ w).alloc (Nat.le_refl _) (.cells q.arr 25)).alloc (by simp) (.cells itZ.arr 30)))
  generalize (w.alloc (.cells q.arr 25)).alloc (.cells itZ.arr 30) = W at *
  clear HV
  go_upto_region 3 with (fail)
  obtain ⟨z, hzw⟩ : ∃ z, z = W.heap.size := ⟨_, rfl⟩
  have HZW := hid hzw
  have HBZ : Hid (b + 2 ≤ z) := by show _ ≤ _; rw [hzw]; exact B0.out.size
  clear hzw
  refine wp_region_each 17 [.eq (.func (.func 16) #[] #[]), stMade (numI 4325482 2 1), .eq (.func (.func 16) #[] #[]), stMade (numI 4325483 2 4), stItems [numI 4325482 2 1, numI 4325483 2 4], stMade (ofI 4325481 [numI 4325482 2 1, numI 4325483 2 4]), .eq (.pointer (some ⟨b, 0, none⟩)), .eq (.int .i64 q.time), stMade (numI 4325522 9 q.time), .eq (.func (.func 16) #[] #[]), .eq (.pointer (some ⟨b, 1, none⟩)), .eq (.slice q.its.a q.its.n q.its.c), .eq (.int .i64 (q.its.n : Int)), stMade (numI 4325389 2 (q.its.n : Int)), stItems [(ofI 4325481 [numI 4325482 2 1, numI 4325483 2 4]), numI 4325522 9 q.time, numI 4325389 2 (q.its.n : Int)], stMade (layRsHead q.time (q.its.n : Int)), stOwn1 30 (layRsHead q.time (q.its.n : Int)) z] (by kernel_rfl) (by kernel_rfl) (by kernel_rfl) (by kernel_rfl) ?_ ?_
  · as_aux_lemma =>
      refine each_5 ?_ ?_ ?_ ?_ ?_ (each_5 ?_ ?_ ?_ ?_ ?_ (each_5 ?_ ?_ ?_ ?_ ?_ (each_c ?_ (each_c ?_ (each_n)))))
      · intro w1 hg Ar seen
        have s4 := seen.sl 4 (.func (.func 16) #[] #[])
        refine does_plain rfl fun K Q' hK => ?_
        go_simp; exact hK _ _ (Grow.refl _) rfl
      · intro w1 hg Ar seen
        have e0 := seen.de 0 9
        refine does_plain rfl fun K Q' hK => ?_
        go_simp
        refine (rLay2_any 4325482 1 _).mono ?_
        rintro e u ⟨rfl, hb⟩
        exact hK _ _ hb ⟨_, rfl, numV_it _ _ _, numV_ok _ _ _ _⟩
      · intro w1 hg Ar seen
        have s4 := seen.sl 4 (.func (.func 16) #[] #[])
        refine does_plain rfl fun K Q' hK => ?_
        go_simp; exact hK _ _ (Grow.refl _) rfl
      · intro w1 hg Ar seen
        have e2 := seen.de 2 11
        refine does_plain rfl fun K Q' hK => ?_
        go_simp
        refine (rLay2_any 4325483 4 _).mono ?_
        rintro e u ⟨rfl, hb⟩
        exact hK _ _ hb ⟨_, rfl, numV_it _ _ _, numV_ok _ _ _ _⟩
      · intro w1 hg Ar seen
        obtain ⟨v1, e1, h1⟩ := seen.dp 1 10
        obtain ⟨v3, e3, h3⟩ := seen.dp 3 12
        refine does_plain rfl fun K Q' hK => ?_
        obtain ⟨x1, rfl, hi1, ho1⟩ := h1
        obtain ⟨x3, rfl, hi3, ho3⟩ := h3
        refine wp_build_items _ 30 2 _ rfl [x1, x3] rfl (by decide) (by decide) (by simp [Act.eval, e1, e3] <;> rfl) (x1.arr ++ x3.arr) (by simp [itmCells, ItV.cells]) i Tryd.underlying28 hi hz0 hz1 (fill2 x1 x3) ?_
        intro s hs
        exact hK _ _ ((Below.refl _ _).alloc (Nat.le_refl _) _) ⟨s, [x1, x3], rfl, by simp [hi1, hi3], hs, fun x hx => by simp only [List.mem_cons, List.not_mem_nil, or_false] at hx; rcases hx with rfl | rfl <;> exact ItV.ok.below (by first | exact ho1 | exact ho3) ((Below.refl _ _).alloc (Nat.le_refl _) _)⟩
      · intro w1 hg Ar seen
        obtain ⟨v4, e4, h4⟩ := seen.dp 4 13
        refine does_plain rfl fun K Q' hK => ?_
        obtain ⟨s, l, rfl, hm, hs, ha⟩ := h4
        go_simp
        refine (payOf_any 4325481 s l _ hs ha).mono ?_
        rintro e u ⟨x, rfl, hi, ho, -, hb⟩
        exact hK _ _ hb ⟨x, rfl, by rw [hi, hm]; rfl, ho⟩
      · intro w1 hg Ar seen
        have s1 := seen.sl 1 (.pointer (some ⟨b, 0, none⟩))
        refine does_plain rfl fun K Q' hK => ?_
        go_simp; exact hK _ _ (Grow.refl _) rfl
      · intro w1 hg Ar seen
        have e6 := seen.de 6 15
        refine does_plain rfl fun K Q' hK => ?_
        have hc := cell_of_block (j := 0) ((hg.block _ (block_lt B0.out.box)).trans B0.out.box) (rv0 _)
        go_simp; exact hK _ _ (Grow.refl _) rfl
      · intro w1 hg Ar seen
        have e7 := seen.de 7 16
        refine does_plain rfl fun K Q' hK => ?_
        go_simp
        refine (payNumber_any 4325522 9 q.time _).mono ?_
        rintro e u ⟨rfl, hb⟩
        exact hK _ _ hb ⟨_, rfl, numV_it _ _ _, numV_ok _ _ _ _⟩
      · intro w1 hg Ar seen
        have s4 := seen.sl 4 (.func (.func 16) #[] #[])
        refine does_plain rfl fun K Q' hK => ?_
        go_simp; exact hK _ _ (Grow.refl _) rfl
      · intro w1 hg Ar seen
        have s1 := seen.sl 1 (.pointer (some ⟨b, 0, none⟩))
        refine does_plain rfl fun K Q' hK => ?_
        go_simp; exact hK _ _ (Grow.refl _) rfl
      · intro w1 hg Ar seen
        have e10 := seen.de 10 19
        refine does_plain rfl fun K Q' hK => ?_
        have hc := cell_of_block (j := 1) ((hg.block _ (block_lt B0.out.box)).trans B0.out.box) (rv1 _)
        go_simp; exact hK _ _ (Grow.refl _) rfl
      · intro w1 hg Ar seen
        have e11 := seen.de 11 20
        refine does_plain rfl fun K Q' hK => ?_
        go_simp; exact hK _ _ (Grow.refl _) rfl
      · intro w1 hg Ar seen
        have e9 := seen.de 9 18
        have e12 := seen.de 12 21
        refine does_plain rfl fun K Q' hK => ?_
        go_simp
        refine (rLay2_any 4325389 (q.its.n : Int) _).mono ?_
        rintro e u ⟨rfl, hb⟩
        exact hK _ _ hb ⟨_, rfl, numV_it _ _ _, numV_ok _ _ _ _⟩
      · intro w1 hg Ar seen
        obtain ⟨v5, e5, h5⟩ := seen.dp 5 14
        obtain ⟨v8, e8, h8⟩ := seen.dp 8 17
        obtain ⟨v13, e13, h13⟩ := seen.dp 13 22
        refine does_plain rfl fun K Q' hK => ?_
        obtain ⟨x5, rfl, hi5, ho5⟩ := h5
        obtain ⟨x8, rfl, hi8, ho8⟩ := h8
        obtain ⟨x13, rfl, hi13, ho13⟩ := h13
        refine wp_build_items _ 30 3 _ rfl [x5, x8, x13] rfl (by decide) (by decide) (by simp [Act.eval, e5, e8, e13] <;> rfl) (x5.arr ++ x8.arr ++ x13.arr) (by simp [itmCells, ItV.cells]) i Tryd.underlying28 hi hz0 hz1 (fill3 x5 x8 x13) ?_
        intro s hs
        exact hK _ _ ((Below.refl _ _).alloc (Nat.le_refl _) _) ⟨s, [x5, x8, x13], rfl, by simp [hi5, hi8, hi13], hs, fun x hx => by simp only [List.mem_cons, List.not_mem_nil, or_false] at hx; rcases hx with rfl | rfl | rfl <;> exact ItV.ok.below (by first | exact ho5 | exact ho8 | exact ho13) ((Below.refl _ _).alloc (Nat.le_refl _) _)⟩
      · intro w1 hg Ar seen
        obtain ⟨v14, e14, h14⟩ := seen.dp 14 23
        refine does_plain rfl fun K Q' hK => ?_
        obtain ⟨s, l, rfl, hm, hs, ha⟩ := h14
        go_simp
        refine (payOf_any 4325498 s l _ hs ha).mono ?_
        rintro e u ⟨x, rfl, hi, ho, -, hb⟩
        exact hK _ _ hb ⟨x, rfl, by rw [hi, hm]; rfl, ho⟩
      · intro w1 hg Ar seen
        obtain ⟨v15, e15, h15⟩ := seen.dp 15 24
        refine does_plain rfl fun K Q' hK => ?_
        obtain ⟨y, rfl, hy, ho⟩ := h15
        refine wp_build_item _ 30 _ rfl y (by simp [Act.eval, e15]) i Tryd.underlying28 hi hz0 hz1 ?_
        exact hK _ _ ((Below.refl _ _).alloc (Nat.le_refl _) _) ⟨⟨_, _, _⟩, y, rfl, rfl, hy, own_one y ho (Nat.le_trans (Nat.le_of_eq HZW.out) hg.size)⟩
  intro w1 hg
  refine upon_w' (js := [0, 1, 2, 3, 4, 5, 6, 7, 8, 9, 10, 11, 12, 13, 14, 15, 16]) (by rfl) ?_
  refine upon_e (some 9) (upon_v (some 10) fun v1 h1 => upon_e (some 11) (upon_v (some 12) fun v3 h3 => upon_v (some 13) fun v4 h4 => upon_v (some 14) fun v5 h5 => upon_e (some 15) (upon_e (some 16) (upon_v (some 17) fun v8 h8 => upon_e (some 18) (upon_e (some 19) (upon_e (some 20) (upon_e (some 21) (upon_v (some 22) fun v13 h13 => upon_v (some 23) fun v14 h14 => upon_v (some 24) fun v15 h15 => upon_v (some 25) fun v16 h16 => upon_n ?_))))))))
  obtain ⟨s, y, rfl, hsn, hyi, hyo⟩ := h16
  have HSN := hid hsn; have HYI := hid hyi; have HYO := hid hyo
  have hg' := hg
  unfold Grow at hg'
  have B1 := hid (B0.out.below hg')
  rw [← HZW.out] at hg'
  have HBW := hid hg'
  have HZ1 : Hid (z ≤ w1.heap.size) := by show _ ≤ _; rw [HZW.out]; exact hg.size
  clear hg' hg hsn hyi hyo h1 h3 h4 h5 h8 h13 h14 h15
  go_simp
  obtain ⟨ka, hka⟩ : ∃ ka, q.its.a = ka := ⟨_, rfl⟩
  have HKA := hid hka
  obtain ⟨kn, hkn⟩ : ∃ kn, q.its.n = kn := ⟨_, rfl⟩
  have HN := hid hkn
  have hc4 := cell_of_block (j := 1) B1.out.box (rv1 q)
  rw [hkn] at hnn HKN HYI
  rw [hka, hkn] at hc4
  clear hka hkn
  go_wp2_with fail
  clear hc4
  go_loopw [5, 29] (fun u y wr => ∃ (k : Nat) (s : Sl) (lo : List ItV), k ≤ kn ∧ y = .int .i64 k ∧ u = .slice s.a s.n s.c ∧ s.n = k + 1 ∧ lo.map ItV.it = layRsHead q.time (kn : Int) :: ((q.items.take k).map fun x => layRsI x.rq) ∧ Below z W wr ∧ z ≤ wr.heap.size ∧ OwnIt 30 wr z 0 s lo) (fun _ y _ => kn - (intOf y).toNat)
  case atStart => exact ⟨0, s, [y], Nat.zero_le _, rfl, rfl, HSN.out, by simp [HYI.out], HBW.out, HZ1.out, HYO.out⟩
  case round =>
    clear HBW HZ1 HYO HSN HYI B1
    obtain ⟨k, s, lo, hk, rfl, rfl, hsk, hlo, hbw, hzw, ho⟩ := hrel
    have HBW := hid hbw; have HZW4 := hid hzw; have HO := hid ho; have HLO := hid hlo; have HSK := hid hsk
    have hbr : Below W.heap.size W wr := by rw [← HZW.out]; exact HBW.out
    have HBR := hid hbr
    clear hbw hzw ho hlo hsk hbr
    by_cases hlt : k < kn
    · obtain ⟨bx, ox, x, hax, hx, hrow⟩ := (HV0.out.below HBR.out).its.rsrow (k := k) (by rw [HN.out]; exact hlt)
      rw [HKA.out] at hax
      subst hax
      have HX := hid ((HV0.out.below HBR.out).each x (List.mem_of_getElem? hx))
      have HXL := hid (HQL.out x (List.mem_of_getElem? hx))
      have HMS := hid (HMSG.out x (List.mem_of_getElem? hx))
      have HT : Hid ((q.items.take (k + 1)).map (fun x => layRsI x.rq) = (q.items.take k).map (fun x => layRsI x.rq) ++ [layRsI x.rq]) := by
        show _ = _
        rw [List.take_add_one, hx]; simp
      have HR := hid hrow
      clear hx hrow
      go_upto_region 7 with (first | (refine wpList_load_mid rfl 51 _ rfl bx (ox + k * 13) rfl x.arr.toList _ HR.out Tryd.underlying51 rfl sSize ?_; simp only [Array.toArray_toList]) | (refine wpList_alloc_obj rfl 51 rfl _ sZero ?_) | (refine wpList_store_obj rfl 51 _ _ rfl wr.heap.size rfl _ rfl _ _ (block_new wr _) rfl sSize (sarr_one x) ?_; intro w6 hb6 hc6 hs6; have HB6 := hid hb6; have HC6 := hid hc6; have HS6 := hid hs6; clear hb6 hc6 hs6))
      have hbel : Below wr.heap.size wr w6 := ((Below.refl _ wr).alloc (Nat.le_refl _) _).trans (HC6.out.below (fun k hk => by rw [List.mem_singleton.1 hk]; exact Nat.le_refl _) (by simp))
      have HX6 := hid (HX.out.below hbel)
      have HBL := hid hbel
      have HSR : Hid (∀ k, s.v.ownBlock = some k → k < wr.heap.size) := fun k hk => (HO.out.own.lt k hk).2
      clear hbel HC6 HS6 HR HX
      obtain ⟨c, hcw⟩ : ∃ c, c = wr.heap.size := ⟨_, rfl⟩
      have HCW := hid hcw
      have HC6 : Hid (c ≤ w6.heap.size) := by show c ≤ _; rw [hcw]; exact HBL.out.size
      rw [← hcw] at HB6 HSR ⊢
      clear hcw
      refine wp_region_each 34 [.eq (.pointer (some ⟨c, 1, none⟩)), .eq (.bool x.hasOp), .eq (.func (.func 14) #[] #[]), .eq (.pointer (some ⟨c, 0, none⟩)), .eq (.int .i64 x.op), stMade (numI 4325468 5 x.op), stMade (if x.hasOp then (numI 4325468 5 x.op) else {}), .eq (.pointer (some ⟨c, 2, none⟩)), .eq (.bool x.hasId), .eq (.pointer (some ⟨c, 3, none⟩)), .eq (.slice x.ids.a x.ids.n x.ids.c), stMade { tag := 4325523, typ := 8, data := x.id }, stMade (if x.hasId then { tag := 4325523, typ := 8, data := x.id } else {}), .eq (.func (.func 14) #[] #[]), .eq (.pointer (some ⟨c, 4, none⟩)), .eq (.int .i64 x.status), stMade (numI 4325503 5 x.status), .eq (.pointer (some ⟨c, 5, none⟩)), .eq (.int .i64 x.reason), .eq (.bool (x.reason != 0)), .eq (.func (.func 14) #[] #[]), .eq (.pointer (some ⟨c, 5, none⟩)), .eq (.int .i64 x.reason), stMade (numI 4325502 5 x.reason), stMade (if (x.reason != 0) then (numI 4325502 5 x.reason) else {}), .eq (.pointer (some ⟨c, 6, none⟩)), .eq (.string x.msg), .eq (.bool (!x.msg.toList.isEmpty)), .eq (.pointer (some ⟨c, 6, none⟩)), .eq (.string x.msg), stMade { tag := 4325501, typ := 7, data := x.msg.data.toList }, stMade (if (!x.msg.toList.isEmpty) then { tag := 4325501, typ := 7, data := x.msg.data.toList } else {}), stItems [if x.hasOp then (numI 4325468 5 x.op) else {}, if x.hasId then { tag := 4325523, typ := 8, data := x.id } else {}, numI 4325503 5 x.status, if (x.reason != 0) then (numI 4325502 5 x.reason) else {}, if (!x.msg.toList.isEmpty) then { tag := 4325501, typ := 7, data := x.msg.data.toList } else {}], stKidsO 30 (rsKids x.rq) c] (by kernel_rfl) (by kernel_rfl) (by kernel_rfl) (by kernel_rfl) ?_ ?_
      · as_aux_lemma =>
          refine each_5 ?_ ?_ ?_ ?_ ?_ (each_5 ?_ ?_ ?_ ?_ ?_ (each_5 ?_ ?_ ?_ ?_ ?_ (each_5 ?_ ?_ ?_ ?_ ?_ (each_5 ?_ ?_ ?_ ?_ ?_ (each_5 ?_ ?_ ?_ ?_ ?_ (each_c ?_ (each_c ?_ (each_c ?_ (each_c ?_ (each_n))))))))))
          · intro w1 hg Ar seen
            have s7 := seen.sl 7 (.pointer (some ⟨c, 0, none⟩))
            refine does_plain rfl fun K Q' hK => ?_
            go_simp; exact hK _ _ (Grow.refl _) rfl
          · intro w1 hg Ar seen
            have e0 := seen.de 0 33
            refine does_plain rfl fun K Q' hK => ?_
            have hc := cell_of_block (j := 1) ((hg.block _ (block_lt HB6.out)).trans HB6.out) (rx1 _)
            go_simp; exact hK _ _ (Grow.refl _) rfl
          · intro w1 hg Ar seen
            have s3 := seen.sl 3 (.func (.func 14) #[] #[])
            refine does_plain rfl fun K Q' hK => ?_
            go_simp; exact hK _ _ (Grow.refl _) rfl
          · intro w1 hg Ar seen
            have s7 := seen.sl 7 (.pointer (some ⟨c, 0, none⟩))
            refine does_plain rfl fun K Q' hK => ?_
            go_simp; exact hK _ _ (Grow.refl _) rfl
          · intro w1 hg Ar seen
            have e3 := seen.de 3 36
            refine does_plain rfl fun K Q' hK => ?_
            have hc := cell_of_block (j := 0) ((hg.block _ (block_lt HB6.out)).trans HB6.out) (rx0 _)
            go_simp; exact hK _ _ (Grow.refl _) rfl
          · intro w1 hg Ar seen
            have e2 := seen.de 2 35
            have e4 := seen.de 4 37
            refine does_plain rfl fun K Q' hK => ?_
            go_simp
            refine (rLay1_any 4325468 x.op _).mono ?_
            rintro e u ⟨rfl, hb⟩
            exact hK _ _ hb ⟨_, rfl, numV_it _ _ _, numV_ok _ _ _ _⟩
          · intro w1 hg Ar seen
            have e1 := seen.de 1 34
            obtain ⟨v5, e5, h5⟩ := seen.dp 5 38
            refine does_plain rfl fun K Q' hK => ?_
            obtain ⟨y, rfl, hi, ho⟩ := h5
            go_simp
            refine (stold_any (x.hasOp) y _).mono ?_
            rintro e u ⟨rfl, hb⟩
            exact hK _ _ hb ⟨_, rfl, told_it hi, told_ok (ho.below hb)⟩
          · intro w1 hg Ar seen
            have s7 := seen.sl 7 (.pointer (some ⟨c, 0, none⟩))
            refine does_plain rfl fun K Q' hK => ?_
            go_simp; exact hK _ _ (Grow.refl _) rfl
          · intro w1 hg Ar seen
            have e7 := seen.de 7 40
            refine does_plain rfl fun K Q' hK => ?_
            have hc := cell_of_block (j := 2) ((hg.block _ (block_lt HB6.out)).trans HB6.out) (rx2 _)
            go_simp; exact hK _ _ (Grow.refl _) rfl
          · intro w1 hg Ar seen
            have s7 := seen.sl 7 (.pointer (some ⟨c, 0, none⟩))
            refine does_plain rfl fun K Q' hK => ?_
            go_simp; exact hK _ _ (Grow.refl _) rfl
          · intro w1 hg Ar seen
            have e9 := seen.de 9 42
            refine does_plain rfl fun K Q' hK => ?_
            have hc := cell_of_block (j := 3) ((hg.block _ (block_lt HB6.out)).trans HB6.out) (rx3 _)
            go_simp; exact hK _ _ (Grow.refl _) rfl
          · intro w1 hg Ar seen
            have e10 := seen.de 10 43
            refine does_plain rfl fun K Q' hK => ?_
            go_simp
            refine (payBytes_any 4325523 x.ids x.id _ (HX6.out.ids.below hg)).mono ?_
            rintro e u ⟨sd, rfl, hn, ho, hb⟩
            exact hK _ _ hb ⟨_, rfl, it_flat _ _ _ _ _, ok_flat (SlC.of_own ho (by rw [hn, HX6.out.ids.lenB]; exact HX6.out.ids.sm))⟩
          · intro w1 hg Ar seen
            have e8 := seen.de 8 41
            obtain ⟨v11, e11, h11⟩ := seen.dp 11 44
            refine does_plain rfl fun K Q' hK => ?_
            obtain ⟨y, rfl, hi, ho⟩ := h11
            go_simp
            refine (stold_any (x.hasId) y _).mono ?_
            rintro e u ⟨rfl, hb⟩
            exact hK _ _ hb ⟨_, rfl, told_it hi, told_ok (ho.below hb)⟩
          · intro w1 hg Ar seen
            have s3 := seen.sl 3 (.func (.func 14) #[] #[])
            refine does_plain rfl fun K Q' hK => ?_
            go_simp; exact hK _ _ (Grow.refl _) rfl
          · intro w1 hg Ar seen
            have s7 := seen.sl 7 (.pointer (some ⟨c, 0, none⟩))
            refine does_plain rfl fun K Q' hK => ?_
            go_simp; exact hK _ _ (Grow.refl _) rfl
          · intro w1 hg Ar seen
            have e14 := seen.de 14 47
            refine does_plain rfl fun K Q' hK => ?_
            have hc := cell_of_block (j := 4) ((hg.block _ (block_lt HB6.out)).trans HB6.out) (rx4 _)
            go_simp; exact hK _ _ (Grow.refl _) rfl
          · intro w1 hg Ar seen
            have e13 := seen.de 13 46
            have e15 := seen.de 15 48
            refine does_plain rfl fun K Q' hK => ?_
            go_simp
            refine (rLay1_any 4325503 x.status _).mono ?_
            rintro e u ⟨rfl, hb⟩
            exact hK _ _ hb ⟨_, rfl, numV_it _ _ _, numV_ok _ _ _ _⟩
          · intro w1 hg Ar seen
            have s7 := seen.sl 7 (.pointer (some ⟨c, 0, none⟩))
            refine does_plain rfl fun K Q' hK => ?_
            go_simp; exact hK _ _ (Grow.refl _) rfl
          · intro w1 hg Ar seen
            have e17 := seen.de 17 50
            refine does_plain rfl fun K Q' hK => ?_
            have hc := cell_of_block (j := 5) ((hg.block _ (block_lt HB6.out)).trans HB6.out) (rx5 _)
            go_simp; exact hK _ _ (Grow.refl _) rfl
          · intro w1 hg Ar seen
            have e18 := seen.de 18 51
            refine does_plain rfl fun K Q' hK => ?_
            go_simp; exact hK _ _ (Grow.refl _) rfl
          · intro w1 hg Ar seen
            have s3 := seen.sl 3 (.func (.func 14) #[] #[])
            refine does_plain rfl fun K Q' hK => ?_
            go_simp; exact hK _ _ (Grow.refl _) rfl
          · intro w1 hg Ar seen
            have s7 := seen.sl 7 (.pointer (some ⟨c, 0, none⟩))
            refine does_plain rfl fun K Q' hK => ?_
            go_simp; exact hK _ _ (Grow.refl _) rfl
          · intro w1 hg Ar seen
            have e21 := seen.de 21 54
            refine does_plain rfl fun K Q' hK => ?_
            have hc := cell_of_block (j := 5) ((hg.block _ (block_lt HB6.out)).trans HB6.out) (rx5 _)
            go_simp; exact hK _ _ (Grow.refl _) rfl
          · intro w1 hg Ar seen
            have e20 := seen.de 20 53
            have e22 := seen.de 22 55
            refine does_plain rfl fun K Q' hK => ?_
            go_simp
            refine (rLay1_any 4325502 x.reason _).mono ?_
            rintro e u ⟨rfl, hb⟩
            exact hK _ _ hb ⟨_, rfl, numV_it _ _ _, numV_ok _ _ _ _⟩
          · intro w1 hg Ar seen
            have e19 := seen.de 19 52
            obtain ⟨v23, e23, h23⟩ := seen.dp 23 56
            refine does_plain rfl fun K Q' hK => ?_
            obtain ⟨y, rfl, hi, ho⟩ := h23
            go_simp
            refine (stold_any ((x.reason != 0)) y _).mono ?_
            rintro e u ⟨rfl, hb⟩
            exact hK _ _ hb ⟨_, rfl, told_it hi, told_ok (ho.below hb)⟩
          · intro w1 hg Ar seen
            have s7 := seen.sl 7 (.pointer (some ⟨c, 0, none⟩))
            refine does_plain rfl fun K Q' hK => ?_
            go_simp; exact hK _ _ (Grow.refl _) rfl
          · intro w1 hg Ar seen
            have e25 := seen.de 25 58
            refine does_plain rfl fun K Q' hK => ?_
            have hc := cell_of_block (j := 6) ((hg.block _ (block_lt HB6.out)).trans HB6.out) (rx6 _)
            go_simp; exact hK _ _ (Grow.refl _) rfl
          · intro w1 hg Ar seen
            have e26 := seen.de 26 59
            refine does_plain rfl fun K Q' hK => ?_
            go_simp; exact hK _ _ (Grow.refl _) rfl
          · intro w1 hg Ar seen
            have s7 := seen.sl 7 (.pointer (some ⟨c, 0, none⟩))
            refine does_plain rfl fun K Q' hK => ?_
            go_simp; exact hK _ _ (Grow.refl _) rfl
          · intro w1 hg Ar seen
            have e28 := seen.de 28 61
            refine does_plain rfl fun K Q' hK => ?_
            have hc := cell_of_block (j := 6) ((hg.block _ (block_lt HB6.out)).trans HB6.out) (rx6 _)
            go_simp; exact hK _ _ (Grow.refl _) rfl
          · intro w1 hg Ar seen
            have e29 := seen.de 29 62
            refine does_plain rfl fun K Q' hK => ?_
            go_simp
            refine (payText_any 4325501 x.msg _ HMS.out).mono ?_
            rintro e u ⟨y, rfl, hi, ho, -, hb⟩
            exact hK _ _ hb ⟨y, rfl, hi, ho⟩
          · intro w1 hg Ar seen
            have e27 := seen.de 27 60
            obtain ⟨v30, e30, h30⟩ := seen.dp 30 63
            refine does_plain rfl fun K Q' hK => ?_
            obtain ⟨y, rfl, hi, ho⟩ := h30
            go_simp
            refine (stold_any ((!x.msg.toList.isEmpty)) y _).mono ?_
            rintro e u ⟨rfl, hb⟩
            exact hK _ _ hb ⟨_, rfl, told_it hi, told_ok (ho.below hb)⟩
          · intro w1 hg Ar seen
            obtain ⟨v6, e6, h6⟩ := seen.dp 6 39
            obtain ⟨v12, e12, h12⟩ := seen.dp 12 45
            obtain ⟨v16, e16, h16⟩ := seen.dp 16 49
            obtain ⟨v24, e24, h24⟩ := seen.dp 24 57
            obtain ⟨v31, e31, h31⟩ := seen.dp 31 64
            refine does_plain rfl fun K Q' hK => ?_
            obtain ⟨x6, rfl, hi6, ho6⟩ := h6
            obtain ⟨x12, rfl, hi12, ho12⟩ := h12
            obtain ⟨x16, rfl, hi16, ho16⟩ := h16
            obtain ⟨x24, rfl, hi24, ho24⟩ := h24
            obtain ⟨x31, rfl, hi31, ho31⟩ := h31
            refine wp_build_items _ 30 5 _ rfl [x6, x12, x16, x24, x31] rfl (by decide) (by decide) (by simp [Act.eval, e6, e12, e16, e24, e31] <;> rfl) (x6.arr ++ x12.arr ++ x16.arr ++ x24.arr ++ x31.arr) (by simp [itmCells, ItV.cells]) i Tryd.underlying28 hi hz0 hz1 (fill5 x6 x12 x16 x24 x31) ?_
            intro s hs
            exact hK _ _ ((Below.refl _ _).alloc (Nat.le_refl _) _) ⟨s, [x6, x12, x16, x24, x31], rfl, by simp [hi6, hi12, hi16, hi24, hi31], hs, fun x hx => by simp only [List.mem_cons, List.not_mem_nil, or_false] at hx; rcases hx with rfl | rfl | rfl | rfl | rfl <;> exact ItV.ok.below (by first | exact ho6 | exact ho12 | exact ho16 | exact ho24 | exact ho31) ((Below.refl _ _).alloc (Nat.le_refl _) _)⟩
          · intro w1 hg Ar seen
            obtain ⟨v32, e32, h32⟩ := seen.dp 32 65
            refine does_plain rfl fun K Q' hK => ?_
            obtain ⟨s, l, rfl, hm, hs, ha⟩ := h32
            go_simp
            refine (paySome_any s l _ hs ha).mono ?_
            rintro e u ⟨so, lo, rfl, hl, hw, hb⟩
            exact hK _ _ hb ⟨so, lo, rfl, (some_map hl hm).trans (kids_some x.rq), hw.lower (Nat.le_trans (Nat.le_trans HC6.out hg.size) (Nat.le_refl _)) (Nat.zero_le _)⟩
      intro w1 hg
      refine upon_w' (js := [0, 1, 2, 3, 4, 5, 6, 7, 8, 9, 10, 11, 12, 13, 14, 15, 16, 17, 18, 19, 20, 21, 22, 23, 24, 25, 26, 27, 28, 29, 30, 31, 32, 33]) (by rfl) ?_
      refine upon_e (some 33) (upon_e (some 34) (upon_e (some 35) (upon_e (some 36) (upon_e (some 37) (upon_v (some 38) fun v5 h5 => upon_v (some 39) fun v6 h6 => upon_e (some 40) (upon_e (some 41) (upon_e (some 42) (upon_e (some 43) (upon_v (some 44) fun v11 h11 => upon_v (some 45) fun v12 h12 => upon_e (some 46) (upon_e (some 47) (upon_e (some 48) (upon_v (some 49) fun v16 h16 => upon_e (some 50) (upon_e (some 51) (upon_e (some 52) (upon_e (some 53) (upon_e (some 54) (upon_e (some 55) (upon_v (some 56) fun v23 h23 => upon_v (some 57) fun v24 h24 => upon_e (some 58) (upon_e (some 59) (upon_e (some 60) (upon_e (some 61) (upon_e (some 62) (upon_v (some 63) fun v30 h30 => upon_v (some 64) fun v31 h31 => upon_v (some 65) fun v32 h32 => upon_v (some 66) fun v33 h33 => upon_n ?_)))))))))))))))))))))))
      obtain ⟨sk, lk, rfl, hlk, hok⟩ := h33
      have HLK := hid hlk; have HOK := hid hok
      have HX7 := hid (HX6.out.below hg)
      have HB7 := hid ((hg.block _ (block_lt HB6.out)).trans HB6.out)
      have HBL7 : Hid (Below c wr w1) := by show Below c wr w1; rw [HCW.out]; exact HBL.out.trans (hg.mono (by rw [← HCW.out]; exact HC6.out))
      have H7 : Hid (c ≤ w1.heap.size) := Nat.le_trans HC6.out hg.size
      clear hlk hok hg h5 h6 h11 h12 h16 h23 h24 h30 h31 h32 HBL HX6 HB6
      go_simp
      have hc12 := cell_of_block (j := 12) HB7.out (rx12 x)
      have HAP : Hid (∀ k ∈ x.pay.foot, sk.v.ownBlock ≠ some k) := fun k hk he => by
        have h1 := (HOK.out.own.lt k he).1
        have h2 := HXL.out k (List.mem_append_right _ hk)
        have h3 := HCW.out; have h4 := HZW4.out; have h5 := HBZ.out
        omega
      have HKL : Hid (sk.n ≤ 5) := by show _ ≤ _; rw [← HOK.out.len, ← List.length_map (f := ItV.it), HLK.out]; exact rsKids_len _
      have HPI : Hid ((x.hasPay = true → rsKids x.rq ++ (if x.rq.hasPay then [x.rq.pay] else []) = rsKids x.rq ++ [x.pay.it]) ∧ (x.hasPay = false → rsKids x.rq ++ (if x.rq.hasPay then [x.rq.pay] else []) = rsKids x.rq)) :=
        ⟨fun h => by have : x.rq.hasPay = true := h; rw [this]; rfl, fun h => by have : x.rq.hasPay = false := h; rw [this]; simp⟩
      obtain ⟨hp, hhp⟩ : ∃ p, x.hasPay = p := ⟨_, rfl⟩
      have HPE := hid hhp
      rw [hhp] at hc12
      clear hhp
      go_upto_if 68 with (fail)
      go_cut [8] (fun u wx => ∃ (sk : Sl) (lk : List ItV), u = .slice sk.a sk.n sk.c ∧ sk.n ≤ 6 ∧ lk.map ItV.it = rsKids x.rq ++ (if x.rq.hasPay then [x.rq.pay] else []) ∧ OwnIt 30 wx c 0 sk lk ∧ Below c w1 wx ∧ c ≤ wx.heap.size)
      case first =>
        clear hc12
        cases hp
        · go_wp2_with fail
          go_meet
          exact ⟨sk, lk, rfl, by have := HKL.out; omega, by rw [HPI.out.2 HPE.out]; exact HLK.out, HOK.out, Below.refl _ _, H7.out⟩
        · go_wp2_with (first | (refine wpList_load_mid rfl 30 _ rfl c 7 rfl x.pay.arr.toList _ (range_of_block HB7.out 7 _ (rpay_range x)) Tryd.underlying30 rfl iSize ?_; simp only [Array.toArray_toList]) | (refine wpList_build_item rfl 28 30 _ rfl x.pay rfl i Tryd.underlying28 hi hz0 hz1 ?_) | (at_builtin; go_must (refine wpList_append_c rfl _ _ 28 rfl c 30 i _ 5 72 Tryd.underlying28 hi hz0 hz1 hz2 rfl (by decide) (.slice sk.a sk.n sk.c) sk.n _ rfl (HOK.out.below ((Below.refl _ _).alloc (Nat.le_refl _) (.cells x.pay.arr 30))).own _ 1 _ x.pay.cells rfl (RdC.new _ _ _ _ x.pay.cells (by simp [ItV.cells]) 5 rfl _ rfl) (by have := itm_one [x.pay]; simpa [itmCells] using this) (fun hx => by cases hx) (by unfold maxLen; have := HKL.out; omega) (by have := HKL.out; omega) (by have := H7.out; simp; omega) ?_); go_loud (intro a3 c3 w9 hown hgw hfr; have HO9 := hid hown; have HG9 := hid hgw; have HF9 := hid hfr; clear hown hgw hfr)))
          have hch : Chg sk.v.ownBlock.toList w1 w9 := ((Chg.refl _ w1).alloc _).grown HG9.out (fun k hk => .inl (by rw [hk]; simp))
          have HK9 : Hid (∃ (sk' : Sl) (lk : List ItV), Value.slice a3 (sk.n + 1) c3 = .slice sk'.a sk'.n sk'.c ∧ sk'.n ≤ 6 ∧ lk.map ItV.it = rsKids x.rq ++ (if x.rq.hasPay then [x.rq.pay] else []) ∧ OwnIt 30 w9 c 0 sk' lk ∧ Below c w1 w9 ∧ c ≤ w9.heap.size) :=
            ⟨⟨a3, sk.n + 1, c3⟩, lk ++ [x.pay], rfl, by have := HKL.out; simp; omega, by rw [HPI.out.1 HPE.out, List.map_append, HLK.out]; rfl,
              HOK.out.app ((Below.refl _ _).alloc (Nat.le_refl _) _) x.pay HX7.out.pay HAP.out (fun _ _ => Nat.zero_le _) (by rw [itm_app]; simpa [itmCells] using HO9.out) HG9.out HF9.out,
              hch.below (B := c) (fun k hk => Nat.le_of_not_lt (fun h' => absurd hk (HOK.out.ahead h'))) H7.out, Nat.le_trans H7.out hch.size⟩
          clear hch HOK HX7 HO9 HG9 HF9
          go_meet
          exact HK9.out
      case rest =>
        clear hc12 HOK HX7 HAP HKL HLK
        obtain ⟨sk, lk, rfl, hn6, hlk, hok, hbx, hzx⟩ := hcut
        have HN6 := hid hn6; have HLK := hid hlk; have HOK := hid hok
        have hbl := HBL7.out.trans hbx
        have HBLX := hid hbl; have HZX := hid hzx
        clear hn6 hlk hok hbx hzx hbl HBL7
        go_wp2_with fail
        refine (payOf_any 4325391 sk lk _ (HOK.out.sl (by have := HN6.out; omega)) HOK.out.ok).mono ?_
        rintro e w3 ⟨y, rfl, hy, hyo, hyl, hb3⟩
        have HY : Hid (y.it = layRsI x.rq) := by show _ = _; rw [hy, HLK.out]; rfl
        have HYO := hid hyo
        have HYL : Hid (∀ k ∈ y.foot, c ≤ k) := fun k hk => Nat.le_trans HZX.out (hyl k hk)
        have HZ3 : Hid (c ≤ w3.heap.size) := Nat.le_trans HZX.out hb3.size
        have hbl : Below c wr w3 := HBLX.out.trans (hb3.mono HZX.out)
        have HBL3 := hid hbl
        have HO3 := hid (HO.out.below (by rw [← HCW.out]; exact hbl))
        clear hy hyo hyl hb3 hbl HOK HBLX
        go_wp2_with (first | (refine wpList_build_item rfl 28 30 _ rfl y rfl i Tryd.underlying28 hi hz0 hz1 ?_) | (at_builtin; go_must (refine wpList_append_c rfl _ _ 28 rfl z 30 i _ 5 72 Tryd.underlying28 hi hz0 hz1 hz2 rfl (by decide) (.slice s.a s.n s.c) s.n _ rfl (HO3.out.below ((Below.refl _ _).alloc (Nat.le_refl _) (.cells y.arr 30))).own _ 1 _ y.cells rfl (RdC.new _ _ _ _ y.cells (by simp [ItV.cells]) 5 rfl _ rfl) (by have := itm_one [y]; simpa [itmCells] using this) (fun hx => by cases hx) (by unfold maxLen; have := HSK.out; omega) (by have := HSK.out; omega) (by have := HZ3.out; have := HZW4.out; have := HCW.out; simp; omega) ?_); go_loud (intro a3 c3 w9 hown hgw hfr; have HO9 := hid hown; have HG9 := hid hgw; have HF9 := hid hfr; clear hown hgw hfr)))
        have hch : Chg s.v.ownBlock.toList w3 w9 := ((Chg.refl _ w3).alloc _).grown HG9.out (fun k hk => .inl (by rw [hk]; simp))
        have ho9 : OwnIt 30 w9 z 0 ⟨a3, s.n + 1, c3⟩ (lo ++ [y]) :=
          HO3.out.app ((Below.refl _ _).alloc (Nat.le_refl _) _) y HYO.out (fun k hk he => by have := HSR.out k he; have := HYL.out k hk; have := HCW.out; omega) (fun _ _ => Nat.zero_le _) (by rw [itm_app]; simpa [itmCells] using HO9.out) HG9.out HF9.out
        have hzc : z ≤ c := by rw [HCW.out]; exact HZW4.out
        have hbw9 : Below z W w9 := (HBW.out.trans (HBL3.out.mono hzc)).trans (hch.below (B := z) (fun k hk => Nat.le_of_not_lt (fun h' => absurd hk (HO3.out.ahead h'))) (Nat.le_trans hzc HZ3.out))
        have hz9 : z ≤ w9.heap.size := Nat.le_trans hzc (Nat.le_trans HZ3.out hch.size)
        have hl9 : (lo ++ [y]).map ItV.it = layRsHead q.time (kn : Int) :: ((q.items.take (k + 1)).map fun x => layRsI x.rq) := by rw [List.map_append, HLO.out, HT.out, List.map_cons, List.map_nil, HY.out]; rfl
        have H9 := hid (And.intro hl9 (And.intro hbw9 (And.intro hz9 ho9)))
        clear ho9 hch hbw9 hz9 hl9 HO3 HO HBW hzc
        go_roundw
        case rel =>
          have hsk := HSK.out
          first
            | exact ⟨k + 1, ⟨a3, s.n + 1, c3⟩, lo ++ [y], by omega, by go_num, rfl, by simp; omega, H9.out⟩
            | ((repeat apply Exists.intro); exact ⟨⟨k + 1, ⟨a3, s.n + 1, c3⟩, lo ++ [y], by omega, by go_num, rfl, by simp; omega, H9.out⟩, rfl⟩)
        case measure => simp [intOf]; omega
    · obtain rfl : k = kn := by omega
      have hsl := HO.out.sl (Nat.le_trans (Nat.le_of_eq HSK.out) (by omega))
      have B9 := hid (B0.out.below HBR.out)
      have HOK9 := hid HO.out.ok
      have HSL := hid hsl
      have HLQ : Hid (lo.map ItV.it = layRsHead q.rq.time (q.rq.items.length : Int) :: (q.rq.items.map layRsI)) := by
        show _ = layRsHead q.time ((q.items.map RsIV.rq).length : Int) :: ((q.items.map RsIV.rq).map layRsI)
        rw [HLO.out, List.take_of_length_le (by rw [HKN.out]; exact Nat.le_refl _), List.map_map, List.length_map, HKN.out]; rfl
      clear hsl HO HLO HBW
      go_wp2_with fail
      refine (payOf_any 4325499 s lo _ HSL.out HOK9.out).mono ?_
      rintro e w10 ⟨v, rfl, hiv, hov, hlv, hb10⟩
      have B10 := hid (B9.out.below hb10)
      have HIV : Hid (v.it = layRs q.rq) := by show _ = _; rw [hiv, HLQ.out]; rfl
      have HOV := hid hov
      have HLV : Hid (∀ k ∈ v.foot, b + 2 ≤ k) := fun k hk => by have := hlv k hk; have := B9.out.size; omega
      clear hiv hov hlv hb10 B9
      go_wp2_with (refine wpList_store_obj rfl 30 _ _ rfl (b + 1) rfl v.arr rfl _ _ B10.out.res rfl iSize (arr_one _) ?_; intro w11 hb11 hc11 hs11; have HB11 := hid hb11; have HC11 := hid hc11; clear hb11 hc11 hs11)
      refine bodyPost_ret (results_cell_row rfl _ _ (b + 1) _ _ _ _ rfl HB11.out Tryd.underlying30 rfl iSize) rfl ?_
      exact ⟨v, rfl, HIV.out, ItV.ok.keep HC11.out HOV.out (fun k hk hm => by have := HLV.out k hk; have := List.mem_singleton.1 hm; omega), fun k hk => by have := HLV.out k hk; rw [HBE.out]; omega, by rw [HBE.out]; exact B10.out.done HC11.out⟩
end Go.Proofs.YteenglgnakenmaaDoor
