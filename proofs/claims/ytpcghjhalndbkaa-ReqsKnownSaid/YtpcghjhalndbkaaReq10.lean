/- ReqsKnown: the walk. -/
import Derived.Test.YtpcghjhalndbkaaReq9
namespace Go.Proofs.Ytpcghjhalndbkaa
open Go.RowKit
set_option linter.unusedVariables false
set_option linter.unusedSimpArgs false
set_option maxRecDepth 100000
set_option maxHeartbeats 3200000
def twoQ : Rq := { major := 1, minor := 4, opt := 2, items := [{ smallI with has := true }, { smallI with has := true }] }
def stQ1 (x : RqIV) : St Grow := ⟨fun v w => ∃ s : Sl, v = .slice s.a s.n s.c ∧ s.n = 1 ∧ SlR w s 8 (rqCells [x]), fun v w w' h hg => let ⟨s, e, h1, h2⟩ := h; ⟨s, e, h1, h2.below hg⟩⟩
theorem wp_build_rq {P : Program} {o : Oper} {a : Act} {w : World} {K : Act → World → Prop} {Q : Exit → Act → World → Prop} (T E : TypeId) (x : Operand) (ho : o.op = .buildSlice T 1 #[(0, x)]) (v : RqIV) (hx : a.eval x = .agg v.arr)
    (i : TypeInfo) (hu : P.underlying T = some (.slice E)) (hi : P.info? E = some i) (hz : i.zero = some (.agg rqZ.arr)) (hs : i.size = 8)
    (h : K (a.put o.dst (.slice (some ⟨w.heap.size, 0, none⟩) 1 1)) (w.alloc (.cells v.arr E))) : o.wp P a w K Q := by
  refine wp_buildSlice T E 1 _ ho v.arr i _ hu hi hz (by rw [hs]; decide) (by rw [hs]; decide) ?_ h
  rw [hs, show ((#[(0, x)] : Array (Nat × Operand)).map fun (i, x) => (i, a.eval x)).toList = [(0, Value.agg v.arr)] from by simp [hx]]
  kernel_rfl
theorem reqsKnown_walk (w : World) : Calls Try.prog 3 #[] w fun e w' => e = .returned (.bool true) ∧ Below w.heap.size w w' := by
  obtain ⟨iq, hiq, hy0, hy1, hy2⟩ := info_parts qInfo
  go_enter Try.func3, Try.ntmps3
  have B := hid (Below.refl w.heap.size w)
  go_wp2_with fail
  refine (small_any _).mono ?_
  rintro e w1 ⟨g1, c1, rfl, ho, hb⟩
  have HOX := hid (ownsRow_base ho (fun k hk => Nat.le_trans B.out.size (ho.lt k hk).1))
  have B' := hid (grow_on B.out hb)
  clear B
  have B := B'
  clear B'
  have OW1 := HOX
  clear HOX ho hb
  have HPW2 : Hid (w.heap.size ≤ w1.heap.size) := B.out.size
  go_upto_region 2 with (first | (refine wpList_alloc_obj rfl 24 rfl _ vZero ?_) | (refine wpList_store_obj rfl 24 _ _ rfl w1.heap.size rfl (smallR 2 ⟨some ⟨g1, 0, none⟩, 1, c1⟩ [smallX false]).arr rfl _ _ (block_new w1 _) rfl vSize (varr_one _) ?_; intro w2 hb hc hs; have HBK2 := hid hb; have HCK2 := hid hc; clear hb hc hs))
  have hbel : Below w1.heap.size w1 w2 := ((Below.refl _ w1).alloc (Nat.le_refl _) _).trans (HCK2.out.below (fun k hk => by rw [List.mem_singleton.1 hk]; exact Nat.le_refl _) (by simp))
  have B' := hid (grow_on B.out hbel)
  have OW1' := hid ((Chg.of_below hbel []).owns OW1.out (fun k _ hm => by cases hm))
  clear B OW1
  have B := B'
  have OW1 := OW1'
  clear B' OW1'
  clear HCK2 hbel
  generalize w1.heap.size = p2 at *
  refine wp_region_each 7 [.eq (.pointer (some ⟨p2, 4, none⟩)), .eq (.slice (some ⟨g1, 0, none⟩) 1 c1), .eq (.pointer (some ⟨p2, 4, none⟩)), .eq (.slice (some ⟨g1, 0, none⟩) 1 c1), .eq (.pointer (some ⟨g1, 0, none⟩)), .eq (.agg (smallX false).arr), stQ1 (smallX false)] (by kernel_rfl) (by kernel_rfl) (by kernel_rfl) (by kernel_rfl) ?_ ?_
  · as_aux_lemma =>
      refine each_c (o' := _) ?_ (each_c (o' := _) ?_ (each_c (o' := _) ?_ (each_c (o' := _) ?_ (each_c (o' := _) ?_ (each_c (o' := _) ?_ (each_c (o' := _) ?_ (each_n)))))))
      -- 0: fieldAddr 24 t1 4
      · intro w1 hg Ar seen
        have s1 := seen.slot 1 (v := .pointer (some ⟨p2, 0, none⟩)) (by kernel_rfl) rfl
        refine does_plain rfl fun K Q' hK => ?_
        go_simp; exact hK _ _ (Grow.refl _) rfl
      -- 1: load 22 t12
      · intro w1 hg Ar seen
        obtain ⟨v0, e0, h0⟩ := seen.dep 0 (d := 12) (by kernel_rfl) (by kernel_rfl) rfl
        rcases h0 with rfl
        refine does_plain rfl fun K Q' hK => ?_
        have hc := cell_of_block (j := 4) ((hg.block _ (block_lt HBK2.out)).trans HBK2.out) (qr4 _); simp only [smallR] at hc
        go_simp; exact hK _ _ (Grow.refl _) rfl
      -- 2: fieldAddr 24 t1 4
      · intro w1 hg Ar seen
        have s1 := seen.slot 1 (v := .pointer (some ⟨p2, 0, none⟩)) (by kernel_rfl) rfl
        refine does_plain rfl fun K Q' hK => ?_
        go_simp; exact hK _ _ (Grow.refl _) rfl
      -- 3: load 22 t14
      · intro w1 hg Ar seen
        obtain ⟨v2, e2, h2⟩ := seen.dep 2 (d := 14) (by kernel_rfl) (by kernel_rfl) rfl
        rcases h2 with rfl
        refine does_plain rfl fun K Q' hK => ?_
        have hc := cell_of_block (j := 4) ((hg.block _ (block_lt HBK2.out)).trans HBK2.out) (qr4 _); simp only [smallR] at hc
        go_simp; exact hK _ _ (Grow.refl _) rfl
      -- 4: indexAddr 22 t15 0:i64
      · intro w1 hg Ar seen
        obtain ⟨v3, e3, h3⟩ := seen.dep 3 (d := 15) (by kernel_rfl) (by kernel_rfl) rfl
        rcases h3 with rfl
        refine does_plain rfl fun K Q' hK => ?_
        go_simp; exact hK _ _ (Grow.refl _) rfl
      -- 5: load 31 t16
      · intro w1 hg Ar seen
        obtain ⟨v4, e4, h4⟩ := seen.dep 4 (d := 16) (by kernel_rfl) (by kernel_rfl) rfl
        rcases h4 with rfl
        refine does_plain rfl fun K Q' hK => ?_
        refine wp_load_mid 31 _ rfl g1 0 (by simp [Act.eval, e4]) (smallX false).arr.toList _ (range_later hg (fun j u hu => by rw [Nat.zero_add]; exact (OW1.out.cellAt j (by have := (List.getElem?_eq_some_iff.1 hu).1; exact this)).trans hu)) Try.underlying31 rfl qSize ?_
        exact hK _ _ (Grow.refl _) rfl
      -- 6: buildSlice 22 1 [(0, t17)]
      · intro w1 hg Ar seen
        obtain ⟨v5, e5, h5⟩ := seen.dep 5 (d := 17) (by kernel_rfl) (by kernel_rfl) rfl
        rcases h5 with rfl
        refine does_plain rfl fun K Q' hK => ?_
        refine wp_build_rq _ 31 _ rfl (smallX false) (by simp [Act.eval, e5]) iq Try.underlying22 hiq hy0 hy1 ?_
        exact hK _ _ ((Below.refl _ _).alloc (Nat.le_refl _) _) ⟨⟨_, _, _⟩, rfl, rfl, SlR.of_own (own_built (base := 0) (Nat.zero_le _) rfl (show (1 : Nat) ≤ maxLen by decide)) (show (1 : Nat) ≤ 1099511627776 by decide)⟩
  intro w1 hg
  refine upon_w' (js := [0, 1, 2, 3, 4, 5, 6]) (by rfl) ?_
  refine upon_c (x := some 12) (by kernel_rfl) rfl fun v0 h0 => ?_
  rcases h0 with rfl
  refine upon_c (x := some 13) (by kernel_rfl) rfl fun v1 h1 => ?_
  rcases h1 with rfl
  refine upon_c (x := some 14) (by kernel_rfl) rfl fun v2 h2 => ?_
  rcases h2 with rfl
  refine upon_c (x := some 15) (by kernel_rfl) rfl fun v3 h3 => ?_
  rcases h3 with rfl
  refine upon_c (x := some 16) (by kernel_rfl) rfl fun v4 h4 => ?_
  rcases h4 with rfl
  refine upon_c (x := some 17) (by kernel_rfl) rfl fun v5 h5 => ?_
  rcases h5 with rfl
  refine upon_c (x := some 18) (by kernel_rfl) rfl fun v6 h6 => ?_
  refine upon_n ?_
  obtain ⟨s1, rfl, hs1, hsr⟩ := h6
  obtain ⟨a1, n1, d1⟩ := s1
  simp only at hs1
  subst hs1
  have HSR := hid hsr
  have hg' := hg
  unfold Grow at hg'
  clear hsr hg
  have B' := hid (grow_on B.out hg')
  have OW1' := hid ((Chg.of_below hg' []).owns OW1.out (fun k _ hm => by cases hm))
  have HBK2' := hid ((hg'.block _ (block_lt HBK2.out)).trans HBK2.out)
  clear B OW1 HBK2
  have B := B'
  have OW1 := OW1'
  have HBK2 := HBK2'
  clear B' OW1' HBK2'
  clear hg'
  go_simp
  have HWB : Hid (w.heap.size ≤ w1.heap.size) := B.out.size
  go_upto_region 3 with (at_builtin; go_must (refine wpList_append_c rfl _ _ 22 rfl w.heap.size 31 iq _ 8 112 Try.underlying22 hiq hy0 hy1 hy2 rfl (by decide) (.slice (some ⟨g1, 0, none⟩) 1 c1) 1 _ rfl OW1.out _ 1 _ (rqCells [smallX false]) rfl HSR.out.rd (rq_one _) HSR.out.no (by decide) (by decide) HWB.out ?_); intro a' c' w8a hown hgw hfr; have OW2 := hid hown; have HGW := hid hgw; have hpb := ((hgw.block _ (block_lt HBK2.out) (fun he => own_ne_block OW1.out HBK2.out (by decide) he.symm)).trans HBK2.out); have HPB := hid hpb; have hq4 := cell_of_block (j := 4) hpb (qr4 _); have hfz : ∀ j, w8a.frozen? ⟨p2, j, none⟩ = false := (fun j => frozen_of_block HPB.out); clear hown hgw hfr hpb)
  obtain ⟨g2, hg2, -, -⟩ := (own_slice OW2.out).2.2 (by decide)
  subst hg2
  clear hq4 hfz
  have HNE : Hid (g2 ≠ p2) := fun he => own_ne_block OW2.out HPB.out (by decide) (by rw [← he]; rfl)
  have HG2 : Hid (w.heap.size ≤ g2) := (OW2.out.lt g2 rfl).1
  have hcb : Chg [p2] w8a (w8a.setCell ⟨p2, 4, none⟩ (.slice (some ⟨g2, 0, none⟩) 2 c')) := (Chg.refl [p2] w8a).setCell (.inl (by simp)) _
  have OW3 := hid (hcb.owns OW2.out (fun k hk hm => by have h1 := List.mem_singleton.1 hm; simp [Value.ownBlock] at hk; exact HNE.out (hk.trans h1)))
  have HPB3 : Hid ((w8a.setCell ⟨p2, 4, none⟩ (.slice (some ⟨g2, 0, none⟩) 2 c')).heap[p2]? = some (.cells (smallR 2 ⟨some ⟨g2, 0, none⟩, 2, c'⟩ [smallX false, smallX false]).arr 24 (0, 0))) := block_setCell HPB.out _
  have BX := hid ((B.out.grown HGW.out B.out.size (fun k hk => (OW1.out.lt k hk).1)).trans (hcb.below (B := w.heap.size) (fun k hk => by rw [List.mem_singleton.1 hk]; exact HPW2.out) (Nat.le_trans B.out.size HGW.out.size)))
  clear hcb B OW1 OW2 HPB HBK2 HGW HSR
  generalize w8a.setCell ⟨p2, 4, none⟩ (.slice (some ⟨g2, 0, none⟩) 2 c') = w9a at *
  have B := BX
  have HBK2 := HPB3
  have OW1 := OW3
  clear BX HPB3 OW3
  go_wp2_with (refine wpList_load_row rfl 24 _ rfl p2 rfl _ _ _ _ HBK2.out Try.underlying24 rfl vSize ?_)
  refine (layRequest_any (smallR 2 ⟨some ⟨g2, 0, none⟩, 2, c'⟩ [smallX false, smallX false]) _ (⟨SlR.of_own OW1.out (show (2 : Nat) ≤ 1099511627776 by decide), fun x hx => by simp only [smallR, List.mem_cons, List.not_mem_nil, or_false] at hx; rcases hx with rfl | rfl <;> exact smallX_ok _ _⟩ : RqV.ok _ (smallR 2 ⟨some ⟨g2, 0, none⟩, 2, c'⟩ [smallX false, smallX false])) (by first | decide | (show (1 : Nat) ≤ 1000000; decide) | (show (2 : Nat) ≤ 1000000; decide))).mono ?_
  rintro e w3 ⟨v3, rfl, hi, ho, hb⟩
  have I3 := hid hi
  have O3' := hid ho
  have B' := hid (grow_on B.out hb)
  have OW1' := hid ((Chg.of_below hb []).owns OW1.out (fun k _ hm => by cases hm))
  have HBK2' := hid ((hb.block _ (block_lt HBK2.out)).trans HBK2.out)
  clear B OW1 HBK2
  have B := B'
  have OW1 := OW1'
  have HBK2 := HBK2'
  clear B' OW1' HBK2'
  have O3 := O3'
  clear O3' hi ho hb
  go_wp2_with fail
  refine (read_any v3 _ O3.out).mono ?_
  intro e w4 hres
  have hr : readV (ItV.it v3) = .error 4 := by rw [I3.out]; kernel_rfl
  rw [hr] at hres
  obtain ⟨rfl, hb⟩ := hres
  have B' := hid (grow_on B.out hb)
  have OW1' := hid ((Chg.of_below hb []).owns OW1.out (fun k _ hm => by cases hm))
  have HBK2' := hid ((hb.block _ (block_lt HBK2.out)).trans HBK2.out)
  have O3' := hid (O3.out.below hb)
  clear B OW1 HBK2 O3
  have B := B'
  have OW1 := OW1'
  have HBK2 := HBK2'
  have O3 := O3'
  clear B' OW1' HBK2' O3'
  clear hr hb
  clear O3
  clear I3
  have HPW5 : Hid (w.heap.size ≤ w4.heap.size) := B.out.size
  have HLT5_2 : Hid (p2 < w4.heap.size) := block_lt HBK2.out
  go_upto_region 4 with (first | (refine wpList_alloc_obj rfl 24 rfl _ vZero ?_) | (refine wpList_store_obj rfl 24 _ _ rfl w4.heap.size rfl rvZ.arr rfl _ _ (block_new w4 _) rfl vSize (varr_one _) ?_; intro w5 hb hc hs; have HBK5 := hid hb; have HCK5 := hid hc; clear hb hc hs))
  have hbel : Below w4.heap.size w4 w5 := ((Below.refl _ w4).alloc (Nat.le_refl _) _).trans (HCK5.out.below (fun k hk => by rw [List.mem_singleton.1 hk]; exact Nat.le_refl _) (by simp))
  have B' := hid (grow_on B.out hbel)
  have OW1' := hid ((Chg.of_below hbel []).owns OW1.out (fun k _ hm => by cases hm))
  have HBK2' := hid ((hbel.block _ (block_lt HBK2.out)).trans HBK2.out)
  clear B OW1 HBK2
  have B := B'
  have OW1 := OW1'
  have HBK2 := HBK2'
  clear B' OW1' HBK2'
  clear HCK5 hbel
  generalize w4.heap.size = p5 at *
  clear HBK5
  have hc4 := cell_of_block (j := 4) HBK2.out (qr4 _)
  simp only [smallR] at hc4
  have hcj : w5.cell? ⟨g2, 1, none⟩ = some (.bool false) := (OW1.out.cellAt 1 (by decide)).trans (by kernel_rfl)
  have hfz : ∀ j, w5.frozen? ⟨g2, j, none⟩ = false := fun j => OW1.out.frozenAt j
  go_upto_region 5 with (fail)
  clear hc4 hcj hfz
  have OW2 := hid (OW1.out.stored 1 (.bool true)).1
  have HP2 : Hid ((w5.setCell ⟨g2, 1, none⟩ (.bool true)).heap[p2]? = some (.cells (smallR 2 ⟨some ⟨g2, 0, none⟩, 2, c'⟩ [smallX true, smallX false]).arr 24 (0, 0))) := by show _ = _; rw [block_setCell_other (Ne.symm HNE.out)]; exact HBK2.out
  have B2 := hid (B.out.setCell (p := ⟨g2, 1, none⟩) HG2.out (.bool true))
  clear OW1 HBK2 B
  generalize w5.setCell ⟨g2, 1, none⟩ (.bool true) = wb6 at *
  have B := B2; have HBK2 := HP2; have OW1 := OW2
  clear B2 HP2 OW2
  have hc4 := cell_of_block (j := 4) HBK2.out (qr4 _)
  simp only [smallR] at hc4
  have hcj : wb6.cell? ⟨g2, 9, none⟩ = some (.bool false) := (OW1.out.cellAt 9 (by decide)).trans (by kernel_rfl)
  have hfz : ∀ j, wb6.frozen? ⟨g2, j, none⟩ = false := fun j => OW1.out.frozenAt j
  go_upto_region 6 with (fail)
  clear hc4 hcj hfz
  have OW2 := hid (OW1.out.stored 9 (.bool true)).1
  have HP2 : Hid ((wb6.setCell ⟨g2, 9, none⟩ (.bool true)).heap[p2]? = some (.cells (smallR 2 ⟨some ⟨g2, 0, none⟩, 2, c'⟩ [smallX true, smallX true]).arr 24 (0, 0))) := by show _ = _; rw [block_setCell_other (Ne.symm HNE.out)]; exact HBK2.out
  have B2 := hid (B.out.setCell (p := ⟨g2, 9, none⟩) HG2.out (.bool true))
  clear OW1 HBK2 B
  generalize wb6.setCell ⟨g2, 9, none⟩ (.bool true) = wb7 at *
  have B := B2; have HBK2 := HP2; have OW1 := OW2
  clear B2 HP2 OW2
  have OW2 : Hid (World.ownsRow wb7 w.heap.size 31 8 (.slice (some ⟨g2, 0, none⟩) 2 c') 2 (rqCells [smallX true, smallX true])) := OW1.out
  clear OW1
  have OW1 := OW2
  clear OW2
  go_wp2_with (refine wpList_load_row rfl 24 _ rfl p2 rfl _ _ _ _ HBK2.out Try.underlying24 rfl vSize ?_)
  refine (layRequest_any (smallR 2 ⟨some ⟨g2, 0, none⟩, 2, c'⟩ [smallX true, smallX true]) _ (⟨SlR.of_own OW1.out (show (2 : Nat) ≤ 1099511627776 by decide), fun x hx => by simp only [smallR, List.mem_cons, List.not_mem_nil, or_false] at hx; rcases hx with rfl | rfl <;> exact smallX_ok _ _⟩ : RqV.ok _ (smallR 2 ⟨some ⟨g2, 0, none⟩, 2, c'⟩ [smallX true, smallX true])) (by first | decide | (show (1 : Nat) ≤ 1000000; decide) | (show (2 : Nat) ≤ 1000000; decide))).mono ?_
  rintro e w8 ⟨v8, rfl, hi, ho, hb⟩
  have I8 := hid hi
  have O8' := hid ho
  have B' := hid (grow_on B.out hb)
  have OW1' := hid ((Chg.of_below hb []).owns OW1.out (fun k _ hm => by cases hm))
  have HBK2' := hid ((hb.block _ (block_lt HBK2.out)).trans HBK2.out)
  clear B OW1 HBK2
  have B := B'
  have OW1 := OW1'
  have HBK2 := HBK2'
  clear B' OW1' HBK2'
  have O8 := O8'
  clear O8' hi ho hb
  go_wp2_with fail
  refine (read_any v8 _ O8.out).mono ?_
  intro e w9 hres
  have hr : readV (ItV.it v8) = .ok twoQ := by rw [I8.out]; kernel_rfl
  rw [hr] at hres
  obtain ⟨q9, rfl, hq, hqo, hb⟩ := hres
  have EQ9 := hid hq; have QO9' := hid hqo
  have B' := hid (grow_on B.out hb)
  have OW1' := hid ((Chg.of_below hb []).owns OW1.out (fun k _ hm => by cases hm))
  have HBK2' := hid ((hb.block _ (block_lt HBK2.out)).trans HBK2.out)
  have O8' := hid (O8.out.below hb)
  clear B OW1 HBK2 O8
  have B := B'
  have OW1 := OW1'
  have HBK2 := HBK2'
  have O8 := O8'
  clear B' OW1' HBK2' O8'
  have QO9 := QO9'
  clear QO9' hq hqo hr hb
  clear O8 OW1 HBK2
  clear I8
  have HPW10 : Hid (w.heap.size ≤ w9.heap.size) := B.out.size
  go_upto_region 7 with (first | (refine wpList_alloc_obj rfl 24 rfl _ vZero ?_) | (refine wpList_store_obj rfl 24 _ _ rfl w9.heap.size rfl q9.arr rfl _ _ (block_new w9 _) rfl vSize (varr_one _) ?_; intro w10 hb hc hs; have HBK10 := hid hb; have HCK10 := hid hc; clear hb hc hs))
  have hbel : Below w9.heap.size w9 w10 := ((Below.refl _ w9).alloc (Nat.le_refl _) _).trans (HCK10.out.below (fun k hk => by rw [List.mem_singleton.1 hk]; exact Nat.le_refl _) (by simp))
  have B' := hid (grow_on B.out hbel)
  have QO9' := hid (QO9.out.below hbel)
  clear B QO9
  have B := B'
  have QO9 := QO9'
  clear B' QO9'
  clear HCK10 hbel
  generalize w9.heap.size = p10 at *
  have HQN : Hid (q9.its.n = 2) := by
    have h1 := congrArg (fun q : Rq => q.items.length) EQ9.out
    have h2 := QO9.out.its.qlen
    simp only [RqV.rq, List.length_map] at h1
    show _ = _
    rw [← h2, h1]; rfl
  clear QO9
  clear EQ9
  go_wp2_with fail
  refine (small_any _).mono ?_
  rintro e w11 ⟨g3, c3, rfl, ho, hb⟩
  have HOX := hid (ownsRow_base ho (fun k hk => Nat.le_trans B.out.size (ho.lt k hk).1))
  have B' := hid (grow_on B.out hb)
  have HBK10' := hid ((hb.block _ (block_lt HBK10.out)).trans HBK10.out)
  clear B HBK10
  have B := B'
  have HBK10 := HBK10'
  clear B' HBK10'
  have OW3 := HOX
  clear HOX ho hb
  have HPW12 : Hid (w.heap.size ≤ w11.heap.size) := B.out.size
  have HLT12_10 : Hid (p10 < w11.heap.size) := block_lt HBK10.out
  go_upto_region 8 with (first | (refine wpList_alloc_obj rfl 24 rfl _ vZero ?_) | (refine wpList_store_obj rfl 24 _ _ rfl w11.heap.size rfl (smallR 2 ⟨some ⟨g3, 0, none⟩, 1, c3⟩ [smallX false]).arr rfl _ _ (block_new w11 _) rfl vSize (varr_one _) ?_; intro w12 hb hc hs; have HBK12 := hid hb; have HCK12 := hid hc; clear hb hc hs))
  have hbel : Below w11.heap.size w11 w12 := ((Below.refl _ w11).alloc (Nat.le_refl _) _).trans (HCK12.out.below (fun k hk => by rw [List.mem_singleton.1 hk]; exact Nat.le_refl _) (by simp))
  have B' := hid (grow_on B.out hbel)
  have HBK10' := hid ((hbel.block _ (block_lt HBK10.out)).trans HBK10.out)
  have OW3' := hid ((Chg.of_below hbel []).owns OW3.out (fun k _ hm => by cases hm))
  clear B HBK10 OW3
  have B := B'
  have HBK10 := HBK10'
  have OW3 := OW3'
  clear B' HBK10' OW3'
  clear HCK12 hbel
  generalize w11.heap.size = p12 at *
  have hc3 := cell_of_block (j := 3) HBK12.out (qr3 _)
  have hfz : ∀ j, w12.frozen? ⟨p12, j, none⟩ = false := fun j => frozen_of_block HBK12.out
  have HNE6 : Hid (g3 ≠ p12) := fun he => own_ne_block OW3.out HBK12.out (by decide) (by rw [← he]; rfl)
  have HNE4 : Hid (p12 ≠ p10) := by have := HLT12_10.out; show p12 ≠ p10; omega
  go_upto_region 9 with (fail)
  clear hc3 hfz
  have hcb : Chg [p12] w12 (w12.setCell ⟨p12, 3, none⟩ (.int .i64 4)) := (Chg.refl [p12] w12).setCell (.inl (by simp)) _
  have OWN := hid (hcb.owns OW3.out (fun k hk hm => by have h1 := List.mem_singleton.1 hm; simp [Value.ownBlock] at hk; exact HNE6.out (hk.trans h1)))
  have HP2 : Hid ((w12.setCell ⟨p12, 3, none⟩ (.int .i64 4)).heap[p12]? = some (.cells (smallR 4 ⟨some ⟨g3, 0, none⟩, 1, c3⟩ [smallX false]).arr 24 (0, 0))) := block_setCell HBK12.out _
  have HP4 : Hid ((w12.setCell ⟨p12, 3, none⟩ (.int .i64 4)).heap[p10]? = some (.cells q9.arr 24 (0, 0))) := (hcb.block _ (block_lt HBK10.out) (fun hm => HNE4.out (List.mem_singleton.1 hm).symm)).trans HBK10.out
  have B2 := hid (B.out.setCell (p := ⟨p12, 3, none⟩) HPW12.out (.int .i64 4))
  clear OW3 HBK12 B HBK10 hcb
  generalize w12.setCell ⟨p12, 3, none⟩ (.int .i64 4) = wo at *
  have B := B2; have HBK12 := HP2; have OW3 := OWN; have HBK10 := HP4
  clear B2 HP2 OWN HP4
  go_wp2_with (refine wpList_load_row rfl 24 _ rfl p12 rfl _ _ _ _ HBK12.out Try.underlying24 rfl vSize ?_)
  refine (layRequest_any (smallR 4 ⟨some ⟨g3, 0, none⟩, 1, c3⟩ [smallX false]) _ (⟨SlR.of_own OW3.out (show (1 : Nat) ≤ 1099511627776 by decide), fun x hx => by rw [List.mem_singleton.1 hx]; exact smallX_ok _ _⟩ : RqV.ok _ (smallR 4 ⟨some ⟨g3, 0, none⟩, 1, c3⟩ [smallX false])) (by first | decide | (show (1 : Nat) ≤ 1000000; decide) | (show (2 : Nat) ≤ 1000000; decide))).mono ?_
  rintro e w13 ⟨v13, rfl, hi, ho, hb⟩
  have I13 := hid hi
  have O13' := hid ho
  have B' := hid (grow_on B.out hb)
  have HBK10' := hid ((hb.block _ (block_lt HBK10.out)).trans HBK10.out)
  have OW3' := hid ((Chg.of_below hb []).owns OW3.out (fun k _ hm => by cases hm))
  have HBK12' := hid ((hb.block _ (block_lt HBK12.out)).trans HBK12.out)
  clear B HBK10 OW3 HBK12
  have B := B'
  have HBK10 := HBK10'
  have OW3 := OW3'
  have HBK12 := HBK12'
  clear B' HBK10' OW3' HBK12'
  have O13 := O13'
  clear O13' hi ho hb
  go_wp2_with fail
  refine (read_any v13 _ O13.out).mono ?_
  intro e w14 hres
  have hr : readV (ItV.it v13) = .error 4 := by rw [I13.out]; kernel_rfl
  rw [hr] at hres
  obtain ⟨rfl, hb⟩ := hres
  have B' := hid (grow_on B.out hb)
  have HBK10' := hid ((hb.block _ (block_lt HBK10.out)).trans HBK10.out)
  have OW3' := hid ((Chg.of_below hb []).owns OW3.out (fun k _ hm => by cases hm))
  have HBK12' := hid ((hb.block _ (block_lt HBK12.out)).trans HBK12.out)
  have O13' := hid (O13.out.below hb)
  clear B HBK10 OW3 HBK12 O13
  have B := B'
  have HBK10 := HBK10'
  have OW3 := OW3'
  have HBK12 := HBK12'
  have O13 := O13'
  clear B' HBK10' OW3' HBK12' O13'
  clear hr hb
  clear O13
  clear I13
  have HPW15 : Hid (w.heap.size ≤ w14.heap.size) := B.out.size
  have HLT15_10 : Hid (p10 < w14.heap.size) := block_lt HBK10.out
  have HLT15_12 : Hid (p12 < w14.heap.size) := block_lt HBK12.out
  go_upto_region 10 with (first | (refine wpList_alloc_obj rfl 24 rfl _ vZero ?_) | (refine wpList_store_obj rfl 24 _ _ rfl w14.heap.size rfl rvZ.arr rfl _ _ (block_new w14 _) rfl vSize (varr_one _) ?_; intro w15 hb hc hs; have HBK15 := hid hb; have HCK15 := hid hc; clear hb hc hs))
  have hbel : Below w14.heap.size w14 w15 := ((Below.refl _ w14).alloc (Nat.le_refl _) _).trans (HCK15.out.below (fun k hk => by rw [List.mem_singleton.1 hk]; exact Nat.le_refl _) (by simp))
  have B' := hid (grow_on B.out hbel)
  have HBK10' := hid ((hbel.block _ (block_lt HBK10.out)).trans HBK10.out)
  have OW3' := hid ((Chg.of_below hbel []).owns OW3.out (fun k _ hm => by cases hm))
  have HBK12' := hid ((hbel.block _ (block_lt HBK12.out)).trans HBK12.out)
  clear B HBK10 OW3 HBK12
  have B := B'
  have HBK10 := HBK10'
  have OW3 := OW3'
  have HBK12 := HBK12'
  clear B' HBK10' OW3' HBK12'
  clear HCK15 hbel
  generalize w14.heap.size = p15 at *
  clear HBK15
  go_wp2_with (refine wpList_build_obj rfl 29 _ rfl #[(0, .int .i64 4325499), (1, .int .i64 1)] rfl _ (iBuild2 _ _ _) ?_)
  refine (read_any ({ tag := 4325499, typ := 1 } : ItV) _ (ItV.ok.zero _ _ _ _)).mono ?_
  intro e w16 hres
  have hr : readV (ItV.it ({ tag := 4325499, typ := 1 } : ItV)) = .error 4 := by rw [it_flat]; kernel_rfl
  rw [hr] at hres
  obtain ⟨rfl, hb⟩ := hres
  have B' := hid (grow_on B.out hb)
  have HBK10' := hid ((hb.block _ (block_lt HBK10.out)).trans HBK10.out)
  have OW3' := hid ((Chg.of_below hb []).owns OW3.out (fun k _ hm => by cases hm))
  have HBK12' := hid ((hb.block _ (block_lt HBK12.out)).trans HBK12.out)
  clear B HBK10 OW3 HBK12
  have B := B'
  have HBK10 := HBK10'
  have OW3 := OW3'
  have HBK12 := HBK12'
  clear B' HBK10' OW3' HBK12'
  clear hr hb
  have HPW17 : Hid (w.heap.size ≤ w16.heap.size) := B.out.size
  have HLT17_10 : Hid (p10 < w16.heap.size) := block_lt HBK10.out
  have HLT17_12 : Hid (p12 < w16.heap.size) := block_lt HBK12.out
  go_upto_region 11 with (first | (refine wpList_alloc_obj rfl 24 rfl _ vZero ?_) | (refine wpList_store_obj rfl 24 _ _ rfl w16.heap.size rfl rvZ.arr rfl _ _ (block_new w16 _) rfl vSize (varr_one _) ?_; intro w17 hb hc hs; have HBK17 := hid hb; have HCK17 := hid hc; clear hb hc hs))
  have hbel : Below w16.heap.size w16 w17 := ((Below.refl _ w16).alloc (Nat.le_refl _) _).trans (HCK17.out.below (fun k hk => by rw [List.mem_singleton.1 hk]; exact Nat.le_refl _) (by simp))
  have B' := hid (grow_on B.out hbel)
  have HBK10' := hid ((hbel.block _ (block_lt HBK10.out)).trans HBK10.out)
  have OW3' := hid ((Chg.of_below hbel []).owns OW3.out (fun k _ hm => by cases hm))
  have HBK12' := hid ((hbel.block _ (block_lt HBK12.out)).trans HBK12.out)
  clear B HBK10 OW3 HBK12
  have B := B'
  have HBK10 := HBK10'
  have OW3 := OW3'
  have HBK12 := HBK12'
  clear B' HBK10' OW3' HBK12'
  clear HCK17 hbel
  generalize w16.heap.size = p17 at *
  clear HBK17
  go_wp2_with fail
  refine (known16_any _).mono ?_
  rintro e w18 ⟨rfl, hb⟩
  have B' := hid (grow_on B.out hb)
  have HBK10' := hid ((hb.block _ (block_lt HBK10.out)).trans HBK10.out)
  have OW3' := hid ((Chg.of_below hb []).owns OW3.out (fun k _ hm => by cases hm))
  have HBK12' := hid ((hb.block _ (block_lt HBK12.out)).trans HBK12.out)
  clear B HBK10 OW3 HBK12
  have B := B'
  have HBK10 := HBK10'
  have OW3 := OW3'
  have HBK12 := HBK12'
  clear B' HBK10' OW3' HBK12'
  clear hb
  have hq4 := cell_of_block (j := 4) HBK10.out (qr4 _)
  rw [HQN.out] at hq4
  go_wp2_with fail
  clear hq4
  refine (small_any _).mono ?_
  rintro e w19 ⟨g5, c5, rfl, ho, hb⟩
  have HSO : Hid (RqV.ok w19 (smallR 2 ⟨some ⟨g5, 0, none⟩, 1, c5⟩ [smallX false])) := ⟨SlR.of_own ho (show (1 : Nat) ≤ 1099511627776 by decide), fun x hx => by rw [List.mem_singleton.1 hx]; exact smallX_ok _ _⟩
  have B' := hid (grow_on B.out hb)
  have HBK10' := hid ((hb.block _ (block_lt HBK10.out)).trans HBK10.out)
  have OW3' := hid ((Chg.of_below hb []).owns OW3.out (fun k _ hm => by cases hm))
  have HBK12' := hid ((hb.block _ (block_lt HBK12.out)).trans HBK12.out)
  clear B HBK10 OW3 HBK12
  have B := B'
  have HBK10 := HBK10'
  have OW3 := OW3'
  have HBK12 := HBK12'
  clear B' HBK10' OW3' HBK12'
  clear ho hb
  go_wp2_with fail
  refine (Right_any _ _ HSO.out).mono ?_
  rintro e w20 ⟨rfl, hb⟩
  have B' := hid (grow_on B.out hb)
  have HBK10' := hid ((hb.block _ (block_lt HBK10.out)).trans HBK10.out)
  have OW3' := hid ((Chg.of_below hb []).owns OW3.out (fun k _ hm => by cases hm))
  have HBK12' := hid ((hb.block _ (block_lt HBK12.out)).trans HBK12.out)
  clear B HBK10 OW3 HBK12
  have B := B'
  have HBK10 := HBK10'
  have OW3 := OW3'
  have HBK12 := HBK12'
  clear B' HBK10' OW3' HBK12'
  clear hb
  have hrt : rightV (smallR 2 ⟨some ⟨g5, 0, none⟩, 1, c5⟩ [smallX false]).rq = true := by kernel_rfl
  rw [hrt]
  clear hrt HSO
  go_wp2_with (refine wpList_load_on rfl 24 _ rfl p12 rfl _ _ _ _ HBK12.out Try.underlying24 rfl vSize ?_)
  refine (Right_any _ _ (⟨SlR.of_own OW3.out (show (1 : Nat) ≤ 1099511627776 by decide), fun x hx => by rw [List.mem_singleton.1 hx]; exact smallX_ok _ _⟩ : RqV.ok _ (smallR 4 ⟨some ⟨g3, 0, none⟩, 1, c3⟩ [smallX false]))).mono ?_
  rintro e w21 ⟨rfl, hb⟩
  have B' := hid (grow_on B.out hb)
  have HBK10' := hid ((hb.block _ (block_lt HBK10.out)).trans HBK10.out)
  have OW3' := hid ((Chg.of_below hb []).owns OW3.out (fun k _ hm => by cases hm))
  have HBK12' := hid ((hb.block _ (block_lt HBK12.out)).trans HBK12.out)
  clear B HBK10 OW3 HBK12
  have B := B'
  have HBK10 := HBK10'
  have OW3 := OW3'
  have HBK12 := HBK12'
  clear B' HBK10' OW3' HBK12'
  clear hb
  have hrt : rightV (smallR 4 ⟨some ⟨g3, 0, none⟩, 1, c3⟩ [smallX false]).rq = false := by kernel_rfl
  rw [hrt]
  clear hrt
  go_wp2_with fail
  refine (Right_any rvZ _ ⟨SlR.nil _ 8, fun x hx => by cases hx⟩).mono ?_
  rintro e w22 ⟨rfl, hb⟩
  have B' := hid (grow_on B.out hb)
  have HBK10' := hid ((hb.block _ (block_lt HBK10.out)).trans HBK10.out)
  have OW3' := hid ((Chg.of_below hb []).owns OW3.out (fun k _ hm => by cases hm))
  have HBK12' := hid ((hb.block _ (block_lt HBK12.out)).trans HBK12.out)
  clear B HBK10 OW3 HBK12
  have B := B'
  have HBK10 := HBK10'
  have OW3 := OW3'
  have HBK12 := HBK12'
  clear B' HBK10' OW3' HBK12'
  clear hb
  have hrt : rightV rvZ.rq = false := by kernel_rfl
  rw [hrt]
  clear hrt
  go_wp2_with fail
  go_ret
  exact ⟨rfl, B.out⟩
end Go.Proofs.Ytpcghjhalndbkaa
