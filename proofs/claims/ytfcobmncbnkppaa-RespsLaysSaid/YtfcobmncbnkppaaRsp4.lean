/- resps: Undo, Whole. -/
import Derived.Test.YtfcobmncbnkppaaRsp3
namespace Go.Proofs.Ytfcobmncbnkppaa
open Go.RowKit
set_option linter.unusedVariables false
set_option linter.unusedSimpArgs false
set_option maxRecDepth 100000
set_option maxHeartbeats 3200000
theorem Undo_any (q : RqIV) (w : World) (hq : SlC w q.ids (q.id.map B8)) : Calls Try.prog 16 #[.agg q.arr] w fun e w' => ∃ v : RsIV, e = .returned (.agg v.arr) ∧ v.rq = undoP q.rq ∧ v.ok w' ∧ Below w.heap.size w w' := by
  obtain ⟨ib, hib, hb0, hb1, hb2⟩ := info_parts oInfoB
  have HQ := hid hq
  have hqm := hq.sm
  have HQL := hid hq.lenB
  clear hq
  generalize hbe : w.heap.size = b
  have HBE := hid hbe; clear hbe
  go_enter Try.func16, Try.ntmps16
  go_upto_region 1 with (refine wpList_alloc_obj rfl 44 rfl _ sZero ?_)
  go_simp
  have B0 := hid (Bx2.start (T := 42) (T' := 44) (cs := q.arr) (zs := rsZ.arr) (w := w) HBE.out)
  rw [HBE.out]
  have HQ0 := hid (HQ.out.below (((Below.refl _ w).alloc (Nat.le_refl _) (.cells q.arr 42)).alloc (by simp) (.cells rsZ.arr 44)))
  generalize (w.alloc (.cells q.arr 42)).alloc (.cells rsZ.arr 44) = W at *
  clear HQ
  obtain ⟨z, hzw⟩ : ∃ z, z = W.heap.size := ⟨_, rfl⟩
  have HZW := hid hzw
  have HBZ : Hid (b + 2 ≤ z) := by show _ ≤ _; rw [hzw]; exact B0.out.size
  clear hzw
  refine wp_region_each 9 [.eq (.pointer (some ⟨b, 0, none⟩)), .eq (.int .i64 q.op), .eq (.pointer (some ⟨b, 1, none⟩)), .eq (.bool q.has), stEmptyB 5 z, .eq (.pointer (some ⟨b, 2, none⟩)), .eq (.slice q.ids.a q.ids.n q.ids.c), stRowB 5 z q.ids.n (q.id.map B8), stRsI 5 z q.ids.n (q.id.map B8) (fun s => { op := q.op, hasOp := true, hasId := q.has, id := q.id, ids := s, status := 3 })] (by kernel_rfl) (by kernel_rfl) (by kernel_rfl) (by kernel_rfl) ?_ ?_
  · as_aux_lemma =>
      refine each_c (o' := _) ?_ (each_c (o' := _) ?_ (each_c (o' := _) ?_ (each_c (o' := _) ?_ (each_c (o' := _) ?_ (each_c (o' := _) ?_ (each_c (o' := _) ?_ (each_c (o' := _) ?_ (each_c (o' := _) ?_ (each_n)))))))))
      -- 0: fieldAddr 42 t1 0
      · intro w1 hg Ar seen
        have s1 := seen.slot 1 (v := .pointer (some ⟨b, 0, none⟩)) (by kernel_rfl) rfl
        refine does_plain rfl fun K Q' hK => ?_
        go_simp; exact hK _ _ (Grow.refl _) rfl
      -- 1: load 3 t3
      · intro w1 hg Ar seen
        obtain ⟨v0, e0, h0⟩ := seen.dep 0 (d := 3) (by kernel_rfl) (by kernel_rfl) rfl
        rcases h0 with rfl
        refine does_plain rfl fun K Q' hK => ?_
        have hc := cell_of_block (j := 0) ((hg.block _ (block_lt B0.out.box)).trans B0.out.box) (xr0 q)
        go_simp; exact hK _ _ (Grow.refl _) rfl
      -- 2: fieldAddr 42 t1 1
      · intro w1 hg Ar seen
        have s1 := seen.slot 1 (v := .pointer (some ⟨b, 0, none⟩)) (by kernel_rfl) rfl
        refine does_plain rfl fun K Q' hK => ?_
        go_simp; exact hK _ _ (Grow.refl _) rfl
      -- 3: load 4 t5
      · intro w1 hg Ar seen
        obtain ⟨v2, e2, h2⟩ := seen.dep 2 (d := 5) (by kernel_rfl) (by kernel_rfl) rfl
        rcases h2 with rfl
        refine does_plain rfl fun K Q' hK => ?_
        have hc := cell_of_block (j := 1) ((hg.block _ (block_lt B0.out.box)).trans B0.out.box) (xr1 q)
        go_simp; exact hK _ _ (Grow.refl _) rfl
      -- 4: buildSlice 24 0 []
      · intro w1 hg Ar seen
        refine does_plain rfl fun K Q' hK => ?_
        go_simp
        exact hK _ _ ((Below.refl _ _).alloc (Nat.le_refl _) _) ⟨_, rfl, block_new _ _, Nat.le_trans (Nat.le_of_eq HZW.out) hg.size⟩
      -- 5: fieldAddr 42 t1 2
      · intro w1 hg Ar seen
        have s1 := seen.slot 1 (v := .pointer (some ⟨b, 0, none⟩)) (by kernel_rfl) rfl
        refine does_plain rfl fun K Q' hK => ?_
        go_simp; exact hK _ _ (Grow.refl _) rfl
      -- 6: load 24 t8
      · intro w1 hg Ar seen
        obtain ⟨v5, e5, h5⟩ := seen.dep 5 (d := 8) (by kernel_rfl) (by kernel_rfl) rfl
        rcases h5 with rfl
        refine does_plain rfl fun K Q' hK => ?_
        have hc := cell_of_block (j := 2) ((hg.block _ (block_lt B0.out.box)).trans B0.out.box) (xr2 q)
        go_simp; exact hK _ _ (Grow.refl _) rfl
      -- 7: call append [t7, t9] T[24, 24]
      · intro w1 hg Ar seen
        obtain ⟨v4, e4, h4⟩ := seen.dep 4 (d := 7) (by kernel_rfl) (by kernel_rfl) rfl
        obtain ⟨v6, e6, h6⟩ := seen.dep 6 (d := 9) (by kernel_rfl) (by kernel_rfl) rfl
        rcases h6 with rfl
        refine does_plain rfl fun K Q' hK => ?_
        obtain ⟨g, rfl, hgc, hgb⟩ := h4
        refine wp_append_empty _ _ 24 rfl z 5 ib _ 1 1 Try.underlying24 hib hb0 hb1 hb2 rfl (by decide) g (by simp [Act.eval, e4]) hgc hgb q.ids.a q.ids.n q.ids.c (q.id.map B8) (by simp [Act.eval, e6]) (by rw [Nat.mul_one]; exact (HQ0.out.below hg).rd) (B8s_one _) (HQ0.out.no) (by unfold maxLen; omega) (by omega) ?_
        intro a' c' w' hown hb
        exact hK _ _ hb ⟨a', c', rfl, hown⟩
      -- 8: build 44 [(0, t4), (1, true), (2, t6), (3, t10), (4, 3:i64)]
      · intro w1 hg Ar seen
        obtain ⟨v1, e1, h1⟩ := seen.dep 1 (d := 4) (by kernel_rfl) (by kernel_rfl) rfl
        rcases h1 with rfl
        obtain ⟨v3, e3, h3⟩ := seen.dep 3 (d := 6) (by kernel_rfl) (by kernel_rfl) rfl
        rcases h3 with rfl
        obtain ⟨v7, e7, h7⟩ := seen.dep 7 (d := 10) (by kernel_rfl) (by kernel_rfl) rfl
        refine does_plain rfl fun K Q' hK => ?_
        obtain ⟨a', c', rfl, hown⟩ := h7
        refine wp_build_obj 44 _ rfl #[(0, .int .i64 q.op), (1, .bool true), (2, .bool q.has), (3, .slice a' q.ids.n c'), (4, .int .i64 3)] (by simp [Act.eval, e1, e3, e7]) _ (sBuildUndo q.op q.has ⟨a', q.ids.n, c'⟩ q.id _) ?_
        exact hK _ _ (Grow.refl _) ⟨a', c', rfl, hown⟩
  intro w1 hg
  refine upon_w' (js := [0, 1, 2, 3, 4, 5, 6, 7, 8]) (by rfl) ?_
  refine upon_c (x := some 3) (by kernel_rfl) rfl fun v0 h0 => ?_
  rcases h0 with rfl
  refine upon_c (x := some 4) (by kernel_rfl) rfl fun v1 h1 => ?_
  rcases h1 with rfl
  refine upon_c (x := some 5) (by kernel_rfl) rfl fun v2 h2 => ?_
  rcases h2 with rfl
  refine upon_c (x := some 6) (by kernel_rfl) rfl fun v3 h3 => ?_
  rcases h3 with rfl
  refine upon_c (x := some 7) (by kernel_rfl) rfl fun v4 h4 => ?_
  refine upon_c (x := some 8) (by kernel_rfl) rfl fun v5 h5 => ?_
  rcases h5 with rfl
  refine upon_c (x := some 9) (by kernel_rfl) rfl fun v6 h6 => ?_
  rcases h6 with rfl
  refine upon_c (x := some 10) (by kernel_rfl) rfl fun v7 h7 => ?_
  refine upon_c (x := some 11) (by kernel_rfl) rfl fun v8 h8 => ?_
  refine upon_n ?_
  obtain ⟨a', c', rfl, hown⟩ := h8
  have HOW := hid hown
  have B1 := hid (B0.out.below hg)
  clear hown hg h4 h7 B0 HQ0
  go_simp
  go_wp2_with (refine wpList_store_obj rfl 44 _ _ rfl (b + 1) rfl (RsIV.arr { op := q.op, hasOp := true, hasId := q.has, id := q.id, ids := ⟨a', q.ids.n, c'⟩, status := 3 }) rfl _ _ B1.out.res rfl sSize (sarr_one _) ?_; intro w10 hb10 hc10 hs10; have HB10 := hid hb10; have HC10 := hid hc10; clear hb10 hc10 hs10)
  refine bodyPost_ret (results_cell_row rfl _ _ (b + 1) _ _ _ _ rfl HB10.out Try.underlying44 rfl sSize) rfl ?_
  have ho10 := HC10.out.owns HOW.out (fun k hk hm => by have := (HOW.out.lt k hk).1; have := List.mem_singleton.1 hm; have := HBZ.out; omega)
  exact ⟨_, rfl, by unfold undoP RsIV.rq; rw [show ItV.it {} = {} from it_flat 0 0 0 [] {}]; rfl, ⟨SlC.of_own ho10 hqm, ItV.ok.zero _ _ _ _⟩, B1.out.done HC10.out⟩
theorem Whole_any (t r : Int) (w : World) : Calls Try.prog 42 #[.int .i64 t, .int .i64 r] w fun e w' => ∃ v : RsV, e = .returned (.agg v.arr) ∧ v.rq = wholeP t r ∧ v.ok w' ∧ v.its.n = 1 ∧ Below w.heap.size w w' := by
  obtain ⟨iq, hiq, hy0, hy1, hy2⟩ := info_parts sInfo
  generalize hbe : w.heap.size = b
  have HBE := hid hbe; clear hbe
  go_enter Try.func42, Try.ntmps42
  go_upto_region 1 with (refine wpList_alloc_obj rfl 31 rfl _ pZero ?_)
  go_simp
  have hbw : Below w.heap.size w (w.alloc (.cells rpZ.arr 31)) := (Below.refl _ _).alloc (Nat.le_refl _) _
  have hb0 := block_new w (.cells rpZ.arr 31)
  have hsz : (w.alloc (.cells rpZ.arr 31)).heap.size = w.heap.size + 1 := by simp
  rw [HBE.out] at hbw hb0 hsz ⊢
  have HBW := hid hbw; have HB0 := hid hb0; have HSZ := hid hsz
  clear hbw hb0 hsz
  generalize w.alloc (.cells rpZ.arr 31) = W at *
  go_wp2_with fail
  refine (word_any r _).mono ?_
  rintro e w2 ⟨rfl, rfl⟩
  obtain ⟨m, hm⟩ : ∃ m, wordS r = m := ⟨_, rfl⟩
  rw [hm]
  have HM := hid hm
  clear hm
  have HB1 : Hid ((W.alloc (.cells (RsIV.arr { status := 1, reason := r, msg := m }) 44)).heap[b]? = some (.cells rpZ.arr 31 (0, 0))) := by show _ = _; rw [heap_alloc_old _ _ (block_lt HB0.out)]; exact HB0.out
  go_wp2_with (first | (refine wpList_build_obj rfl 44 _ rfl #[(4, .int .i64 1), (5, .int .i64 r), (6, .string m)] rfl _ (sBuildWhole r m _) ?_) | (refine wpList_build_rs rfl 29 44 _ rfl { status := 1, reason := r, msg := m } rfl iq Try.underlying29 hiq hy0 hy1 ?_) | (refine wpList_build_obj rfl 31 _ rfl #[(0, .int .i64 t), (1, .slice (some ⟨W.heap.size, 0, none⟩) 1 1)] rfl _ (pBuild t ⟨some ⟨W.heap.size, 0, none⟩, 1, 1⟩ [{ status := 1, reason := r, msg := m }] _) ?_) | (refine wpList_store_obj rfl 31 _ _ rfl b rfl (RsV.arr { time := t, its := ⟨some ⟨W.heap.size, 0, none⟩, 1, 1⟩, items := [{ status := 1, reason := r, msg := m }] }) rfl _ _ HB1.out rfl pSize (parr_one _) ?_; intro w10 hb10 hc10 hs10; have HB10 := hid hb10; have HC10 := hid hc10; clear hb10 hc10 hs10))
  refine bodyPost_ret (results_cell_row rfl _ _ b _ _ _ _ rfl HB10.out Try.underlying31 rfl pSize) rfl ?_
  have ho : (W.alloc (.cells (RsIV.arr { status := 1, reason := r, msg := m }) 44)).ownsRow b 44 13 (.slice (some ⟨W.heap.size, 0, none⟩) 1 1) 1 (rsCells [{ status := 1, reason := r, msg := m }]) := by
    have h := own_built (w := W) (T := 44) (base := b) (size := 13) (n := 1) (C := RsIV.arr { status := 1, reason := r, msg := m }) (by rw [HSZ.out]; omega) rfl (by decide)
    simpa [rsCells, RsIV.cells] using h
  have ho10 := HC10.out.owns ho (fun k hk hm => by simp [Value.ownBlock] at hk; have := List.mem_singleton.1 hm; have := HSZ.out; omega)
  refine ⟨{ time := t, its := ⟨some ⟨W.heap.size, 0, none⟩, 1, 1⟩, items := [{ status := 1, reason := r, msg := m }] }, rfl, ?_, ⟨SlR.of_own ho10 (show (1 : Nat) ≤ 1099511627776 by decide), fun x hx => by rw [List.mem_singleton.1 hx]; exact ⟨SlC.nil _, ItV.ok.zero _ _ _ _⟩⟩, rfl, ?_⟩
  · unfold wholeP RsV.rq
    rw [HM.out]
    simp only [List.map_cons, List.map_nil]
    unfold RsIV.rq
    rw [show ItV.it {} = {} from it_flat 0 0 0 [] {}]
  · exact (HBW.out.alloc (by rw [HSZ.out]; omega) _).trans (HC10.out.below (fun k hk => by rw [List.mem_singleton.1 hk]; exact Nat.le_refl _) (by simp; rw [HSZ.out]; omega))
end Go.Proofs.Ytfcobmncbnkppaa
