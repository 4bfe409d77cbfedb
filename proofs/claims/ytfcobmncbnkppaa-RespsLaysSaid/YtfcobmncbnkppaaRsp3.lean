/- resps: Of, Undo, Whole. -/
import Derived.Test.YtfcobmncbnkppaaRsp2
import Derived.Test.YtfcobmncbnkppaaPay12
namespace Go.Proofs.Ytfcobmncbnkppaa
open Go.RowKit
set_option linter.unusedVariables false
set_option linter.unusedSimpArgs false
set_option maxRecDepth 100000
set_option maxHeartbeats 3200000
def ofP (q : RqI) (reason : Int) (pay : Itm) : RsI := if reason = 0 then { op := q.op, hasOp := true, hasId := q.has, id := q.id, pay := pay, hasPay := true } else { op := q.op, hasOp := true, hasId := q.has, id := q.id, status := 1, reason := reason, msg := wordS reason }
def undoP (q : RqI) : RsI := { op := q.op, hasOp := true, hasId := q.has, id := q.id, status := 3 }
def wholeP (t r : Int) : Rs := { time := t, items := [{ status := 1, reason := r, msg := wordS r }] }
def stEmptyB (T : TypeId) (B : Nat) : St Grow := ⟨fun v w => ∃ g, v = .slice (some ⟨g, 0, none⟩) 0 0 ∧ w.heap[g]? = some (.cells #[] T (0, 0)) ∧ B ≤ g, fun v w w' h hg => let ⟨g, e, h0, h1⟩ := h; ⟨g, e, (hg.block _ (block_lt h0)).trans h0, h1⟩⟩
def stRowB (T : TypeId) (B n : Nat) (xs : List Value) : St Grow := ⟨fun v w => ∃ a c, v = .slice a n c ∧ w.ownsRow B T 1 (.slice a n c) n xs, fun v w w' h hg => let ⟨a, c, e, h1⟩ := h; ⟨a, c, e, (Chg.of_below hg []).owns h1 (fun k _ hm => by cases hm)⟩⟩
def stRsI (T : TypeId) (B n : Nat) (xs : List Value) (f : Sl → RsIV) : St Grow := ⟨fun v w => ∃ a c, v = .agg (f ⟨a, n, c⟩).arr ∧ w.ownsRow B T 1 (.slice a n c) n xs, fun v w w' h hg => let ⟨a, c, e, h1⟩ := h; ⟨a, c, e, (Chg.of_below hg []).owns h1 (fun k _ hm => by cases hm)⟩⟩
theorem B8s_one (l : List UInt8) : ∀ u ∈ l.map B8, u.oneCell' = true := by
  intro u hu
  obtain ⟨x, _, rfl⟩ := List.mem_map.1 hu
  rfl
theorem sBuildOf (op : Int) (h : Bool) (s : Sl) (id : List UInt8) (w : World) : (Instr.build 44 #[(0, .int .i64 op), (1, .bool true), (2, .bool h), (3, .slice s.a s.n s.c)]).run Try.prog w = .ok (.agg (RsIV.arr { op := op, hasOp := true, hasId := h, id := id, ids := s })) w := by kernel_rfl
theorem sBuildUndo (op : Int) (h : Bool) (s : Sl) (id : List UInt8) (w : World) : (Instr.build 44 #[(0, .int .i64 op), (1, .bool true), (2, .bool h), (3, .slice s.a s.n s.c), (4, .int .i64 3)]).run Try.prog w = .ok (.agg (RsIV.arr { op := op, hasOp := true, hasId := h, id := id, ids := s, status := 3 })) w := by kernel_rfl
theorem sBuildWhole (r : Int) (m : ByteArray) (w : World) : (Instr.build 44 #[(4, .int .i64 1), (5, .int .i64 r), (6, .string m)]).run Try.prog w = .ok (.agg (RsIV.arr { status := 1, reason := r, msg := m })) w := by kernel_rfl
theorem pBuild (t : Int) (s : Sl) (l : List RsIV) (w : World) : (Instr.build 31 #[(0, .int .i64 t), (1, .slice s.a s.n s.c)]).run Try.prog w = .ok (.agg (RsV.arr { time := t, its := s, items := l })) w := by kernel_rfl
theorem pBuild0 (w : World) : (Instr.build 31 #[]).run Try.prog w = .ok (.agg rpZ.arr) w := by kernel_rfl
theorem pBuild1 (t : Int) (w : World) : (Instr.build 31 #[(0, .int .i64 t)]).run Try.prog w = .ok (.agg (RsV.arr { time := t })) w := by kernel_rfl
theorem wp_build_rs {P : Program} {o : Oper} {a : Act} {w : World} {K : Act → World → Prop} {Q : Exit → Act → World → Prop} (T E : TypeId) (x : Operand) (ho : o.op = .buildSlice T 1 #[(0, x)]) (v : RsIV) (hx : a.eval x = .agg v.arr)
    (i : TypeInfo) (hu : P.underlying T = some (.slice E)) (hi : P.info? E = some i) (hz : i.zero = some (.agg rsZ.arr)) (hs : i.size = 13)
    (h : K (a.put o.dst (.slice (some ⟨w.heap.size, 0, none⟩) 1 1)) (w.alloc (.cells v.arr E))) : o.wp P a w K Q := by
  refine wp_buildSlice T E 1 _ ho v.arr i _ hu hi hz (by rw [hs]; decide) (by rw [hs]; decide) ?_ h
  rw [hs, show ((#[(0, x)] : Array (Nat × Operand)).map fun (i, x) => (i, a.eval x)).toList = [(0, Value.agg v.arr)] from by simp [hx]]
  kernel_rfl
theorem wpList_build_rs {P : Program} {ops : Array Oper} {rest : List Oper} {o : Oper} {a : Act} {w : World} {Q : Exit → Act → World → Prop} (hg : o.guard = none) (T E : TypeId) (x : Operand) (ho : o.op = .buildSlice T 1 #[(0, x)]) (v : RsIV) (hx : a.eval x = .agg v.arr)
    (i : TypeInfo) (hu : P.underlying T = some (.slice E)) (hi : P.info? E = some i) (hz : i.zero = some (.agg rsZ.arr)) (hs : i.size = 13)
    (h : wpList P ops Q rest (a.put o.dst (.slice (some ⟨w.heap.size, 0, none⟩) 1 1)) (w.alloc (.cells v.arr E))) : wpList P ops Q (o :: rest) a w :=
  wpList_plain hg fun _ hK => wp_build_rs T E x ho v hx i hu hi hz hs (hK _ _ h)
theorem there_of {w : World} {b o n : Nat} {C : Array Value} {T : TypeId} (h : w.heap[b]? = some (.cells C T (0, 0))) (hn : o + n ≤ C.size) : w.there b o n := fun j hj => by
  refine ⟨?_, frozen_of_block h⟩
  rw [cell_of_block h (Array.getElem?_eq_getElem (by omega))]; rfl
/-- A struct stored within a block: the world behind it kept shut. -/
theorem wpList_store_part {P : Program} {w : World} {ops : Array Oper} {rest : List Oper} {op : Oper} {a : Act} {Q : Exit → Act → World → Prop} (hgd : op.guard = none) (ty : TypeId) (x y : Operand) (ho : op.op = .store ty x y)
    (p o : Nat) (cells : Array Value) (hx : a.eval x = .pointer (some ⟨p, o, none⟩)) (hy : a.eval y = .agg cells) {C : Array Value} {T : TypeId} (hg : w.heap[p]? = some (.cells C T (0, 0))) (hroom : o + cells.size ≤ C.size)
    (hi : (P.info? ty).map (·.size) = some cells.size) (h1 : cells.all (·.oneCell') = true) (C' : Array Value) (hC : setSeg C o cells.toList = C')
    (h : ∀ w', w'.heap[p]? = some (.cells C' T (0, 0)) → Chg [p] w w' → wpList P ops Q rest (a.put op.dst undef) w') : wpList P ops Q (op :: rest) a w :=
  wpList_store_mid hgd ty x y ho p o cells hx hy (there_of hg hroom) hi h1 (h _ (by rw [← hC]; exact setCells_block _ _ _ _ hg) (setCells_chg _ _ _ (Chg.refl _ _) (.inl (by simp))))
theorem Of_any (q : RqIV) (r : Int) (y : ItV) (w : World) (hq : SlC w q.ids (q.id.map B8)) (hy : y.ok w) : Calls Try.prog 15 #[.agg q.arr, .int .i64 r, .agg y.arr] w fun e w' => ∃ v : RsIV, e = .returned (.agg v.arr) ∧ v.rq = ofP q.rq r y.it ∧ v.ok w' ∧ Below w.heap.size w w' := by
  obtain ⟨ib, hib, hb0, hb1, hb2⟩ := info_parts oInfoB
  have HQ := hid hq; have HYO := hid hy
  have hqm := hq.sm
  have HQL := hid hq.lenB
  have HYL := hid hy.lt
  clear hq hy
  generalize hbe : w.heap.size = b
  rw [hbe] at HYL
  have HBE := hid hbe; clear hbe
  go_enter Try.func15, Try.ntmps15
  go_upto_region 1 with (refine wpList_alloc_obj rfl 44 rfl _ sZero ?_)
  go_simp
  have hbel : Below w.heap.size w (((w.alloc (.cells q.arr 42)).alloc (.cells y.arr 27)).alloc (.cells rsZ.arr 44)) := (((Below.refl _ w).alloc (Nat.le_refl _) _).alloc (by simp) _).alloc (by simp; omega) _
  have HBX : Hid ((((w.alloc (.cells q.arr 42)).alloc (.cells y.arr 27)).alloc (.cells rsZ.arr 44)).heap[b]? = some (.cells q.arr 42 (0, 0)) ∧ (((w.alloc (.cells q.arr 42)).alloc (.cells y.arr 27)).alloc (.cells rsZ.arr 44)).heap[b + 1]? = some (.cells y.arr 27 (0, 0)) ∧ (((w.alloc (.cells q.arr 42)).alloc (.cells y.arr 27)).alloc (.cells rsZ.arr 44)).heap[b + 2]? = some (.cells rsZ.arr 44 (0, 0))) := by
    show _ ∧ _ ∧ _
    rw [← HBE.out]
    refine ⟨?_, ?_, ?_⟩
    · rw [heap_alloc_old _ _ (by simp; omega), heap_alloc_old _ _ (by simp)]; exact block_new w _
    · rw [heap_alloc_old _ _ (by simp)]; have := block_new (w.alloc (.cells q.arr 42)) (.cells y.arr 27); simpa using this
    · have := block_new ((w.alloc (.cells q.arr 42)).alloc (.cells y.arr 27)) (.cells rsZ.arr 44); simpa using this
  have HQ0 := hid (HQ.out.below hbel); have HY0 := hid (HYO.out.below hbel)
  rw [HBE.out] at hbel ⊢
  have HBW := hid hbel
  have HSZ : Hid (b + 3 ≤ (((w.alloc (.cells q.arr 42)).alloc (.cells y.arr 27)).alloc (.cells rsZ.arr 44)).heap.size) := by show _ ≤ _; simp [HBE.out]
  clear hbel HQ HYO
  simp only [Nat.add_assoc, Nat.reduceAdd]
  generalize ((w.alloc (.cells q.arr 42)).alloc (.cells y.arr 27)).alloc (.cells rsZ.arr 44) = W at *
  obtain ⟨z, hzw⟩ : ∃ z, z = W.heap.size := ⟨_, rfl⟩
  have HZW := hid hzw
  have HBZ : Hid (b + 3 ≤ z) := by show _ ≤ _; rw [hzw]; exact HSZ.out
  clear hzw HSZ
  refine wp_region_each 10 [.eq (.pointer (some ⟨b, 0, none⟩)), .eq (.int .i64 q.op), .eq (.pointer (some ⟨b, 1, none⟩)), .eq (.bool q.has), stEmptyB 5 z, .eq (.pointer (some ⟨b, 2, none⟩)), .eq (.slice q.ids.a q.ids.n q.ids.c), stRowB 5 z q.ids.n (q.id.map B8), stRsI 5 z q.ids.n (q.id.map B8) (fun s => { op := q.op, hasOp := true, hasId := q.has, id := q.id, ids := s }), stNewQ 44 rsZ.arr z] (by kernel_rfl) (by kernel_rfl) (by kernel_rfl) (by kernel_rfl) ?_ ?_
  · as_aux_lemma =>
      refine each_c (o' := _) ?_ (each_c (o' := _) ?_ (each_c (o' := _) ?_ (each_c (o' := _) ?_ (each_c (o' := _) ?_ (each_c (o' := _) ?_ (each_c (o' := _) ?_ (each_c (o' := _) ?_ (each_c (o' := _) ?_ (each_c (o' := _) ?_ (each_n))))))))))
      -- 0: fieldAddr 42 t3 0
      · intro w1 hg Ar seen
        have s3 := seen.slot 3 (v := .pointer (some ⟨b, 0, none⟩)) (by kernel_rfl) rfl
        refine does_plain rfl fun K Q' hK => ?_
        go_simp; exact hK _ _ (Grow.refl _) rfl
      -- 1: load 3 t8
      · intro w1 hg Ar seen
        obtain ⟨v0, e0, h0⟩ := seen.dep 0 (d := 8) (by kernel_rfl) (by kernel_rfl) rfl
        rcases h0 with rfl
        refine does_plain rfl fun K Q' hK => ?_
        have hc := cell_of_block (j := 0) ((hg.block _ (block_lt HBX.out.1)).trans HBX.out.1) (xr0 q)
        go_simp; exact hK _ _ (Grow.refl _) rfl
      -- 2: fieldAddr 42 t3 1
      · intro w1 hg Ar seen
        have s3 := seen.slot 3 (v := .pointer (some ⟨b, 0, none⟩)) (by kernel_rfl) rfl
        refine does_plain rfl fun K Q' hK => ?_
        go_simp; exact hK _ _ (Grow.refl _) rfl
      -- 3: load 4 t10
      · intro w1 hg Ar seen
        obtain ⟨v2, e2, h2⟩ := seen.dep 2 (d := 10) (by kernel_rfl) (by kernel_rfl) rfl
        rcases h2 with rfl
        refine does_plain rfl fun K Q' hK => ?_
        have hc := cell_of_block (j := 1) ((hg.block _ (block_lt HBX.out.1)).trans HBX.out.1) (xr1 q)
        go_simp; exact hK _ _ (Grow.refl _) rfl
      -- 4: buildSlice 24 0 []
      · intro w1 hg Ar seen
        refine does_plain rfl fun K Q' hK => ?_
        go_simp
        exact hK _ _ ((Below.refl _ _).alloc (Nat.le_refl _) _) ⟨_, rfl, block_new _ _, Nat.le_trans (Nat.le_of_eq HZW.out) hg.size⟩
      -- 5: fieldAddr 42 t3 2
      · intro w1 hg Ar seen
        have s3 := seen.slot 3 (v := .pointer (some ⟨b, 0, none⟩)) (by kernel_rfl) rfl
        refine does_plain rfl fun K Q' hK => ?_
        go_simp; exact hK _ _ (Grow.refl _) rfl
      -- 6: load 24 t13
      · intro w1 hg Ar seen
        obtain ⟨v5, e5, h5⟩ := seen.dep 5 (d := 13) (by kernel_rfl) (by kernel_rfl) rfl
        rcases h5 with rfl
        refine does_plain rfl fun K Q' hK => ?_
        have hc := cell_of_block (j := 2) ((hg.block _ (block_lt HBX.out.1)).trans HBX.out.1) (xr2 q)
        go_simp; exact hK _ _ (Grow.refl _) rfl
      -- 7: call append [t12, t14] T[24, 24]
      · intro w1 hg Ar seen
        obtain ⟨v4, e4, h4⟩ := seen.dep 4 (d := 12) (by kernel_rfl) (by kernel_rfl) rfl
        obtain ⟨v6, e6, h6⟩ := seen.dep 6 (d := 14) (by kernel_rfl) (by kernel_rfl) rfl
        rcases h6 with rfl
        refine does_plain rfl fun K Q' hK => ?_
        obtain ⟨g, rfl, hgc, hgb⟩ := h4
        refine wp_append_empty _ _ 24 rfl z 5 ib _ 1 1 Try.underlying24 hib hb0 hb1 hb2 rfl (by decide) g (by simp [Act.eval, e4]) hgc hgb q.ids.a q.ids.n q.ids.c (q.id.map B8) (by simp [Act.eval, e6]) (by rw [Nat.mul_one]; exact (HQ0.out.below hg).rd) (B8s_one _) (HQ0.out.no) (by unfold maxLen; omega) (by omega) ?_
        intro a' c' w' hown hb
        exact hK _ _ hb ⟨a', c', rfl, hown⟩
      -- 8: build 44 [(0, t9), (1, true), (2, t11), (3, t15)]
      · intro w1 hg Ar seen
        obtain ⟨v1, e1, h1⟩ := seen.dep 1 (d := 9) (by kernel_rfl) (by kernel_rfl) rfl
        rcases h1 with rfl
        obtain ⟨v3, e3, h3⟩ := seen.dep 3 (d := 11) (by kernel_rfl) (by kernel_rfl) rfl
        rcases h3 with rfl
        obtain ⟨v7, e7, h7⟩ := seen.dep 7 (d := 15) (by kernel_rfl) (by kernel_rfl) rfl
        refine does_plain rfl fun K Q' hK => ?_
        obtain ⟨a', c', rfl, hown⟩ := h7
        refine wp_build_obj 44 _ rfl #[(0, .int .i64 q.op), (1, .bool true), (2, .bool q.has), (3, .slice a' q.ids.n c')] (by simp [Act.eval, e1, e3, e7]) _ (sBuildOf q.op q.has ⟨a', q.ids.n, c'⟩ q.id _) ?_
        exact hK _ _ (Grow.refl _) ⟨a', c', rfl, hown⟩
      -- 9: alloc 44
      · intro w1 hg Ar seen
        refine does_plain rfl fun K Q' hK => ?_
        refine wp_alloc_obj 44 rfl rsZ.arr sZero ?_
        exact hK _ _ ((Below.refl _ _).alloc (Nat.le_refl _) _) ⟨_, rfl, block_new _ _, Nat.le_trans (Nat.le_of_eq HZW.out) hg.size⟩
  intro w1 hg
  refine upon_w' (js := [0, 1, 2, 3, 4, 5, 6, 7, 8, 9]) (by rfl) ?_
  refine upon_c (x := some 8) (by kernel_rfl) rfl fun v0 h0 => ?_
  rcases h0 with rfl
  refine upon_c (x := some 9) (by kernel_rfl) rfl fun v1 h1 => ?_
  rcases h1 with rfl
  refine upon_c (x := some 10) (by kernel_rfl) rfl fun v2 h2 => ?_
  rcases h2 with rfl
  refine upon_c (x := some 11) (by kernel_rfl) rfl fun v3 h3 => ?_
  rcases h3 with rfl
  refine upon_c (x := some 12) (by kernel_rfl) rfl fun v4 h4 => ?_
  refine upon_c (x := some 13) (by kernel_rfl) rfl fun v5 h5 => ?_
  rcases h5 with rfl
  refine upon_c (x := some 14) (by kernel_rfl) rfl fun v6 h6 => ?_
  rcases h6 with rfl
  refine upon_c (x := some 15) (by kernel_rfl) rfl fun v7 h7 => ?_
  refine upon_c (x := some 16) (by kernel_rfl) rfl fun v8 h8 => ?_
  refine upon_c (x := some 7) (by kernel_rfl) rfl fun v9 h9 => ?_
  refine upon_n ?_
  obtain ⟨p, rfl, hp, hzp⟩ := h9
  obtain ⟨a', c', rfl, hown⟩ := h8
  have HP := hid hp; have HZP := hid hzp; have HOW := hid hown
  have HNE : Hid (∀ k, (Value.slice a' q.ids.n c').ownBlock = some k → k ≠ p) := fun k hk he => own_ne_block hown hp (by decide) (by rw [← he]; exact hk)
  have hg' := hg
  unfold Grow at hg'
  have HBXg := hid (And.intro ((hg'.block _ (block_lt HBX.out.2.1)).trans HBX.out.2.1) ((hg'.block _ (block_lt HBX.out.2.2)).trans HBX.out.2.2))
  have HYg := hid (HY0.out.below hg')
  rw [← HZW.out] at hg'
  have HGG := hid (HBW.out.trans (hg'.mono (by have := HBZ.out; omega)))
  have HSZ1 : Hid (z ≤ w1.heap.size) := by show _ ≤ _; rw [HZW.out]; exact hg.size
  clear hp hzp hg' hg hown h4 h7 HBX HY0 HQ0 HBW
  go_simp
  go_upto_region 2 with (refine wpList_store_obj rfl 44 _ _ rfl p rfl (RsIV.arr { op := q.op, hasOp := true, hasId := q.has, id := q.id, ids := ⟨a', q.ids.n, c'⟩ }) rfl _ _ HP.out rfl sSize (sarr_one _) ?_; intro w4 hb4 hc4 hs4; have HB4 := hid hb4; have HC4 := hid hc4; clear hb4 hc4 hs4)
  have HOW4 := hid (HC4.out.owns HOW.out (fun k hk hm => HNE.out k hk (List.mem_singleton.1 hm)))
  have HBX4 := hid (And.intro ((HC4.out.block (b + 1) (block_lt HBXg.out.1) (fun hm => by have := List.mem_singleton.1 hm; have := HZP.out; have := HBZ.out; omega)).trans HBXg.out.1) ((HC4.out.block (b + 2) (block_lt HBXg.out.2) (fun hm => by have := List.mem_singleton.1 hm; have := HZP.out; have := HBZ.out; omega)).trans HBXg.out.2))
  have HY4 := hid (ItV.ok.keep HC4.out HYg.out (fun k hk hm => by have := List.mem_singleton.1 hm; have := HYL.out k hk; have := HZP.out; have := HBZ.out; omega))
  have HGG4 := hid (HGG.out.trans (HC4.out.below (B := b) (fun k hk => by rw [List.mem_singleton.1 hk]; have := HZP.out; have := HBZ.out; omega) (by have := HSZ1.out; have := HBZ.out; omega)))
  have HSZ4 : Hid (b + 3 ≤ w4.heap.size) := by have := HSZ1.out; have := HBZ.out; have := HC4.out.size; show _ ≤ _; omega
  clear HP HOW HC4 HBXg HYg HGG HSZ1
  by_cases hr : r = 0
  · subst hr
    go_upto_region 4 with (first | (refine wpList_load_row rfl 27 _ rfl (b + 1) rfl _ _ _ _ HBX4.out.1 Try.underlying27 rfl iSize ?_) | (refine wpList_store_part rfl 27 _ _ rfl p 7 y.arr rfl rfl HB4.out (show 7 + 5 ≤ 13 by decide) iSize (arr_one y) (RsIV.arr { op := q.op, hasOp := true, hasId := q.has, id := q.id, ids := ⟨a', q.ids.n, c'⟩, pay := y }) rfl ?_; intro w41 hb41 hc41; have HB41 := hid hb41; have HC41 := hid hc41; have hq8 := cell_of_block (j := 12) hb41 (rx12 _); have hfz : ∀ j, w41.frozen? ⟨p, j, none⟩ = false := (fun j => frozen_of_block HB41.out); clear hb41 hc41))
    clear hq8 hfz
    have HB5 : Hid ((w41.setCell ⟨p, 12, none⟩ (.bool true)).heap[p]? = some (.cells (RsIV.arr { op := q.op, hasOp := true, hasId := q.has, id := q.id, ids := ⟨a', q.ids.n, c'⟩, pay := y, hasPay := true }) 44 (0, 0))) := block_setCell HB41.out _
    have hch : Chg [p] w4 (w41.setCell ⟨p, 12, none⟩ (.bool true)) := HC41.out.setCell (.inl (by simp)) _
    have HCH := hid hch
    clear hch
    generalize w41.setCell ⟨p, 12, none⟩ (.bool true) = w5 at *
    have HR5 : Hid (w5.heap[b + 2]? = some (.cells rsZ.arr 44 (0, 0))) := (HCH.out.block (b + 2) (block_lt HBX4.out.2) (fun hm => by have := List.mem_singleton.1 hm; have := HZP.out; have := HBZ.out; omega)).trans HBX4.out.2
    go_wp2_with (first | (refine wpList_load_row rfl 44 _ rfl p rfl _ _ _ _ HB5.out Try.underlying44 rfl sSize ?_) | (refine wpList_store_obj rfl 44 _ _ rfl (b + 2) rfl _ rfl _ _ HR5.out rfl sSize (sarr_one _) ?_; intro w10 hb10 hc10 hs10; have HB10 := hid hb10; have HC10 := hid hc10; clear hb10 hc10 hs10))
    refine bodyPost_ret (results_cell_row rfl _ _ (b + 2) _ _ _ _ rfl HB10.out Try.underlying44 rfl sSize) rfl ?_
    have hlow : ∀ k, (Value.slice a' q.ids.n c').ownBlock = some k → z ≤ k := fun k hk => (HOW4.out.lt k hk).1
    have ho5 := HCH.out.owns HOW4.out (fun k hk hm => HNE.out k hk (List.mem_singleton.1 hm))
    have ho10 := HC10.out.owns ho5 (fun k hk hm => by have := hlow k hk; have := List.mem_singleton.1 hm; have := HBZ.out; omega)
    have hy10 := ItV.ok.keep HC10.out (ItV.ok.keep HCH.out HY4.out (fun k hk hm => by have := List.mem_singleton.1 hm; have := HYL.out k hk; have := HZP.out; have := HBZ.out; omega)) (fun k hk hm => by have := List.mem_singleton.1 hm; have := HYL.out k hk; omega)
    refine ⟨_, rfl, rfl, ⟨SlC.of_own ho10 hqm, hy10⟩, ?_⟩
    exact (HGG4.out.trans (HCH.out.below (B := b) (fun k hk => by rw [List.mem_singleton.1 hk]; have := HZP.out; have := HBZ.out; omega) (by have := HSZ4.out; omega))).trans (HC10.out.below (B := b) (fun k hk => by rw [List.mem_singleton.1 hk]; omega) (by have := HSZ4.out; have := HCH.out.size; omega))
  · have hne : (r == 0) = false := by simpa using hr
    go_wp2_with fail
    refine (word_any r _).mono ?_
    rintro e w5 ⟨rfl, rfl⟩
    have HB41 := hid (block_setCell (j := 4) HB4.out (.int .i64 1))
    have HB42 := hid (block_setCell (j := 5) HB41.out (.int .i64 r))
    have HB43 : Hid ((((w4.setCell ⟨p, 4, none⟩ (.int .i64 1)).setCell ⟨p, 5, none⟩ (.int .i64 r)).setCell ⟨p, 6, none⟩ (.string (wordS r))).heap[p]? = some (.cells (RsIV.arr { op := q.op, hasOp := true, hasId := q.has, id := q.id, ids := ⟨a', q.ids.n, c'⟩, status := 1, reason := r, msg := wordS r }) 44 (0, 0))) := block_setCell (j := 6) HB42.out _
    have q4 := cell_of_block (j := 4) HB4.out (rx4 _)
    have q5 := cell_of_block (j := 5) HB41.out (v := .int .i64 0) rfl
    have q6 := cell_of_block (j := 6) HB42.out (v := .string ⟨#[]⟩) rfl
    have f4 : ∀ j, w4.frozen? ⟨p, j, none⟩ = false := fun j => frozen_of_block HB4.out
    have f5 : ∀ j, (w4.setCell ⟨p, 4, none⟩ (.int .i64 1)).frozen? ⟨p, j, none⟩ = false := fun j => frozen_of_block HB41.out
    have f6 : ∀ j, ((w4.setCell ⟨p, 4, none⟩ (.int .i64 1)).setCell ⟨p, 5, none⟩ (.int .i64 r)).frozen? ⟨p, j, none⟩ = false := fun j => frozen_of_block HB42.out
    go_upto_region 6 with (fail)
    clear q4 q5 q6 f4 f5 f6 HB41 HB42
    have hch : Chg [p] w4 (((w4.setCell ⟨p, 4, none⟩ (.int .i64 1)).setCell ⟨p, 5, none⟩ (.int .i64 r)).setCell ⟨p, 6, none⟩ (.string (wordS r))) := (((Chg.refl [p] w4).setCell (.inl (by simp)) _).setCell (.inl (by simp)) _).setCell (.inl (by simp)) _
    have HCH := hid hch
    clear hch
    generalize ((w4.setCell ⟨p, 4, none⟩ (.int .i64 1)).setCell ⟨p, 5, none⟩ (.int .i64 r)).setCell ⟨p, 6, none⟩ (.string (wordS r)) = w5 at *
    have HR5 : Hid (w5.heap[b + 2]? = some (.cells rsZ.arr 44 (0, 0))) := (HCH.out.block (b + 2) (block_lt HBX4.out.2) (fun hm => by have := List.mem_singleton.1 hm; have := HZP.out; have := HBZ.out; omega)).trans HBX4.out.2
    go_wp2_with (first | (refine wpList_load_row rfl 44 _ rfl p rfl _ _ _ _ HB43.out Try.underlying44 rfl sSize ?_) | (refine wpList_store_obj rfl 44 _ _ rfl (b + 2) rfl _ rfl _ _ HR5.out rfl sSize (sarr_one _) ?_; intro w10 hb10 hc10 hs10; have HB10 := hid hb10; have HC10 := hid hc10; clear hb10 hc10 hs10))
    refine bodyPost_ret (results_cell_row rfl _ _ (b + 2) _ _ _ _ rfl HB10.out Try.underlying44 rfl sSize) rfl ?_
    have hlow : ∀ k, (Value.slice a' q.ids.n c').ownBlock = some k → z ≤ k := fun k hk => (HOW4.out.lt k hk).1
    have ho5 := HCH.out.owns HOW4.out (fun k hk hm => HNE.out k hk (List.mem_singleton.1 hm))
    have ho10 := HC10.out.owns ho5 (fun k hk hm => by have := hlow k hk; have := List.mem_singleton.1 hm; have := HBZ.out; omega)
    refine ⟨_, rfl, by unfold ofP; rw [if_neg hr]; unfold RsIV.rq; rw [show ItV.it {} = {} from it_flat 0 0 0 [] {}]; rfl, ⟨SlC.of_own ho10 hqm, ItV.ok.zero _ _ _ _⟩, ?_⟩
    exact (HGG4.out.trans (HCH.out.below (B := b) (fun k hk => by rw [List.mem_singleton.1 hk]; have := HZP.out; have := HBZ.out; omega) (by have := HSZ4.out; omega))).trans (HC10.out.below (B := b) (fun k hk => by rw [List.mem_singleton.1 hk]; omega) (by have := HSZ4.out; have := HCH.out.size; omega))
end Go.Proofs.Ytfcobmncbnkppaa
