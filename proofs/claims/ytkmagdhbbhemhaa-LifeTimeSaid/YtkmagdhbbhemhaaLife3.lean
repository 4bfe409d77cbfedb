/- life.Next; locksmithref10: Next, at, Due, Move. -/
import Derived.Test.YtkmagdhbbhemhaaLife2
import Derived.Deep.DeepMust
namespace Go.Proofs.Ytkmagdhbbhemhaa
open Go.RowKit
set_option linter.unusedVariables false
set_option linter.unusedSimpArgs false
set_option maxRecDepth 100000
set_option maxHeartbeats 1600000

theorem lifeNext_any (O : ObjD) (s : ObjV) (z t : Int) (h : Bool) (w : World) (hn : nextOf O = (z, h, t)) :
    Calls Try.prog 13 #[.agg (objCells O s)] w fun e w' => e = .returned (.tuple #[.int .i64 t, .bool h]) ∧ Below w.heap.size w w' := by
  have NX := hid (fun w => next_any O s w)
  rw [hn] at NX
  clear hn
  generalize hbe : w.heap.size = b
  have HBE := hid hbe; clear hbe
  go_enter Try.func13, Try.ntmps13
  go_upto_region 1 with (fail)
  rw [HBE.out]
  have B0 : Hid (Box1 39 O s w (w.alloc (.cells (objCells O s) 39)) b) := by rw [← HBE.out]; exact ⟨block_new _ _, (Below.refl _ _).alloc (Nat.le_refl _) _⟩
  generalize w.alloc (.cells (objCells O s) 39) = W at *
  go_wp2_with (first | (refine wpList_load_row rfl 39 _ rfl b rfl _ _ _ _ B0.out.obj Try.underlying39 rfl (by rw [objCells_size]; exact oSizeO) ?_) | fail)
  refine (NX.out _).mono ?_
  rintro e w2 ⟨rfl, hb2⟩
  have HB := hid (B0.out.below hb2).bel
  have HL := hid (block_lt (B0.out.below hb2).obj)
  clear hb2 B0
  go_wp2
  go_region
  all_goals
    go_wp2
    go_ret2
    exact ⟨rfl, (HB.out.alloc (by have := HL.out; omega) _).drew⟩

def refNextV (st : Int) (d1 d4 : Bool × Int) : Int × Bool := if st = 1 ∧ d1.1 = true then (d1.2, true) else if st = 2 ∧ d4.1 = true then (d4.2, true) else (0, false)
theorem refNext_any (O : ObjD) (s : ObjV) (w : World) :
    Calls Try.prog 14 #[.agg (objCells O s)] w fun e w' => e = .returned (.tuple #[.int .i64 (refNextV O.st (O.dat 1) (O.dat 4)).1, .bool (refNextV O.st (O.dat 1) (O.dat 4)).2]) ∧ Below w.heap.size w w' := by
  have f6 := oc6 O s
  have f9 : (objCells O s)[9]? = some (.bool (O.dat 1).1) := rfl
  have f10 : (objCells O s)[10]? = some (.int .i64 (O.dat 1).2) := rfl
  have f15 : (objCells O s)[15]? = some (.bool (O.dat 4).1) := rfl
  have f16 : (objCells O s)[16]? = some (.int .i64 (O.dat 4).2) := rfl
  generalize objCells O s = A at *
  generalize O.st = z at *
  generalize O.dat 1 = d1 at *
  generalize O.dat 4 = d4 at *
  obtain ⟨h1, t1⟩ := d1
  obtain ⟨h4, t4⟩ := d4
  simp only at f9 f10 f15 f16
  by_cases c1 : z = 1
  · subst c1
    cases h1 with
    | true =>
      have hn : refNextV 1 (true, t1) (h4, t4) = (t1, true) := by simp [refNextV]
      rw [hn]; clear hn
      go_enter Try.func14, Try.ntmps14
      go_wp2
      go_ret2
      exact ⟨rfl, (Below.refl _ _).alloc (Nat.le_refl _) _⟩
    | false =>
      have hn : refNextV 1 (false, t1) (h4, t4) = (0, false) := by simp [refNextV]
      rw [hn]; clear hn
      go_enter Try.func14, Try.ntmps14
      go_wp2
      go_ret2
      exact ⟨rfl, (Below.refl _ _).alloc (Nat.le_refl _) _⟩
  · have e1 : (z == 1) = false := by simpa using c1
    by_cases c2 : z = 2
    · subst c2
      clear c1 e1
      cases h4 with
      | true =>
        have hn : refNextV 2 (h1, t1) (true, t4) = (t4, true) := by simp [refNextV]
        rw [hn]; clear hn
        go_enter Try.func14, Try.ntmps14
        go_wp2
        go_ret2
        exact ⟨rfl, (Below.refl _ _).alloc (Nat.le_refl _) _⟩
      | false =>
        have hn : refNextV 2 (h1, t1) (false, t4) = (0, false) := by simp [refNextV]
        rw [hn]; clear hn
        go_enter Try.func14, Try.ntmps14
        go_wp2
        go_ret2
        exact ⟨rfl, (Below.refl _ _).alloc (Nat.le_refl _) _⟩
    · have e2 : (z == 2) = false := by simpa using c2
      have hn : refNextV z (h1, t1) (h4, t4) = (0, false) := by simp [refNextV, c1, c2]
      rw [hn]; clear hn c1 c2
      go_enter Try.func14, Try.ntmps14
      go_wp2
      go_ret2
      exact ⟨rfl, (Below.refl _ _).alloc (Nat.le_refl _) _⟩

theorem at1_true (O : ObjD) (s : ObjV) (now t : Int) (w : World) (hd : O.dat 1 = (true, t)) :
    Calls Try.prog 23 #[.agg #[.int .i64 1, .int .i64 now], .agg (objCells O s)] w fun e w' => e = .returned (.bool (decide (t ≤ now))) ∧ Below w.heap.size w w' := by
  have fh : (objCells O s)[9]? = some (.bool true) := by show some (Value.bool (O.dat 1).1) = _; rw [hd]
  have ft : (objCells O s)[10]? = some (.int .i64 t) := by show some (Value.int .i64 (O.dat 1).2) = _; rw [hd]
  generalize objCells O s = A at *
  have FH := hid fh; have FT := hid ft
  clear hd fh ft
  generalize hbe : w.heap.size = b
  have HBE := hid hbe; clear hbe
  go_enter Try.func23, Try.ntmps23
  go_upto_region 1 with (fail)
  have h1 : ((w.alloc (.cells #[.int .i64 1, .int .i64 now] 66)).alloc (.cells A 39)).heap[w.heap.size]? = some (.cells #[.int .i64 1, .int .i64 now] 66 (0, 0)) := heap_alloc2_old _ _ _
  have h2 : ((w.alloc (.cells #[.int .i64 1, .int .i64 now] 66)).alloc (.cells A 39)).heap[w.heap.size + 1]? = some (.cells A 39 (0, 0)) := heap_alloc2_new _ _ _
  have h3 : Below w.heap.size w ((w.alloc (.cells #[.int .i64 1, .int .i64 now] 66)).alloc (.cells A 39)) := ((Below.refl _ _).alloc (Nat.le_refl _) _).alloc (by simp) _
  rw [HBE.out] at h1 h2 h3 ⊢
  generalize (w.alloc (.cells #[.int .i64 1, .int .i64 now] 66)).alloc (.cells A 39) = W at *
  have H1 := hid h1; have H2 := hid h2; have H3 := hid h3
  clear h1 h2 h3
  refine wp_region_each 17 [.eq (.pointer (some ⟨b, 0, none⟩)), .eq (.int .i64 1), .eq (.pointer (some ⟨b + 1, 7, none⟩)), .eq (.pointer (some ⟨b + 1, 9, none⟩)), .eq (.pointer (some ⟨b + 1, 9, none⟩)), .eq (.bool true), .eq (.bool true), .eq (.pointer (some ⟨b, 0, none⟩)), .eq (.int .i64 1), .eq (.pointer (some ⟨b + 1, 7, none⟩)), .eq (.pointer (some ⟨b + 1, 9, none⟩)), .eq (.pointer (some ⟨b + 1, 10, none⟩)), .eq (.int .i64 t), .eq (.pointer (some ⟨b, 1, none⟩)), .eq (.int .i64 now), .eq (.bool (decide (t ≤ now))), .eq (.bool (decide (t ≤ now)))] (by kernel_rfl) (by kernel_rfl) (by kernel_rfl) (by kernel_rfl) ?_ ?_
  · as_aux_lemma =>
      refine each_c (o' := _) ?_ (each_c (o' := _) ?_ (each_c (o' := _) ?_ (each_c (o' := _) ?_ (each_c (o' := _) ?_ (each_c (o' := _) ?_ (each_c (o' := _) ?_ (each_c (o' := _) ?_ (each_c (o' := _) ?_ (each_c (o' := _) ?_ (each_c (o' := _) ?_ (each_c (o' := _) ?_ (each_c (o' := _) ?_ (each_c (o' := _) ?_ (each_c (o' := _) ?_ (each_c (o' := _) ?_ (each_c (o' := _) ?_ (each_n)))))))))))))))))
      -- 0: fieldAddr 66 t2 0
      · intro w1 hg Ar seen
        have s2 := seen.slot 2 (v := .pointer (some ⟨b, 0, none⟩)) (by kernel_rfl) rfl
        refine does_plain rfl fun K Q' hK => ?_
        go_simp; exact hK _ _ (Grow.refl _) rfl
      -- 1: load 3 t5
      · intro w1 hg Ar seen
        obtain ⟨v0, e0, h0⟩ := seen.dep 0 (d := 5) (by kernel_rfl) (by kernel_rfl) rfl
        rcases h0 with rfl
        refine does_plain rfl fun K Q' hK => ?_
        have hc := cell_of_block (j := 0) ((hg.block _ (block_lt H1.out)).trans H1.out) rfl
        go_simp; exact hK _ _ (Grow.refl _) rfl
      -- 2: fieldAddr 39 t3 7
      · intro w1 hg Ar seen
        have s3 := seen.slot 3 (v := .pointer (some ⟨b + 1, 0, none⟩)) (by kernel_rfl) rfl
        refine does_plain rfl fun K Q' hK => ?_
        go_simp; exact hK _ _ (Grow.refl _) rfl
      -- 3: indexAddr 32 t7 t6
      · intro w1 hg Ar seen
        obtain ⟨v1, e1, h1⟩ := seen.dep 1 (d := 6) (by kernel_rfl) (by kernel_rfl) rfl
        rcases h1 with rfl
        obtain ⟨v2, e2, h2⟩ := seen.dep 2 (d := 7) (by kernel_rfl) (by kernel_rfl) rfl
        rcases h2 with rfl
        refine does_plain rfl fun K Q' hK => ?_
        go_simp; exact hK _ _ (Grow.refl _) rfl
      -- 4: fieldAddr 31 t8 0
      · intro w1 hg Ar seen
        obtain ⟨v3, e3, h3⟩ := seen.dep 3 (d := 8) (by kernel_rfl) (by kernel_rfl) rfl
        rcases h3 with rfl
        refine does_plain rfl fun K Q' hK => ?_
        go_simp; exact hK _ _ (Grow.refl _) rfl
      -- 5: load 4 t9
      · intro w1 hg Ar seen
        obtain ⟨v4, e4, h4⟩ := seen.dep 4 (d := 9) (by kernel_rfl) (by kernel_rfl) rfl
        rcases h4 with rfl
        refine does_plain rfl fun K Q' hK => ?_
        have hc := cell_of_block ((hg.block _ (block_lt H2.out)).trans H2.out) FH.out
        go_simp; exact hK _ _ (Grow.refl _) rfl
      -- 6: move t10
      · intro w1 hg Ar seen
        obtain ⟨v5, e5, h5⟩ := seen.dep 5 (d := 10) (by kernel_rfl) (by kernel_rfl) rfl
        rcases h5 with rfl
        refine does_plain rfl fun K Q' hK => ?_
        go_simp; exact hK _ _ (Grow.refl _) rfl
      -- 7: fieldAddr 66 t2 0
      · intro w1 hg Ar seen
        obtain ⟨v6, e6, h6⟩ := seen.dep 6 (d := 11) (by kernel_rfl) (by kernel_rfl) rfl
        rcases h6 with rfl
        have s2 := seen.slot 2 (v := .pointer (some ⟨b, 0, none⟩)) (by kernel_rfl) rfl
        refine does_on rfl (by kernel_rfl) e6 fun K Q' hK => ?_
        clear e6
        go_simp; exact hK _ _ (Grow.refl _) rfl
      -- 8: load 3 t12
      · intro w1 hg Ar seen
        obtain ⟨v7, e7, h7⟩ := seen.dep 7 (d := 12) (by kernel_rfl) (by kernel_rfl) rfl
        rcases h7 with rfl
        obtain ⟨v6, e6, h6⟩ := seen.dep 6 (d := 11) (by kernel_rfl) (by kernel_rfl) rfl
        rcases h6 with rfl
        refine does_on rfl (by kernel_rfl) e6 fun K Q' hK => ?_
        clear e6
        have hc := cell_of_block (j := 0) ((hg.block _ (block_lt H1.out)).trans H1.out) rfl
        go_simp; exact hK _ _ (Grow.refl _) rfl
      -- 9: fieldAddr 39 t3 7
      · intro w1 hg Ar seen
        obtain ⟨v6, e6, h6⟩ := seen.dep 6 (d := 11) (by kernel_rfl) (by kernel_rfl) rfl
        rcases h6 with rfl
        have s3 := seen.slot 3 (v := .pointer (some ⟨b + 1, 0, none⟩)) (by kernel_rfl) rfl
        refine does_on rfl (by kernel_rfl) e6 fun K Q' hK => ?_
        clear e6
        go_simp; exact hK _ _ (Grow.refl _) rfl
      -- 10: indexAddr 32 t14 t13
      · intro w1 hg Ar seen
        obtain ⟨v8, e8, h8⟩ := seen.dep 8 (d := 13) (by kernel_rfl) (by kernel_rfl) rfl
        rcases h8 with rfl
        obtain ⟨v9, e9, h9⟩ := seen.dep 9 (d := 14) (by kernel_rfl) (by kernel_rfl) rfl
        rcases h9 with rfl
        obtain ⟨v6, e6, h6⟩ := seen.dep 6 (d := 11) (by kernel_rfl) (by kernel_rfl) rfl
        rcases h6 with rfl
        refine does_on rfl (by kernel_rfl) e6 fun K Q' hK => ?_
        clear e6
        go_simp; exact hK _ _ (Grow.refl _) rfl
      -- 11: fieldAddr 31 t15 1
      · intro w1 hg Ar seen
        obtain ⟨v10, e10, h10⟩ := seen.dep 10 (d := 15) (by kernel_rfl) (by kernel_rfl) rfl
        rcases h10 with rfl
        obtain ⟨v6, e6, h6⟩ := seen.dep 6 (d := 11) (by kernel_rfl) (by kernel_rfl) rfl
        rcases h6 with rfl
        refine does_on rfl (by kernel_rfl) e6 fun K Q' hK => ?_
        clear e6
        go_simp; exact hK _ _ (Grow.refl _) rfl
      -- 12: load 2 t16
      · intro w1 hg Ar seen
        obtain ⟨v11, e11, h11⟩ := seen.dep 11 (d := 16) (by kernel_rfl) (by kernel_rfl) rfl
        rcases h11 with rfl
        obtain ⟨v6, e6, h6⟩ := seen.dep 6 (d := 11) (by kernel_rfl) (by kernel_rfl) rfl
        rcases h6 with rfl
        refine does_on rfl (by kernel_rfl) e6 fun K Q' hK => ?_
        clear e6
        have hc := cell_of_block ((hg.block _ (block_lt H2.out)).trans H2.out) FT.out
        go_simp; exact hK _ _ (Grow.refl _) rfl
      -- 13: fieldAddr 66 t2 1
      · intro w1 hg Ar seen
        obtain ⟨v6, e6, h6⟩ := seen.dep 6 (d := 11) (by kernel_rfl) (by kernel_rfl) rfl
        rcases h6 with rfl
        have s2 := seen.slot 2 (v := .pointer (some ⟨b, 0, none⟩)) (by kernel_rfl) rfl
        refine does_on rfl (by kernel_rfl) e6 fun K Q' hK => ?_
        clear e6
        go_simp; exact hK _ _ (Grow.refl _) rfl
      -- 14: load 2 t18
      · intro w1 hg Ar seen
        obtain ⟨v13, e13, h13⟩ := seen.dep 13 (d := 18) (by kernel_rfl) (by kernel_rfl) rfl
        rcases h13 with rfl
        obtain ⟨v6, e6, h6⟩ := seen.dep 6 (d := 11) (by kernel_rfl) (by kernel_rfl) rfl
        rcases h6 with rfl
        refine does_on rfl (by kernel_rfl) e6 fun K Q' hK => ?_
        clear e6
        have hc := cell_of_block (j := 1) ((hg.block _ (block_lt H1.out)).trans H1.out) rfl
        go_simp; exact hK _ _ (Grow.refl _) rfl
      -- 15: binOp BinOp.leq 2 t17 t19 2
      · intro w1 hg Ar seen
        obtain ⟨v12, e12, h12⟩ := seen.dep 12 (d := 17) (by kernel_rfl) (by kernel_rfl) rfl
        rcases h12 with rfl
        obtain ⟨v14, e14, h14⟩ := seen.dep 14 (d := 19) (by kernel_rfl) (by kernel_rfl) rfl
        rcases h14 with rfl
        obtain ⟨v6, e6, h6⟩ := seen.dep 6 (d := 11) (by kernel_rfl) (by kernel_rfl) rfl
        rcases h6 with rfl
        refine does_on rfl (by kernel_rfl) e6 fun K Q' hK => ?_
        clear e6
        go_simp; exact hK _ _ (Grow.refl _) rfl
      -- 16: pick t11 t20 false
      · intro w1 hg Ar seen
        obtain ⟨v6, e6, h6⟩ := seen.dep 6 (d := 11) (by kernel_rfl) (by kernel_rfl) rfl
        rcases h6 with rfl
        obtain ⟨v15, e15, h15⟩ := seen.dep 15 (d := 20) (by kernel_rfl) (by kernel_rfl) rfl
        rcases h15 with rfl
        refine does_plain rfl fun K Q' hK => ?_
        go_simp; exact hK _ _ (Grow.refl _) rfl
  intro w1 hg
  refine upon_w' (js := [0, 1, 2, 3, 4, 5, 6, 7, 8, 9, 10, 11, 12, 13, 14, 15, 16]) (by rfl) ?_
  refine upon_c (x := some 5) (by kernel_rfl) rfl fun v0 h0 => ?_
  rcases h0 with rfl
  refine upon_c (x := some 6) (by kernel_rfl) rfl fun v1 h1 => ?_
  rcases h1 with rfl
  refine upon_c (x := some 7) (by kernel_rfl) rfl fun v2 h2 => ?_
  rcases h2 with rfl
  refine upon_c (x := some 8) (by kernel_rfl) rfl fun v3 h3 => ?_
  rcases h3 with rfl
  refine upon_c (x := some 9) (by kernel_rfl) rfl fun v4 h4 => ?_
  rcases h4 with rfl
  refine upon_c (x := some 10) (by kernel_rfl) rfl fun v5 h5 => ?_
  rcases h5 with rfl
  refine upon_c (x := some 11) (by kernel_rfl) rfl fun v6 h6 => ?_
  rcases h6 with rfl
  refine upon_c (x := some 12) (by kernel_rfl) rfl fun v7 h7 => ?_
  rcases h7 with rfl
  refine upon_c (x := some 13) (by kernel_rfl) rfl fun v8 h8 => ?_
  rcases h8 with rfl
  refine upon_c (x := some 14) (by kernel_rfl) rfl fun v9 h9 => ?_
  rcases h9 with rfl
  refine upon_c (x := some 15) (by kernel_rfl) rfl fun v10 h10 => ?_
  rcases h10 with rfl
  refine upon_c (x := some 16) (by kernel_rfl) rfl fun v11 h11 => ?_
  rcases h11 with rfl
  refine upon_c (x := some 17) (by kernel_rfl) rfl fun v12 h12 => ?_
  rcases h12 with rfl
  refine upon_c (x := some 18) (by kernel_rfl) rfl fun v13 h13 => ?_
  rcases h13 with rfl
  refine upon_c (x := some 19) (by kernel_rfl) rfl fun v14 h14 => ?_
  rcases h14 with rfl
  refine upon_c (x := some 20) (by kernel_rfl) rfl fun v15 h15 => ?_
  rcases h15 with rfl
  refine upon_c (x := some 21) (by kernel_rfl) rfl fun v16 h16 => ?_
  rcases h16 with rfl
  refine upon_n ?_
  go_wp2
  go_ret
  exact ⟨rfl, H3.out.trans (Below.mono hg (by have := block_lt H1.out; omega))⟩

theorem at1_false (O : ObjD) (s : ObjV) (now t : Int) (w : World) (hd : O.dat 1 = (false, t)) :
    Calls Try.prog 23 #[.agg #[.int .i64 1, .int .i64 now], .agg (objCells O s)] w fun e w' => e = .returned (.bool (false)) ∧ Below w.heap.size w w' := by
  have fh : (objCells O s)[9]? = some (.bool false) := by show some (Value.bool (O.dat 1).1) = _; rw [hd]
  have ft : (objCells O s)[10]? = some (.int .i64 t) := by show some (Value.int .i64 (O.dat 1).2) = _; rw [hd]
  generalize objCells O s = A at *
  have FH := hid fh; have FT := hid ft
  clear hd fh ft
  generalize hbe : w.heap.size = b
  have HBE := hid hbe; clear hbe
  go_enter Try.func23, Try.ntmps23
  go_upto_region 1 with (fail)
  have h1 : ((w.alloc (.cells #[.int .i64 1, .int .i64 now] 66)).alloc (.cells A 39)).heap[w.heap.size]? = some (.cells #[.int .i64 1, .int .i64 now] 66 (0, 0)) := heap_alloc2_old _ _ _
  have h2 : ((w.alloc (.cells #[.int .i64 1, .int .i64 now] 66)).alloc (.cells A 39)).heap[w.heap.size + 1]? = some (.cells A 39 (0, 0)) := heap_alloc2_new _ _ _
  have h3 : Below w.heap.size w ((w.alloc (.cells #[.int .i64 1, .int .i64 now] 66)).alloc (.cells A 39)) := ((Below.refl _ _).alloc (Nat.le_refl _) _).alloc (by simp) _
  rw [HBE.out] at h1 h2 h3 ⊢
  generalize (w.alloc (.cells #[.int .i64 1, .int .i64 now] 66)).alloc (.cells A 39) = W at *
  have H1 := hid h1; have H2 := hid h2; have H3 := hid h3
  clear h1 h2 h3
  refine wp_region_each 17 [.eq (.pointer (some ⟨b, 0, none⟩)), .eq (.int .i64 1), .eq (.pointer (some ⟨b + 1, 7, none⟩)), .eq (.pointer (some ⟨b + 1, 9, none⟩)), .eq (.pointer (some ⟨b + 1, 9, none⟩)), .eq (.bool false), .eq (.bool false), .eq undef, .eq undef, .eq undef, .eq undef, .eq undef, .eq undef, .eq undef, .eq undef, .eq undef, .eq (.bool (false))] (by kernel_rfl) (by kernel_rfl) (by kernel_rfl) (by kernel_rfl) ?_ ?_
  · as_aux_lemma =>
      refine each_c (o' := _) ?_ (each_c (o' := _) ?_ (each_c (o' := _) ?_ (each_c (o' := _) ?_ (each_c (o' := _) ?_ (each_c (o' := _) ?_ (each_c (o' := _) ?_ (each_c (o' := _) ?_ (each_c (o' := _) ?_ (each_c (o' := _) ?_ (each_c (o' := _) ?_ (each_c (o' := _) ?_ (each_c (o' := _) ?_ (each_c (o' := _) ?_ (each_c (o' := _) ?_ (each_c (o' := _) ?_ (each_c (o' := _) ?_ (each_n)))))))))))))))))
      -- 0: fieldAddr 66 t2 0
      · intro w1 hg Ar seen
        have s2 := seen.slot 2 (v := .pointer (some ⟨b, 0, none⟩)) (by kernel_rfl) rfl
        refine does_plain rfl fun K Q' hK => ?_
        go_simp; exact hK _ _ (Grow.refl _) rfl
      -- 1: load 3 t5
      · intro w1 hg Ar seen
        obtain ⟨v0, e0, h0⟩ := seen.dep 0 (d := 5) (by kernel_rfl) (by kernel_rfl) rfl
        rcases h0 with rfl
        refine does_plain rfl fun K Q' hK => ?_
        have hc := cell_of_block (j := 0) ((hg.block _ (block_lt H1.out)).trans H1.out) rfl
        go_simp; exact hK _ _ (Grow.refl _) rfl
      -- 2: fieldAddr 39 t3 7
      · intro w1 hg Ar seen
        have s3 := seen.slot 3 (v := .pointer (some ⟨b + 1, 0, none⟩)) (by kernel_rfl) rfl
        refine does_plain rfl fun K Q' hK => ?_
        go_simp; exact hK _ _ (Grow.refl _) rfl
      -- 3: indexAddr 32 t7 t6
      · intro w1 hg Ar seen
        obtain ⟨v1, e1, h1⟩ := seen.dep 1 (d := 6) (by kernel_rfl) (by kernel_rfl) rfl
        rcases h1 with rfl
        obtain ⟨v2, e2, h2⟩ := seen.dep 2 (d := 7) (by kernel_rfl) (by kernel_rfl) rfl
        rcases h2 with rfl
        refine does_plain rfl fun K Q' hK => ?_
        go_simp; exact hK _ _ (Grow.refl _) rfl
      -- 4: fieldAddr 31 t8 0
      · intro w1 hg Ar seen
        obtain ⟨v3, e3, h3⟩ := seen.dep 3 (d := 8) (by kernel_rfl) (by kernel_rfl) rfl
        rcases h3 with rfl
        refine does_plain rfl fun K Q' hK => ?_
        go_simp; exact hK _ _ (Grow.refl _) rfl
      -- 5: load 4 t9
      · intro w1 hg Ar seen
        obtain ⟨v4, e4, h4⟩ := seen.dep 4 (d := 9) (by kernel_rfl) (by kernel_rfl) rfl
        rcases h4 with rfl
        refine does_plain rfl fun K Q' hK => ?_
        have hc := cell_of_block ((hg.block _ (block_lt H2.out)).trans H2.out) FH.out
        go_simp; exact hK _ _ (Grow.refl _) rfl
      -- 6: move t10
      · intro w1 hg Ar seen
        obtain ⟨v5, e5, h5⟩ := seen.dep 5 (d := 10) (by kernel_rfl) (by kernel_rfl) rfl
        rcases h5 with rfl
        refine does_plain rfl fun K Q' hK => ?_
        go_simp; exact hK _ _ (Grow.refl _) rfl
      -- 7: fieldAddr 66 t2 0
      · intro w1 hg Ar seen
        obtain ⟨v6, e6, h6⟩ := seen.dep 6 (d := 11) (by kernel_rfl) (by kernel_rfl) rfl
        rcases h6 with rfl
        exact does_off rfl (by kernel_rfl) e6 ne_ft (Grow.refl _) rfl
      -- 8: load 3 t12
      · intro w1 hg Ar seen
        obtain ⟨v6, e6, h6⟩ := seen.dep 6 (d := 11) (by kernel_rfl) (by kernel_rfl) rfl
        rcases h6 with rfl
        exact does_off rfl (by kernel_rfl) e6 ne_ft (Grow.refl _) rfl
      -- 9: fieldAddr 39 t3 7
      · intro w1 hg Ar seen
        obtain ⟨v6, e6, h6⟩ := seen.dep 6 (d := 11) (by kernel_rfl) (by kernel_rfl) rfl
        rcases h6 with rfl
        exact does_off rfl (by kernel_rfl) e6 ne_ft (Grow.refl _) rfl
      -- 10: indexAddr 32 t14 t13
      · intro w1 hg Ar seen
        obtain ⟨v6, e6, h6⟩ := seen.dep 6 (d := 11) (by kernel_rfl) (by kernel_rfl) rfl
        rcases h6 with rfl
        exact does_off rfl (by kernel_rfl) e6 ne_ft (Grow.refl _) rfl
      -- 11: fieldAddr 31 t15 1
      · intro w1 hg Ar seen
        obtain ⟨v6, e6, h6⟩ := seen.dep 6 (d := 11) (by kernel_rfl) (by kernel_rfl) rfl
        rcases h6 with rfl
        exact does_off rfl (by kernel_rfl) e6 ne_ft (Grow.refl _) rfl
      -- 12: load 2 t16
      · intro w1 hg Ar seen
        obtain ⟨v6, e6, h6⟩ := seen.dep 6 (d := 11) (by kernel_rfl) (by kernel_rfl) rfl
        rcases h6 with rfl
        exact does_off rfl (by kernel_rfl) e6 ne_ft (Grow.refl _) rfl
      -- 13: fieldAddr 66 t2 1
      · intro w1 hg Ar seen
        obtain ⟨v6, e6, h6⟩ := seen.dep 6 (d := 11) (by kernel_rfl) (by kernel_rfl) rfl
        rcases h6 with rfl
        exact does_off rfl (by kernel_rfl) e6 ne_ft (Grow.refl _) rfl
      -- 14: load 2 t18
      · intro w1 hg Ar seen
        obtain ⟨v6, e6, h6⟩ := seen.dep 6 (d := 11) (by kernel_rfl) (by kernel_rfl) rfl
        rcases h6 with rfl
        exact does_off rfl (by kernel_rfl) e6 ne_ft (Grow.refl _) rfl
      -- 15: binOp BinOp.leq 2 t17 t19 2
      · intro w1 hg Ar seen
        obtain ⟨v6, e6, h6⟩ := seen.dep 6 (d := 11) (by kernel_rfl) (by kernel_rfl) rfl
        rcases h6 with rfl
        exact does_off rfl (by kernel_rfl) e6 ne_ft (Grow.refl _) rfl
      -- 16: pick t11 t20 false
      · intro w1 hg Ar seen
        obtain ⟨v6, e6, h6⟩ := seen.dep 6 (d := 11) (by kernel_rfl) (by kernel_rfl) rfl
        rcases h6 with rfl
        obtain ⟨v15, e15, h15⟩ := seen.dep 15 (d := 20) (by kernel_rfl) (by kernel_rfl) rfl
        rcases h15 with rfl
        refine does_plain rfl fun K Q' hK => ?_
        go_simp; exact hK _ _ (Grow.refl _) rfl
  intro w1 hg
  refine upon_w' (js := [0, 1, 2, 3, 4, 5, 6, 7, 8, 9, 10, 11, 12, 13, 14, 15, 16]) (by rfl) ?_
  refine upon_c (x := some 5) (by kernel_rfl) rfl fun v0 h0 => ?_
  rcases h0 with rfl
  refine upon_c (x := some 6) (by kernel_rfl) rfl fun v1 h1 => ?_
  rcases h1 with rfl
  refine upon_c (x := some 7) (by kernel_rfl) rfl fun v2 h2 => ?_
  rcases h2 with rfl
  refine upon_c (x := some 8) (by kernel_rfl) rfl fun v3 h3 => ?_
  rcases h3 with rfl
  refine upon_c (x := some 9) (by kernel_rfl) rfl fun v4 h4 => ?_
  rcases h4 with rfl
  refine upon_c (x := some 10) (by kernel_rfl) rfl fun v5 h5 => ?_
  rcases h5 with rfl
  refine upon_c (x := some 11) (by kernel_rfl) rfl fun v6 h6 => ?_
  rcases h6 with rfl
  refine upon_c (x := some 12) (by kernel_rfl) rfl fun v7 h7 => ?_
  rcases h7 with rfl
  refine upon_c (x := some 13) (by kernel_rfl) rfl fun v8 h8 => ?_
  rcases h8 with rfl
  refine upon_c (x := some 14) (by kernel_rfl) rfl fun v9 h9 => ?_
  rcases h9 with rfl
  refine upon_c (x := some 15) (by kernel_rfl) rfl fun v10 h10 => ?_
  rcases h10 with rfl
  refine upon_c (x := some 16) (by kernel_rfl) rfl fun v11 h11 => ?_
  rcases h11 with rfl
  refine upon_c (x := some 17) (by kernel_rfl) rfl fun v12 h12 => ?_
  rcases h12 with rfl
  refine upon_c (x := some 18) (by kernel_rfl) rfl fun v13 h13 => ?_
  rcases h13 with rfl
  refine upon_c (x := some 19) (by kernel_rfl) rfl fun v14 h14 => ?_
  rcases h14 with rfl
  refine upon_c (x := some 20) (by kernel_rfl) rfl fun v15 h15 => ?_
  rcases h15 with rfl
  refine upon_c (x := some 21) (by kernel_rfl) rfl fun v16 h16 => ?_
  rcases h16 with rfl
  refine upon_n ?_
  go_wp2
  go_ret
  exact ⟨rfl, H3.out.trans (Below.mono hg (by have := block_lt H1.out; omega))⟩

theorem at4_true (O : ObjD) (s : ObjV) (now t : Int) (w : World) (hd : O.dat 4 = (true, t)) :
    Calls Try.prog 23 #[.agg #[.int .i64 4, .int .i64 now], .agg (objCells O s)] w fun e w' => e = .returned (.bool (decide (t ≤ now))) ∧ Below w.heap.size w w' := by
  have fh : (objCells O s)[15]? = some (.bool true) := by show some (Value.bool (O.dat 4).1) = _; rw [hd]
  have ft : (objCells O s)[16]? = some (.int .i64 t) := by show some (Value.int .i64 (O.dat 4).2) = _; rw [hd]
  generalize objCells O s = A at *
  have FH := hid fh; have FT := hid ft
  clear hd fh ft
  generalize hbe : w.heap.size = b
  have HBE := hid hbe; clear hbe
  go_enter Try.func23, Try.ntmps23
  go_upto_region 1 with (fail)
  have h1 : ((w.alloc (.cells #[.int .i64 4, .int .i64 now] 66)).alloc (.cells A 39)).heap[w.heap.size]? = some (.cells #[.int .i64 4, .int .i64 now] 66 (0, 0)) := heap_alloc2_old _ _ _
  have h2 : ((w.alloc (.cells #[.int .i64 4, .int .i64 now] 66)).alloc (.cells A 39)).heap[w.heap.size + 1]? = some (.cells A 39 (0, 0)) := heap_alloc2_new _ _ _
  have h3 : Below w.heap.size w ((w.alloc (.cells #[.int .i64 4, .int .i64 now] 66)).alloc (.cells A 39)) := ((Below.refl _ _).alloc (Nat.le_refl _) _).alloc (by simp) _
  rw [HBE.out] at h1 h2 h3 ⊢
  generalize (w.alloc (.cells #[.int .i64 4, .int .i64 now] 66)).alloc (.cells A 39) = W at *
  have H1 := hid h1; have H2 := hid h2; have H3 := hid h3
  clear h1 h2 h3
  refine wp_region_each 17 [.eq (.pointer (some ⟨b, 0, none⟩)), .eq (.int .i64 4), .eq (.pointer (some ⟨b + 1, 7, none⟩)), .eq (.pointer (some ⟨b + 1, 15, none⟩)), .eq (.pointer (some ⟨b + 1, 15, none⟩)), .eq (.bool true), .eq (.bool true), .eq (.pointer (some ⟨b, 0, none⟩)), .eq (.int .i64 4), .eq (.pointer (some ⟨b + 1, 7, none⟩)), .eq (.pointer (some ⟨b + 1, 15, none⟩)), .eq (.pointer (some ⟨b + 1, 16, none⟩)), .eq (.int .i64 t), .eq (.pointer (some ⟨b, 1, none⟩)), .eq (.int .i64 now), .eq (.bool (decide (t ≤ now))), .eq (.bool (decide (t ≤ now)))] (by kernel_rfl) (by kernel_rfl) (by kernel_rfl) (by kernel_rfl) ?_ ?_
  · as_aux_lemma =>
      refine each_c (o' := _) ?_ (each_c (o' := _) ?_ (each_c (o' := _) ?_ (each_c (o' := _) ?_ (each_c (o' := _) ?_ (each_c (o' := _) ?_ (each_c (o' := _) ?_ (each_c (o' := _) ?_ (each_c (o' := _) ?_ (each_c (o' := _) ?_ (each_c (o' := _) ?_ (each_c (o' := _) ?_ (each_c (o' := _) ?_ (each_c (o' := _) ?_ (each_c (o' := _) ?_ (each_c (o' := _) ?_ (each_c (o' := _) ?_ (each_n)))))))))))))))))
      -- 0: fieldAddr 66 t2 0
      · intro w1 hg Ar seen
        have s2 := seen.slot 2 (v := .pointer (some ⟨b, 0, none⟩)) (by kernel_rfl) rfl
        refine does_plain rfl fun K Q' hK => ?_
        go_simp; exact hK _ _ (Grow.refl _) rfl
      -- 1: load 3 t5
      · intro w1 hg Ar seen
        obtain ⟨v0, e0, h0⟩ := seen.dep 0 (d := 5) (by kernel_rfl) (by kernel_rfl) rfl
        rcases h0 with rfl
        refine does_plain rfl fun K Q' hK => ?_
        have hc := cell_of_block (j := 0) ((hg.block _ (block_lt H1.out)).trans H1.out) rfl
        go_simp; exact hK _ _ (Grow.refl _) rfl
      -- 2: fieldAddr 39 t3 7
      · intro w1 hg Ar seen
        have s3 := seen.slot 3 (v := .pointer (some ⟨b + 1, 0, none⟩)) (by kernel_rfl) rfl
        refine does_plain rfl fun K Q' hK => ?_
        go_simp; exact hK _ _ (Grow.refl _) rfl
      -- 3: indexAddr 32 t7 t6
      · intro w1 hg Ar seen
        obtain ⟨v1, e1, h1⟩ := seen.dep 1 (d := 6) (by kernel_rfl) (by kernel_rfl) rfl
        rcases h1 with rfl
        obtain ⟨v2, e2, h2⟩ := seen.dep 2 (d := 7) (by kernel_rfl) (by kernel_rfl) rfl
        rcases h2 with rfl
        refine does_plain rfl fun K Q' hK => ?_
        go_simp; exact hK _ _ (Grow.refl _) rfl
      -- 4: fieldAddr 31 t8 0
      · intro w1 hg Ar seen
        obtain ⟨v3, e3, h3⟩ := seen.dep 3 (d := 8) (by kernel_rfl) (by kernel_rfl) rfl
        rcases h3 with rfl
        refine does_plain rfl fun K Q' hK => ?_
        go_simp; exact hK _ _ (Grow.refl _) rfl
      -- 5: load 4 t9
      · intro w1 hg Ar seen
        obtain ⟨v4, e4, h4⟩ := seen.dep 4 (d := 9) (by kernel_rfl) (by kernel_rfl) rfl
        rcases h4 with rfl
        refine does_plain rfl fun K Q' hK => ?_
        have hc := cell_of_block ((hg.block _ (block_lt H2.out)).trans H2.out) FH.out
        go_simp; exact hK _ _ (Grow.refl _) rfl
      -- 6: move t10
      · intro w1 hg Ar seen
        obtain ⟨v5, e5, h5⟩ := seen.dep 5 (d := 10) (by kernel_rfl) (by kernel_rfl) rfl
        rcases h5 with rfl
        refine does_plain rfl fun K Q' hK => ?_
        go_simp; exact hK _ _ (Grow.refl _) rfl
      -- 7: fieldAddr 66 t2 0
      · intro w1 hg Ar seen
        obtain ⟨v6, e6, h6⟩ := seen.dep 6 (d := 11) (by kernel_rfl) (by kernel_rfl) rfl
        rcases h6 with rfl
        have s2 := seen.slot 2 (v := .pointer (some ⟨b, 0, none⟩)) (by kernel_rfl) rfl
        refine does_on rfl (by kernel_rfl) e6 fun K Q' hK => ?_
        clear e6
        go_simp; exact hK _ _ (Grow.refl _) rfl
      -- 8: load 3 t12
      · intro w1 hg Ar seen
        obtain ⟨v7, e7, h7⟩ := seen.dep 7 (d := 12) (by kernel_rfl) (by kernel_rfl) rfl
        rcases h7 with rfl
        obtain ⟨v6, e6, h6⟩ := seen.dep 6 (d := 11) (by kernel_rfl) (by kernel_rfl) rfl
        rcases h6 with rfl
        refine does_on rfl (by kernel_rfl) e6 fun K Q' hK => ?_
        clear e6
        have hc := cell_of_block (j := 0) ((hg.block _ (block_lt H1.out)).trans H1.out) rfl
        go_simp; exact hK _ _ (Grow.refl _) rfl
      -- 9: fieldAddr 39 t3 7
      · intro w1 hg Ar seen
        obtain ⟨v6, e6, h6⟩ := seen.dep 6 (d := 11) (by kernel_rfl) (by kernel_rfl) rfl
        rcases h6 with rfl
        have s3 := seen.slot 3 (v := .pointer (some ⟨b + 1, 0, none⟩)) (by kernel_rfl) rfl
        refine does_on rfl (by kernel_rfl) e6 fun K Q' hK => ?_
        clear e6
        go_simp; exact hK _ _ (Grow.refl _) rfl
      -- 10: indexAddr 32 t14 t13
      · intro w1 hg Ar seen
        obtain ⟨v8, e8, h8⟩ := seen.dep 8 (d := 13) (by kernel_rfl) (by kernel_rfl) rfl
        rcases h8 with rfl
        obtain ⟨v9, e9, h9⟩ := seen.dep 9 (d := 14) (by kernel_rfl) (by kernel_rfl) rfl
        rcases h9 with rfl
        obtain ⟨v6, e6, h6⟩ := seen.dep 6 (d := 11) (by kernel_rfl) (by kernel_rfl) rfl
        rcases h6 with rfl
        refine does_on rfl (by kernel_rfl) e6 fun K Q' hK => ?_
        clear e6
        go_simp; exact hK _ _ (Grow.refl _) rfl
      -- 11: fieldAddr 31 t15 1
      · intro w1 hg Ar seen
        obtain ⟨v10, e10, h10⟩ := seen.dep 10 (d := 15) (by kernel_rfl) (by kernel_rfl) rfl
        rcases h10 with rfl
        obtain ⟨v6, e6, h6⟩ := seen.dep 6 (d := 11) (by kernel_rfl) (by kernel_rfl) rfl
        rcases h6 with rfl
        refine does_on rfl (by kernel_rfl) e6 fun K Q' hK => ?_
        clear e6
        go_simp; exact hK _ _ (Grow.refl _) rfl
      -- 12: load 2 t16
      · intro w1 hg Ar seen
        obtain ⟨v11, e11, h11⟩ := seen.dep 11 (d := 16) (by kernel_rfl) (by kernel_rfl) rfl
        rcases h11 with rfl
        obtain ⟨v6, e6, h6⟩ := seen.dep 6 (d := 11) (by kernel_rfl) (by kernel_rfl) rfl
        rcases h6 with rfl
        refine does_on rfl (by kernel_rfl) e6 fun K Q' hK => ?_
        clear e6
        have hc := cell_of_block ((hg.block _ (block_lt H2.out)).trans H2.out) FT.out
        go_simp; exact hK _ _ (Grow.refl _) rfl
      -- 13: fieldAddr 66 t2 1
      · intro w1 hg Ar seen
        obtain ⟨v6, e6, h6⟩ := seen.dep 6 (d := 11) (by kernel_rfl) (by kernel_rfl) rfl
        rcases h6 with rfl
        have s2 := seen.slot 2 (v := .pointer (some ⟨b, 0, none⟩)) (by kernel_rfl) rfl
        refine does_on rfl (by kernel_rfl) e6 fun K Q' hK => ?_
        clear e6
        go_simp; exact hK _ _ (Grow.refl _) rfl
      -- 14: load 2 t18
      · intro w1 hg Ar seen
        obtain ⟨v13, e13, h13⟩ := seen.dep 13 (d := 18) (by kernel_rfl) (by kernel_rfl) rfl
        rcases h13 with rfl
        obtain ⟨v6, e6, h6⟩ := seen.dep 6 (d := 11) (by kernel_rfl) (by kernel_rfl) rfl
        rcases h6 with rfl
        refine does_on rfl (by kernel_rfl) e6 fun K Q' hK => ?_
        clear e6
        have hc := cell_of_block (j := 1) ((hg.block _ (block_lt H1.out)).trans H1.out) rfl
        go_simp; exact hK _ _ (Grow.refl _) rfl
      -- 15: binOp BinOp.leq 2 t17 t19 2
      · intro w1 hg Ar seen
        obtain ⟨v12, e12, h12⟩ := seen.dep 12 (d := 17) (by kernel_rfl) (by kernel_rfl) rfl
        rcases h12 with rfl
        obtain ⟨v14, e14, h14⟩ := seen.dep 14 (d := 19) (by kernel_rfl) (by kernel_rfl) rfl
        rcases h14 with rfl
        obtain ⟨v6, e6, h6⟩ := seen.dep 6 (d := 11) (by kernel_rfl) (by kernel_rfl) rfl
        rcases h6 with rfl
        refine does_on rfl (by kernel_rfl) e6 fun K Q' hK => ?_
        clear e6
        go_simp; exact hK _ _ (Grow.refl _) rfl
      -- 16: pick t11 t20 false
      · intro w1 hg Ar seen
        obtain ⟨v6, e6, h6⟩ := seen.dep 6 (d := 11) (by kernel_rfl) (by kernel_rfl) rfl
        rcases h6 with rfl
        obtain ⟨v15, e15, h15⟩ := seen.dep 15 (d := 20) (by kernel_rfl) (by kernel_rfl) rfl
        rcases h15 with rfl
        refine does_plain rfl fun K Q' hK => ?_
        go_simp; exact hK _ _ (Grow.refl _) rfl
  intro w1 hg
  refine upon_w' (js := [0, 1, 2, 3, 4, 5, 6, 7, 8, 9, 10, 11, 12, 13, 14, 15, 16]) (by rfl) ?_
  refine upon_c (x := some 5) (by kernel_rfl) rfl fun v0 h0 => ?_
  rcases h0 with rfl
  refine upon_c (x := some 6) (by kernel_rfl) rfl fun v1 h1 => ?_
  rcases h1 with rfl
  refine upon_c (x := some 7) (by kernel_rfl) rfl fun v2 h2 => ?_
  rcases h2 with rfl
  refine upon_c (x := some 8) (by kernel_rfl) rfl fun v3 h3 => ?_
  rcases h3 with rfl
  refine upon_c (x := some 9) (by kernel_rfl) rfl fun v4 h4 => ?_
  rcases h4 with rfl
  refine upon_c (x := some 10) (by kernel_rfl) rfl fun v5 h5 => ?_
  rcases h5 with rfl
  refine upon_c (x := some 11) (by kernel_rfl) rfl fun v6 h6 => ?_
  rcases h6 with rfl
  refine upon_c (x := some 12) (by kernel_rfl) rfl fun v7 h7 => ?_
  rcases h7 with rfl
  refine upon_c (x := some 13) (by kernel_rfl) rfl fun v8 h8 => ?_
  rcases h8 with rfl
  refine upon_c (x := some 14) (by kernel_rfl) rfl fun v9 h9 => ?_
  rcases h9 with rfl
  refine upon_c (x := some 15) (by kernel_rfl) rfl fun v10 h10 => ?_
  rcases h10 with rfl
  refine upon_c (x := some 16) (by kernel_rfl) rfl fun v11 h11 => ?_
  rcases h11 with rfl
  refine upon_c (x := some 17) (by kernel_rfl) rfl fun v12 h12 => ?_
  rcases h12 with rfl
  refine upon_c (x := some 18) (by kernel_rfl) rfl fun v13 h13 => ?_
  rcases h13 with rfl
  refine upon_c (x := some 19) (by kernel_rfl) rfl fun v14 h14 => ?_
  rcases h14 with rfl
  refine upon_c (x := some 20) (by kernel_rfl) rfl fun v15 h15 => ?_
  rcases h15 with rfl
  refine upon_c (x := some 21) (by kernel_rfl) rfl fun v16 h16 => ?_
  rcases h16 with rfl
  refine upon_n ?_
  go_wp2
  go_ret
  exact ⟨rfl, H3.out.trans (Below.mono hg (by have := block_lt H1.out; omega))⟩

theorem at4_false (O : ObjD) (s : ObjV) (now t : Int) (w : World) (hd : O.dat 4 = (false, t)) :
    Calls Try.prog 23 #[.agg #[.int .i64 4, .int .i64 now], .agg (objCells O s)] w fun e w' => e = .returned (.bool (false)) ∧ Below w.heap.size w w' := by
  have fh : (objCells O s)[15]? = some (.bool false) := by show some (Value.bool (O.dat 4).1) = _; rw [hd]
  have ft : (objCells O s)[16]? = some (.int .i64 t) := by show some (Value.int .i64 (O.dat 4).2) = _; rw [hd]
  generalize objCells O s = A at *
  have FH := hid fh; have FT := hid ft
  clear hd fh ft
  generalize hbe : w.heap.size = b
  have HBE := hid hbe; clear hbe
  go_enter Try.func23, Try.ntmps23
  go_upto_region 1 with (fail)
  have h1 : ((w.alloc (.cells #[.int .i64 4, .int .i64 now] 66)).alloc (.cells A 39)).heap[w.heap.size]? = some (.cells #[.int .i64 4, .int .i64 now] 66 (0, 0)) := heap_alloc2_old _ _ _
  have h2 : ((w.alloc (.cells #[.int .i64 4, .int .i64 now] 66)).alloc (.cells A 39)).heap[w.heap.size + 1]? = some (.cells A 39 (0, 0)) := heap_alloc2_new _ _ _
  have h3 : Below w.heap.size w ((w.alloc (.cells #[.int .i64 4, .int .i64 now] 66)).alloc (.cells A 39)) := ((Below.refl _ _).alloc (Nat.le_refl _) _).alloc (by simp) _
  rw [HBE.out] at h1 h2 h3 ⊢
  generalize (w.alloc (.cells #[.int .i64 4, .int .i64 now] 66)).alloc (.cells A 39) = W at *
  have H1 := hid h1; have H2 := hid h2; have H3 := hid h3
  clear h1 h2 h3
  refine wp_region_each 17 [.eq (.pointer (some ⟨b, 0, none⟩)), .eq (.int .i64 4), .eq (.pointer (some ⟨b + 1, 7, none⟩)), .eq (.pointer (some ⟨b + 1, 15, none⟩)), .eq (.pointer (some ⟨b + 1, 15, none⟩)), .eq (.bool false), .eq (.bool false), .eq undef, .eq undef, .eq undef, .eq undef, .eq undef, .eq undef, .eq undef, .eq undef, .eq undef, .eq (.bool (false))] (by kernel_rfl) (by kernel_rfl) (by kernel_rfl) (by kernel_rfl) ?_ ?_
  · as_aux_lemma =>
      refine each_c (o' := _) ?_ (each_c (o' := _) ?_ (each_c (o' := _) ?_ (each_c (o' := _) ?_ (each_c (o' := _) ?_ (each_c (o' := _) ?_ (each_c (o' := _) ?_ (each_c (o' := _) ?_ (each_c (o' := _) ?_ (each_c (o' := _) ?_ (each_c (o' := _) ?_ (each_c (o' := _) ?_ (each_c (o' := _) ?_ (each_c (o' := _) ?_ (each_c (o' := _) ?_ (each_c (o' := _) ?_ (each_c (o' := _) ?_ (each_n)))))))))))))))))
      -- 0: fieldAddr 66 t2 0
      · intro w1 hg Ar seen
        have s2 := seen.slot 2 (v := .pointer (some ⟨b, 0, none⟩)) (by kernel_rfl) rfl
        refine does_plain rfl fun K Q' hK => ?_
        go_simp; exact hK _ _ (Grow.refl _) rfl
      -- 1: load 3 t5
      · intro w1 hg Ar seen
        obtain ⟨v0, e0, h0⟩ := seen.dep 0 (d := 5) (by kernel_rfl) (by kernel_rfl) rfl
        rcases h0 with rfl
        refine does_plain rfl fun K Q' hK => ?_
        have hc := cell_of_block (j := 0) ((hg.block _ (block_lt H1.out)).trans H1.out) rfl
        go_simp; exact hK _ _ (Grow.refl _) rfl
      -- 2: fieldAddr 39 t3 7
      · intro w1 hg Ar seen
        have s3 := seen.slot 3 (v := .pointer (some ⟨b + 1, 0, none⟩)) (by kernel_rfl) rfl
        refine does_plain rfl fun K Q' hK => ?_
        go_simp; exact hK _ _ (Grow.refl _) rfl
      -- 3: indexAddr 32 t7 t6
      · intro w1 hg Ar seen
        obtain ⟨v1, e1, h1⟩ := seen.dep 1 (d := 6) (by kernel_rfl) (by kernel_rfl) rfl
        rcases h1 with rfl
        obtain ⟨v2, e2, h2⟩ := seen.dep 2 (d := 7) (by kernel_rfl) (by kernel_rfl) rfl
        rcases h2 with rfl
        refine does_plain rfl fun K Q' hK => ?_
        go_simp; exact hK _ _ (Grow.refl _) rfl
      -- 4: fieldAddr 31 t8 0
      · intro w1 hg Ar seen
        obtain ⟨v3, e3, h3⟩ := seen.dep 3 (d := 8) (by kernel_rfl) (by kernel_rfl) rfl
        rcases h3 with rfl
        refine does_plain rfl fun K Q' hK => ?_
        go_simp; exact hK _ _ (Grow.refl _) rfl
      -- 5: load 4 t9
      · intro w1 hg Ar seen
        obtain ⟨v4, e4, h4⟩ := seen.dep 4 (d := 9) (by kernel_rfl) (by kernel_rfl) rfl
        rcases h4 with rfl
        refine does_plain rfl fun K Q' hK => ?_
        have hc := cell_of_block ((hg.block _ (block_lt H2.out)).trans H2.out) FH.out
        go_simp; exact hK _ _ (Grow.refl _) rfl
      -- 6: move t10
      · intro w1 hg Ar seen
        obtain ⟨v5, e5, h5⟩ := seen.dep 5 (d := 10) (by kernel_rfl) (by kernel_rfl) rfl
        rcases h5 with rfl
        refine does_plain rfl fun K Q' hK => ?_
        go_simp; exact hK _ _ (Grow.refl _) rfl
      -- 7: fieldAddr 66 t2 0
      · intro w1 hg Ar seen
        obtain ⟨v6, e6, h6⟩ := seen.dep 6 (d := 11) (by kernel_rfl) (by kernel_rfl) rfl
        rcases h6 with rfl
        exact does_off rfl (by kernel_rfl) e6 ne_ft (Grow.refl _) rfl
      -- 8: load 3 t12
      · intro w1 hg Ar seen
        obtain ⟨v6, e6, h6⟩ := seen.dep 6 (d := 11) (by kernel_rfl) (by kernel_rfl) rfl
        rcases h6 with rfl
        exact does_off rfl (by kernel_rfl) e6 ne_ft (Grow.refl _) rfl
      -- 9: fieldAddr 39 t3 7
      · intro w1 hg Ar seen
        obtain ⟨v6, e6, h6⟩ := seen.dep 6 (d := 11) (by kernel_rfl) (by kernel_rfl) rfl
        rcases h6 with rfl
        exact does_off rfl (by kernel_rfl) e6 ne_ft (Grow.refl _) rfl
      -- 10: indexAddr 32 t14 t13
      · intro w1 hg Ar seen
        obtain ⟨v6, e6, h6⟩ := seen.dep 6 (d := 11) (by kernel_rfl) (by kernel_rfl) rfl
        rcases h6 with rfl
        exact does_off rfl (by kernel_rfl) e6 ne_ft (Grow.refl _) rfl
      -- 11: fieldAddr 31 t15 1
      · intro w1 hg Ar seen
        obtain ⟨v6, e6, h6⟩ := seen.dep 6 (d := 11) (by kernel_rfl) (by kernel_rfl) rfl
        rcases h6 with rfl
        exact does_off rfl (by kernel_rfl) e6 ne_ft (Grow.refl _) rfl
      -- 12: load 2 t16
      · intro w1 hg Ar seen
        obtain ⟨v6, e6, h6⟩ := seen.dep 6 (d := 11) (by kernel_rfl) (by kernel_rfl) rfl
        rcases h6 with rfl
        exact does_off rfl (by kernel_rfl) e6 ne_ft (Grow.refl _) rfl
      -- 13: fieldAddr 66 t2 1
      · intro w1 hg Ar seen
        obtain ⟨v6, e6, h6⟩ := seen.dep 6 (d := 11) (by kernel_rfl) (by kernel_rfl) rfl
        rcases h6 with rfl
        exact does_off rfl (by kernel_rfl) e6 ne_ft (Grow.refl _) rfl
      -- 14: load 2 t18
      · intro w1 hg Ar seen
        obtain ⟨v6, e6, h6⟩ := seen.dep 6 (d := 11) (by kernel_rfl) (by kernel_rfl) rfl
        rcases h6 with rfl
        exact does_off rfl (by kernel_rfl) e6 ne_ft (Grow.refl _) rfl
      -- 15: binOp BinOp.leq 2 t17 t19 2
      · intro w1 hg Ar seen
        obtain ⟨v6, e6, h6⟩ := seen.dep 6 (d := 11) (by kernel_rfl) (by kernel_rfl) rfl
        rcases h6 with rfl
        exact does_off rfl (by kernel_rfl) e6 ne_ft (Grow.refl _) rfl
      -- 16: pick t11 t20 false
      · intro w1 hg Ar seen
        obtain ⟨v6, e6, h6⟩ := seen.dep 6 (d := 11) (by kernel_rfl) (by kernel_rfl) rfl
        rcases h6 with rfl
        obtain ⟨v15, e15, h15⟩ := seen.dep 15 (d := 20) (by kernel_rfl) (by kernel_rfl) rfl
        rcases h15 with rfl
        refine does_plain rfl fun K Q' hK => ?_
        go_simp; exact hK _ _ (Grow.refl _) rfl
  intro w1 hg
  refine upon_w' (js := [0, 1, 2, 3, 4, 5, 6, 7, 8, 9, 10, 11, 12, 13, 14, 15, 16]) (by rfl) ?_
  refine upon_c (x := some 5) (by kernel_rfl) rfl fun v0 h0 => ?_
  rcases h0 with rfl
  refine upon_c (x := some 6) (by kernel_rfl) rfl fun v1 h1 => ?_
  rcases h1 with rfl
  refine upon_c (x := some 7) (by kernel_rfl) rfl fun v2 h2 => ?_
  rcases h2 with rfl
  refine upon_c (x := some 8) (by kernel_rfl) rfl fun v3 h3 => ?_
  rcases h3 with rfl
  refine upon_c (x := some 9) (by kernel_rfl) rfl fun v4 h4 => ?_
  rcases h4 with rfl
  refine upon_c (x := some 10) (by kernel_rfl) rfl fun v5 h5 => ?_
  rcases h5 with rfl
  refine upon_c (x := some 11) (by kernel_rfl) rfl fun v6 h6 => ?_
  rcases h6 with rfl
  refine upon_c (x := some 12) (by kernel_rfl) rfl fun v7 h7 => ?_
  rcases h7 with rfl
  refine upon_c (x := some 13) (by kernel_rfl) rfl fun v8 h8 => ?_
  rcases h8 with rfl
  refine upon_c (x := some 14) (by kernel_rfl) rfl fun v9 h9 => ?_
  rcases h9 with rfl
  refine upon_c (x := some 15) (by kernel_rfl) rfl fun v10 h10 => ?_
  rcases h10 with rfl
  refine upon_c (x := some 16) (by kernel_rfl) rfl fun v11 h11 => ?_
  rcases h11 with rfl
  refine upon_c (x := some 17) (by kernel_rfl) rfl fun v12 h12 => ?_
  rcases h12 with rfl
  refine upon_c (x := some 18) (by kernel_rfl) rfl fun v13 h13 => ?_
  rcases h13 with rfl
  refine upon_c (x := some 19) (by kernel_rfl) rfl fun v14 h14 => ?_
  rcases h14 with rfl
  refine upon_c (x := some 20) (by kernel_rfl) rfl fun v15 h15 => ?_
  rcases h15 with rfl
  refine upon_c (x := some 21) (by kernel_rfl) rfl fun v16 h16 => ?_
  rcases h16 with rfl
  refine upon_n ?_
  go_wp2
  go_ret
  exact ⟨rfl, H3.out.trans (Below.mono hg (by have := block_lt H1.out; omega))⟩

def atV (d : Bool × Int) (now : Int) : Bool := d.1 && decide (d.2 ≤ now)

theorem at1_any (O : ObjD) (s : ObjV) (now : Int) (w : World) :
    Calls Try.prog 23 #[.agg #[.int .i64 1, .int .i64 now], .agg (objCells O s)] w fun e w' => e = .returned (.bool (atV (O.dat 1) now)) ∧ Below w.heap.size w w' := by
  rcases hd : O.dat 1 with ⟨h, t⟩
  cases h with
  | true => exact at1_true O s now t w hd
  | false => exact at1_false O s now t w hd

theorem at4_any (O : ObjD) (s : ObjV) (now : Int) (w : World) :
    Calls Try.prog 23 #[.agg #[.int .i64 4, .int .i64 now], .agg (objCells O s)] w fun e w' => e = .returned (.bool (atV (O.dat 4) now)) ∧ Below w.heap.size w w' := by
  rcases hd : O.dat 4 with ⟨h, t⟩
  cases h with
  | true => exact at4_true O s now t w hd
  | false => exact at4_false O s now t w hd

end Go.Proofs.Ytkmagdhbbhemhaa
