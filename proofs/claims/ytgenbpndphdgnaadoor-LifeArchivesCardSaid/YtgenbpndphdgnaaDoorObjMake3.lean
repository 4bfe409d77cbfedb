/- locksmithhand.Object: the object of raw numbers. -/
import Derived.Test.YtgenbpndphdgnaaDoorObjRound
namespace Go.Proofs.YtgenbpndphdgnaaDoor
open Go.RowKit
set_option linter.unusedVariables false
set_option linter.unusedSimpArgs false
set_option maxRecDepth 1000000
set_option maxHeartbeats 16000000
theorem object_any (x : RawD) (hx : x.ok) (l : List RawD) (aL : Option Addr) (nL cL : Nat) (w : World) (hal : ArgSl 4 RawR w (.slice aL nL cL) l) :
    Calls Tryd.prog 6 #[.agg x.cells, .slice aL nL cL] w fun e w' => ∃ s, e = .returned (.agg (objCells (objRaw x l) s)) ∧ ObjM w' (objRaw x l) s ∧ (∀ k ∈ s.foot, w.heap.size ≤ k) ∧ Below w.heap.size w w' := by
  have HAL := hid hal; clear hal
  generalize hbe : w.heap.size = b0
  have HBE := hid hbe; clear hbe
  have hsx := tdiv_in x.a 12 (by omega) hx.2.1
  have hsy := tdiv_in x.b 5 (by omega) hx.2.2.1
  have HX := hid hx; have HSX := hid hsx; have HSY := hid hsy
  clear hx hsx hsy
  go_enter Tryd.func6, Tryd.ntmps6
  go_upto_region 1 with (refine wpList_alloc_obj rfl 35 rfl _ oZeroO ?_)
  go_simp
  have h1 : ((w.alloc (.cells x.cells 23)).alloc (.cells (objCells zObj zObjV) 35)).heap[w.heap.size]? = some (.cells x.cells 23 (0, 0)) := heap_alloc2_old _ _ _
  have h2 : ((w.alloc (.cells x.cells 23)).alloc (.cells (objCells zObj zObjV) 35)).heap[w.heap.size + 1]? = some (.cells (objCells zObj zObjV) 35 (0, 0)) := heap_alloc2_new _ _ _
  have h3 : Below w.heap.size w ((w.alloc (.cells x.cells 23)).alloc (.cells (objCells zObj zObjV) 35)) := ((Below.refl _ _).alloc (Nat.le_refl _) _).alloc (by simp) _
  have h4 : ((w.alloc (.cells x.cells 23)).alloc (.cells (objCells zObj zObjV) 35)).heap.size = w.heap.size + 2 := by simp
  rw [HBE.out] at h1 h2 h3 h4 ⊢
  generalize (w.alloc (.cells x.cells 23)).alloc (.cells (objCells zObj zObjV) 35) = W at *
  have H1 := hid h1; have H2 := hid h2; have H3 := hid h3; have H4 := hid h4
  clear h1 h2 h3 h4
  refine wp_region_each 34 [.eq (.pointer (some ⟨b0, 1, none⟩)), .eq (.int .i64 x.a), .eq (.string (handId x.a)), .eq (.agg (intsA typL)), .eq (.pointer (some ⟨b0, 2, none⟩)), .eq (.int .i64 x.b), .eq (.int .i64 (pick x.b 5)), .eq (.int .i64 (typL.getD (pickN x.b 5) 0)), .eq (.agg (intsA algL)), .eq (.pointer (some ⟨b0, 3, none⟩)), .eq (.int .i64 x.c), .eq (.int .i64 (pick x.c 4)), .eq (.int .i64 (algL.getD (pickN x.c 4) 0)), .eq (.agg (intsA maskL)), .eq (.pointer (some ⟨b0, 1, none⟩)), .eq (.int .i64 x.a), .eq (.int .i64 (x.a.tdiv 12)), .eq (.int .i64 (pick (x.a.tdiv 12) 5)), .eq (.int .i64 (maskL.getD (pickN (x.a.tdiv 12) 5) 0)), .eq (.agg matA), .eq (.pointer (some ⟨b0, 2, none⟩)), .eq (.int .i64 x.b), .eq (.int .i64 (x.b.tdiv 5)), .eq (.int .i64 (pick (x.b.tdiv 5) 5)), .eq (.int .i64 ((matN (pickN (x.b.tdiv 5) 5) : Nat) : Int)), .eq (.pointer (some ⟨b0, 3, none⟩)), .eq (.int .i64 x.c), stMat (b0 + 2) (matN (pickN (x.b.tdiv 5) 5)) (handBytes (matN (pickN (x.b.tdiv 5) 5)) x.c), .eq (.pointer (some ⟨b0, 0, none⟩)), .eq (.int .i64 x.kind), .eq (.int .i64 (pick x.kind 6)), .eq (.int .i64 (1 + pick x.kind 6)), stObj (b0 + 2) (matN (pickN (x.b.tdiv 5) 5)) (objInit x), stNew (b0 + 2)] (by kernel_rfl) (by kernel_rfl) (by kernel_rfl) (by kernel_rfl) ?_ ?_
  · as_aux_lemma =>
      refine each_c (o' := _) ?_ (each_c (o' := _) ?_ (each_c (o' := _) ?_ (each_c (o' := _) ?_ (each_c (o' := _) ?_ (each_c (o' := _) ?_ (each_c (o' := _) ?_ (each_c (o' := _) ?_ (each_c (o' := _) ?_ (each_c (o' := _) ?_ (each_c (o' := _) ?_ (each_c (o' := _) ?_ (each_c (o' := _) ?_ (each_c (o' := _) ?_ (each_c (o' := _) ?_ (each_c (o' := _) ?_ (each_c (o' := _) ?_ (each_c (o' := _) ?_ (each_c (o' := _) ?_ (each_c (o' := _) ?_ (each_c (o' := _) ?_ (each_c (o' := _) ?_ (each_c (o' := _) ?_ (each_c (o' := _) ?_ (each_c (o' := _) ?_ (each_c (o' := _) ?_ (each_c (o' := _) ?_ (each_c (o' := _) ?_ (each_c (o' := _) ?_ (each_c (o' := _) ?_ (each_c (o' := _) ?_ (each_c (o' := _) ?_ (each_c (o' := _) ?_ (each_c (o' := _) ?_ (each_n))))))))))))))))))))))))))))))))))
      -- 0: fieldAddr 23 t2 1
      · intro w1 hg Ar seen
        have s2 := seen.slot 2 (v := .pointer (some ⟨b0, 0, none⟩)) (by kernel_rfl) rfl
        refine does_plain rfl fun K Q' hK => ?_
        go_simp; exact hK _ _ (Grow.refl _) rfl
      -- 1: load 3 t16
      · intro w1 hg Ar seen
        obtain ⟨v0, e0, h0⟩ := seen.dep 0 (d := 16) (by kernel_rfl) (by kernel_rfl) rfl
        rcases h0 with rfl
        refine does_plain rfl fun K Q' hK => ?_
        have hc := cell_of_block (j := 1) ((hg.block _ (block_lt H1.out)).trans H1.out) rfl
        go_simp; exact hK _ _ (Grow.refl _) rfl
      -- 2: call fn18<locksmithhand.Id> [t17] T[3]
      · intro w1 hg Ar seen
        obtain ⟨v1, e1, h1⟩ := seen.dep 1 (d := 17) (by kernel_rfl) (by kernel_rfl) rfl
        rcases h1 with rfl
        refine does_plain rfl fun K Q' hK => ?_
        go_simp
        refine (handId_any x.a _).mono ?_
        rintro e u ⟨rfl, rfl⟩
        exact hK _ _ (Grow.refl _) rfl
      -- 3: build 50 [(0, 2:i64), (1, 2:i64), (2, 3:i64), (3, 4:i64), (4, 7:i64)]
      · intro w1 hg Ar seen
        refine does_plain rfl fun K Q' hK => ?_
        refine wp_build_obj _ _ rfl #[(0, .int .i64 2), (1, .int .i64 2), (2, .int .i64 3), (3, .int .i64 4), (4, .int .i64 7)] (by simp [Act.eval]) _ (by show Eq _ (Result.ok (Value.agg (intsA typL)) _); kernel_rfl) ?_
        exact hK _ _ (Grow.refl _) rfl
      -- 4: fieldAddr 23 t2 2
      · intro w1 hg Ar seen
        have s2 := seen.slot 2 (v := .pointer (some ⟨b0, 0, none⟩)) (by kernel_rfl) rfl
        refine does_plain rfl fun K Q' hK => ?_
        go_simp; exact hK _ _ (Grow.refl _) rfl
      -- 5: load 3 t20
      · intro w1 hg Ar seen
        obtain ⟨v4, e4, h4⟩ := seen.dep 4 (d := 20) (by kernel_rfl) (by kernel_rfl) rfl
        rcases h4 with rfl
        refine does_plain rfl fun K Q' hK => ?_
        have hc := cell_of_block (j := 2) ((hg.block _ (block_lt H1.out)).trans H1.out) rfl
        go_simp; exact hK _ _ (Grow.refl _) rfl
      -- 6: call fn8<locksmithhand.Pick> [t21, 5:i64] T[3, 3]
      · intro w1 hg Ar seen
        obtain ⟨v5, e5, h5⟩ := seen.dep 5 (d := 21) (by kernel_rfl) (by kernel_rfl) rfl
        rcases h5 with rfl
        refine does_plain rfl fun K Q' hK => ?_
        go_simp
        refine (pick_any (x.b) 5 _ (by omega) (by omega)).mono ?_
        rintro e u ⟨rfl, rfl⟩
        exact hK _ _ (Grow.refl _) rfl
      -- 7: index 50 t19 t22
      · intro w1 hg Ar seen
        obtain ⟨v3, e3, h3⟩ := seen.dep 3 (d := 19) (by kernel_rfl) (by kernel_rfl) rfl
        rcases h3 with rfl
        obtain ⟨v6, e6, h6⟩ := seen.dep 6 (d := 22) (by kernel_rfl) (by kernel_rfl) rfl
        rcases h6 with rfl
        refine does_plain rfl fun K Q' hK => ?_
        refine wp_index_row _ _ rfl Tryd.underlying50 sizeInt Tryd.underlying3 rfl (intsA typL) (by simp [Act.eval, e3]) _ (by simp [Act.eval, e6]) (pickN x.b 5) (pickN_eq _ _ (by omega)) _ (pickN_lt _ 5 (by omega)) (intsA_get typL _ (pickN_lt _ 5 (by omega))) ?_
        exact hK _ _ (Grow.refl _) rfl
      -- 8: build 51 [(0, 3:i64), (1, 3:i64), (2, 0:i64), (3, 4:i64)]
      · intro w1 hg Ar seen
        refine does_plain rfl fun K Q' hK => ?_
        refine wp_build_obj _ _ rfl #[(0, .int .i64 3), (1, .int .i64 3), (2, .int .i64 0), (3, .int .i64 4)] (by simp [Act.eval]) _ (by show Eq _ (Result.ok (Value.agg (intsA algL)) _); kernel_rfl) ?_
        exact hK _ _ (Grow.refl _) rfl
      -- 9: fieldAddr 23 t2 3
      · intro w1 hg Ar seen
        have s2 := seen.slot 2 (v := .pointer (some ⟨b0, 0, none⟩)) (by kernel_rfl) rfl
        refine does_plain rfl fun K Q' hK => ?_
        go_simp; exact hK _ _ (Grow.refl _) rfl
      -- 10: load 3 t25
      · intro w1 hg Ar seen
        obtain ⟨v9, e9, h9⟩ := seen.dep 9 (d := 25) (by kernel_rfl) (by kernel_rfl) rfl
        rcases h9 with rfl
        refine does_plain rfl fun K Q' hK => ?_
        have hc := cell_of_block (j := 3) ((hg.block _ (block_lt H1.out)).trans H1.out) rfl
        go_simp; exact hK _ _ (Grow.refl _) rfl
      -- 11: call fn8<locksmithhand.Pick> [t26, 4:i64] T[3, 3]
      · intro w1 hg Ar seen
        obtain ⟨v10, e10, h10⟩ := seen.dep 10 (d := 26) (by kernel_rfl) (by kernel_rfl) rfl
        rcases h10 with rfl
        refine does_plain rfl fun K Q' hK => ?_
        go_simp
        refine (pick_any (x.c) 4 _ (by omega) (by omega)).mono ?_
        rintro e u ⟨rfl, rfl⟩
        exact hK _ _ (Grow.refl _) rfl
      -- 12: index 51 t24 t27
      · intro w1 hg Ar seen
        obtain ⟨v8, e8, h8⟩ := seen.dep 8 (d := 24) (by kernel_rfl) (by kernel_rfl) rfl
        rcases h8 with rfl
        obtain ⟨v11, e11, h11⟩ := seen.dep 11 (d := 27) (by kernel_rfl) (by kernel_rfl) rfl
        rcases h11 with rfl
        refine does_plain rfl fun K Q' hK => ?_
        refine wp_index_row _ _ rfl Tryd.underlying51 sizeInt Tryd.underlying3 rfl (intsA algL) (by simp [Act.eval, e8]) _ (by simp [Act.eval, e11]) (pickN x.c 4) (pickN_eq _ _ (by omega)) _ (pickN_lt _ 4 (by omega)) (intsA_get algL _ (pickN_lt _ 4 (by omega))) ?_
        exact hK _ _ (Grow.refl _) rfl
      -- 13: build 50 [(0, 396:i64), (1, 12:i64), (2, 4:i64), (3, 384:i64), (4, 0:i64)]
      · intro w1 hg Ar seen
        refine does_plain rfl fun K Q' hK => ?_
        refine wp_build_obj _ _ rfl #[(0, .int .i64 396), (1, .int .i64 12), (2, .int .i64 4), (3, .int .i64 384), (4, .int .i64 0)] (by simp [Act.eval]) _ (by show Eq _ (Result.ok (Value.agg (intsA maskL)) _); kernel_rfl) ?_
        exact hK _ _ (Grow.refl _) rfl
      -- 14: fieldAddr 23 t2 1
      · intro w1 hg Ar seen
        have s2 := seen.slot 2 (v := .pointer (some ⟨b0, 0, none⟩)) (by kernel_rfl) rfl
        refine does_plain rfl fun K Q' hK => ?_
        go_simp; exact hK _ _ (Grow.refl _) rfl
      -- 15: load 3 t30
      · intro w1 hg Ar seen
        obtain ⟨v14, e14, h14⟩ := seen.dep 14 (d := 30) (by kernel_rfl) (by kernel_rfl) rfl
        rcases h14 with rfl
        refine does_plain rfl fun K Q' hK => ?_
        have hc := cell_of_block (j := 1) ((hg.block _ (block_lt H1.out)).trans H1.out) rfl
        go_simp; exact hK _ _ (Grow.refl _) rfl
      -- 16: binOp BinOp.quo 3 t31 12:i64 3
      · intro w1 hg Ar seen
        obtain ⟨v15, e15, h15⟩ := seen.dep 15 (d := 31) (by kernel_rfl) (by kernel_rfl) rfl
        rcases h15 with rfl
        refine does_plain rfl fun K Q' hK => ?_
        have hs : IntKind.i64.wrap (x.a.tdiv 12) = x.a.tdiv 12 := IntWalk.i64_in _ HSX.out
        go_simp; exact hK _ _ (Grow.refl _) rfl
      -- 17: call fn8<locksmithhand.Pick> [t32, 5:i64] T[3, 3]
      · intro w1 hg Ar seen
        obtain ⟨v16, e16, h16⟩ := seen.dep 16 (d := 32) (by kernel_rfl) (by kernel_rfl) rfl
        rcases h16 with rfl
        refine does_plain rfl fun K Q' hK => ?_
        go_simp
        refine (pick_any (x.a.tdiv 12) 5 _ (by omega) (by omega)).mono ?_
        rintro e u ⟨rfl, rfl⟩
        exact hK _ _ (Grow.refl _) rfl
      -- 18: index 50 t29 t33
      · intro w1 hg Ar seen
        obtain ⟨v13, e13, h13⟩ := seen.dep 13 (d := 29) (by kernel_rfl) (by kernel_rfl) rfl
        rcases h13 with rfl
        obtain ⟨v17, e17, h17⟩ := seen.dep 17 (d := 33) (by kernel_rfl) (by kernel_rfl) rfl
        rcases h17 with rfl
        refine does_plain rfl fun K Q' hK => ?_
        refine wp_index_row _ _ rfl Tryd.underlying50 sizeInt Tryd.underlying3 rfl (intsA maskL) (by simp [Act.eval, e13]) _ (by simp [Act.eval, e17]) (pickN (x.a.tdiv 12) 5) (pickN_eq _ _ (by omega)) _ (pickN_lt _ 5 (by omega)) (intsA_get maskL _ (pickN_lt _ 5 (by omega))) ?_
        exact hK _ _ (Grow.refl _) rfl
      -- 19: build 50 [(0, 16:i64), (1, 16:i64), (2, 32:i64), (3, 0:i64), (4, 24:i64)]
      · intro w1 hg Ar seen
        refine does_plain rfl fun K Q' hK => ?_
        refine wp_build_obj _ _ rfl #[(0, .int .i64 16), (1, .int .i64 16), (2, .int .i64 32), (3, .int .i64 0), (4, .int .i64 24)] (by simp [Act.eval]) _ (by show Eq _ (Result.ok (Value.agg (intsA [16, 16, 32, 0, 24])) _); kernel_rfl) ?_
        exact hK _ _ (Grow.refl _) rfl
      -- 20: fieldAddr 23 t2 2
      · intro w1 hg Ar seen
        have s2 := seen.slot 2 (v := .pointer (some ⟨b0, 0, none⟩)) (by kernel_rfl) rfl
        refine does_plain rfl fun K Q' hK => ?_
        go_simp; exact hK _ _ (Grow.refl _) rfl
      -- 21: load 3 t36
      · intro w1 hg Ar seen
        obtain ⟨v20, e20, h20⟩ := seen.dep 20 (d := 36) (by kernel_rfl) (by kernel_rfl) rfl
        rcases h20 with rfl
        refine does_plain rfl fun K Q' hK => ?_
        have hc := cell_of_block (j := 2) ((hg.block _ (block_lt H1.out)).trans H1.out) rfl
        go_simp; exact hK _ _ (Grow.refl _) rfl
      -- 22: binOp BinOp.quo 3 t37 5:i64 3
      · intro w1 hg Ar seen
        obtain ⟨v21, e21, h21⟩ := seen.dep 21 (d := 37) (by kernel_rfl) (by kernel_rfl) rfl
        rcases h21 with rfl
        refine does_plain rfl fun K Q' hK => ?_
        have hs : IntKind.i64.wrap (x.b.tdiv 5) = x.b.tdiv 5 := IntWalk.i64_in _ HSY.out
        go_simp; exact hK _ _ (Grow.refl _) rfl
      -- 23: call fn8<locksmithhand.Pick> [t38, 5:i64] T[3, 3]
      · intro w1 hg Ar seen
        obtain ⟨v22, e22, h22⟩ := seen.dep 22 (d := 38) (by kernel_rfl) (by kernel_rfl) rfl
        rcases h22 with rfl
        refine does_plain rfl fun K Q' hK => ?_
        go_simp
        refine (pick_any (x.b.tdiv 5) 5 _ (by omega) (by omega)).mono ?_
        rintro e u ⟨rfl, rfl⟩
        exact hK _ _ (Grow.refl _) rfl
      -- 24: index 50 t35 t39
      · intro w1 hg Ar seen
        obtain ⟨v19, e19, h19⟩ := seen.dep 19 (d := 35) (by kernel_rfl) (by kernel_rfl) rfl
        rcases h19 with rfl
        obtain ⟨v23, e23, h23⟩ := seen.dep 23 (d := 39) (by kernel_rfl) (by kernel_rfl) rfl
        rcases h23 with rfl
        refine does_plain rfl fun K Q' hK => ?_
        refine wp_index_row _ _ rfl Tryd.underlying50 sizeInt Tryd.underlying3 rfl matA (by simp [Act.eval, e19]) _ (by simp [Act.eval, e23]) (pickN (x.b.tdiv 5) 5) (pickN_eq _ _ (by omega)) _ (pickN_lt _ 5 (by omega)) (matA_get _ (pickN_lt _ 5 (by omega))) ?_
        exact hK _ _ (Grow.refl _) rfl
      -- 25: fieldAddr 23 t2 3
      · intro w1 hg Ar seen
        have s2 := seen.slot 2 (v := .pointer (some ⟨b0, 0, none⟩)) (by kernel_rfl) rfl
        refine does_plain rfl fun K Q' hK => ?_
        go_simp; exact hK _ _ (Grow.refl _) rfl
      -- 26: load 3 t41
      · intro w1 hg Ar seen
        obtain ⟨v25, e25, h25⟩ := seen.dep 25 (d := 41) (by kernel_rfl) (by kernel_rfl) rfl
        rcases h25 with rfl
        refine does_plain rfl fun K Q' hK => ?_
        have hc := cell_of_block (j := 3) ((hg.block _ (block_lt H1.out)).trans H1.out) rfl
        go_simp; exact hK _ _ (Grow.refl _) rfl
      -- 27: call fn19<locksmithhand.Bytes> [t40, t42] T[3, 3]
      · intro w1 hg Ar seen
        obtain ⟨v24, e24, h24⟩ := seen.dep 24 (d := 40) (by kernel_rfl) (by kernel_rfl) rfl
        rcases h24 with rfl
        obtain ⟨v26, e26, h26⟩ := seen.dep 26 (d := 42) (by kernel_rfl) (by kernel_rfl) rfl
        rcases h26 with rfl
        refine does_plain rfl fun K Q' hK => ?_
        have hle := matL_le (pickN (x.b.tdiv 5) 5)
        go_simp
        refine (bytes_any _ x.c _ (by omega)).mono ?_
        rintro e u ⟨a, c, rfl, ho, hb⟩
        exact hK _ _ hb ⟨a, c, rfl, ownsRow_base ho (fun k hk => by have := (ho.lt k hk).1; have := hg.size; have := H4.out; omega)⟩
      -- 28: fieldAddr 23 t2 0
      · intro w1 hg Ar seen
        have s2 := seen.slot 2 (v := .pointer (some ⟨b0, 0, none⟩)) (by kernel_rfl) rfl
        refine does_plain rfl fun K Q' hK => ?_
        go_simp; exact hK _ _ (Grow.refl _) rfl
      -- 29: load 3 t44
      · intro w1 hg Ar seen
        obtain ⟨v28, e28, h28⟩ := seen.dep 28 (d := 44) (by kernel_rfl) (by kernel_rfl) rfl
        rcases h28 with rfl
        refine does_plain rfl fun K Q' hK => ?_
        have hc := cell_of_block (j := 0) ((hg.block _ (block_lt H1.out)).trans H1.out) rfl
        go_simp; exact hK _ _ (Grow.refl _) rfl
      -- 30: call fn8<locksmithhand.Pick> [t45, 6:i64] T[3, 3]
      · intro w1 hg Ar seen
        obtain ⟨v29, e29, h29⟩ := seen.dep 29 (d := 45) (by kernel_rfl) (by kernel_rfl) rfl
        rcases h29 with rfl
        refine does_plain rfl fun K Q' hK => ?_
        go_simp
        refine (pick_any (x.kind) 6 _ (by omega) (by omega)).mono ?_
        rintro e u ⟨rfl, rfl⟩
        exact hK _ _ (Grow.refl _) rfl
      -- 31: binOp BinOp.add 3 1:i64 t46 3
      · intro w1 hg Ar seen
        obtain ⟨v30, e30, h30⟩ := seen.dep 30 (d := 46) (by kernel_rfl) (by kernel_rfl) rfl
        rcases h30 with rfl
        refine does_plain rfl fun K Q' hK => ?_
        have hs : IntKind.i64.wrap (1 + pick x.kind 6) = 1 + pick x.kind 6 := IntWalk.i64_in _ (by have := pick_lo x.kind 6 (by omega); have := pick_hi x.kind 6 (by omega); omega)
        go_simp; exact hK _ _ (Grow.refl _) rfl
      -- 32: build 35 [(0, t18), (1, t23), (2, t28), (3, 128:i64), (4, t34), (5, t43), (6, t47)]
      · intro w1 hg Ar seen
        obtain ⟨v2, e2, h2⟩ := seen.dep 2 (d := 18) (by kernel_rfl) (by kernel_rfl) rfl
        rcases h2 with rfl
        obtain ⟨v7, e7, h7⟩ := seen.dep 7 (d := 23) (by kernel_rfl) (by kernel_rfl) rfl
        rcases h7 with rfl
        obtain ⟨v12, e12, h12⟩ := seen.dep 12 (d := 28) (by kernel_rfl) (by kernel_rfl) rfl
        rcases h12 with rfl
        obtain ⟨v18, e18, h18⟩ := seen.dep 18 (d := 34) (by kernel_rfl) (by kernel_rfl) rfl
        rcases h18 with rfl
        obtain ⟨v27, e27, h27⟩ := seen.dep 27 (d := 43) (by kernel_rfl) (by kernel_rfl) rfl
        obtain ⟨v31, e31, h31⟩ := seen.dep 31 (d := 47) (by kernel_rfl) (by kernel_rfl) rfl
        rcases h31 with rfl
        refine does_plain rfl fun K Q' hK => ?_
        obtain ⟨a, c, rfl, ho⟩ := h27
        refine wp_build_obj _ _ rfl #[(0, .string (handId x.a)), (1, .int .i64 (typL.getD (pickN x.b 5) 0)), (2, .int .i64 (algL.getD (pickN x.c 4) 0)), (3, .int .i64 128), (4, .int .i64 (maskL.getD (pickN (x.a.tdiv 12) 5) 0)), (5, .slice a (matN (pickN (x.b.tdiv 5) 5)) c), (6, .int .i64 (1 + pick x.kind 6))] (by simp [Act.eval, e2, e7, e12, e18, e27, e31]) _ (obj_build _ _ _ _ _ _ _ _ (handBytes (matN (pickN (x.b.tdiv 5) 5)) x.c) _) ?_
        exact hK _ _ (Grow.refl _) ⟨a, c, rfl, ho⟩
      -- 33: alloc 35
      · intro w1 hg Ar seen
        refine does_plain rfl fun K Q' hK => ?_
        refine wp_alloc_obj 35 rfl _ oZeroO ?_
        exact hK _ _ ((Below.refl _ _).alloc (Nat.le_refl _) _) ⟨_, rfl, block_new _ _, by have := hg.size; have := H4.out; omega⟩
  intro w1 hg
  refine upon_w' (js := [0, 1, 2, 3, 4, 5, 6, 7, 8, 9, 10, 11, 12, 13, 14, 15, 16, 17, 18, 19, 20, 21, 22, 23, 24, 25, 26, 27, 28, 29, 30, 31, 32, 33]) (by rfl) ?_
  refine upon_c (x := some 16) (by kernel_rfl) rfl fun v0 h0 => ?_
  rcases h0 with rfl
  refine upon_c (x := some 17) (by kernel_rfl) rfl fun v1 h1 => ?_
  rcases h1 with rfl
  refine upon_c (x := some 18) (by kernel_rfl) rfl fun v2 h2 => ?_
  rcases h2 with rfl
  refine upon_c (x := some 19) (by kernel_rfl) rfl fun v3 h3 => ?_
  rcases h3 with rfl
  refine upon_c (x := some 20) (by kernel_rfl) rfl fun v4 h4 => ?_
  rcases h4 with rfl
  refine upon_c (x := some 21) (by kernel_rfl) rfl fun v5 h5 => ?_
  rcases h5 with rfl
  refine upon_c (x := some 22) (by kernel_rfl) rfl fun v6 h6 => ?_
  rcases h6 with rfl
  refine upon_c (x := some 23) (by kernel_rfl) rfl fun v7 h7 => ?_
  rcases h7 with rfl
  refine upon_c (x := some 24) (by kernel_rfl) rfl fun v8 h8 => ?_
  rcases h8 with rfl
  refine upon_c (x := some 25) (by kernel_rfl) rfl fun v9 h9 => ?_
  rcases h9 with rfl
  refine upon_c (x := some 26) (by kernel_rfl) rfl fun v10 h10 => ?_
  rcases h10 with rfl
  refine upon_c (x := some 27) (by kernel_rfl) rfl fun v11 h11 => ?_
  rcases h11 with rfl
  refine upon_c (x := some 28) (by kernel_rfl) rfl fun v12 h12 => ?_
  rcases h12 with rfl
  refine upon_c (x := some 29) (by kernel_rfl) rfl fun v13 h13 => ?_
  rcases h13 with rfl
  refine upon_c (x := some 30) (by kernel_rfl) rfl fun v14 h14 => ?_
  rcases h14 with rfl
  refine upon_c (x := some 31) (by kernel_rfl) rfl fun v15 h15 => ?_
  rcases h15 with rfl
  refine upon_c (x := some 32) (by kernel_rfl) rfl fun v16 h16 => ?_
  rcases h16 with rfl
  refine upon_c (x := some 33) (by kernel_rfl) rfl fun v17 h17 => ?_
  rcases h17 with rfl
  refine upon_c (x := some 34) (by kernel_rfl) rfl fun v18 h18 => ?_
  rcases h18 with rfl
  refine upon_c (x := some 35) (by kernel_rfl) rfl fun v19 h19 => ?_
  rcases h19 with rfl
  refine upon_c (x := some 36) (by kernel_rfl) rfl fun v20 h20 => ?_
  rcases h20 with rfl
  refine upon_c (x := some 37) (by kernel_rfl) rfl fun v21 h21 => ?_
  rcases h21 with rfl
  refine upon_c (x := some 38) (by kernel_rfl) rfl fun v22 h22 => ?_
  rcases h22 with rfl
  refine upon_c (x := some 39) (by kernel_rfl) rfl fun v23 h23 => ?_
  rcases h23 with rfl
  refine upon_c (x := some 40) (by kernel_rfl) rfl fun v24 h24 => ?_
  rcases h24 with rfl
  refine upon_c (x := some 41) (by kernel_rfl) rfl fun v25 h25 => ?_
  rcases h25 with rfl
  refine upon_c (x := some 42) (by kernel_rfl) rfl fun v26 h26 => ?_
  rcases h26 with rfl
  refine upon_c (x := some 43) (by kernel_rfl) rfl fun v27 h27 => ?_
  refine upon_c (x := some 44) (by kernel_rfl) rfl fun v28 h28 => ?_
  rcases h28 with rfl
  refine upon_c (x := some 45) (by kernel_rfl) rfl fun v29 h29 => ?_
  rcases h29 with rfl
  refine upon_c (x := some 46) (by kernel_rfl) rfl fun v30 h30 => ?_
  rcases h30 with rfl
  refine upon_c (x := some 47) (by kernel_rfl) rfl fun v31 h31 => ?_
  rcases h31 with rfl
  refine upon_c (x := some 48) (by kernel_rfl) rfl fun v32 h32 => ?_
  refine upon_c (x := some 5) (by kernel_rfl) rfl fun v33 h33 => ?_
  refine upon_n ?_
  obtain ⟨aM, cM, rfl, hoM⟩ := h32
  obtain ⟨b5, rfl, hb5, hlt5⟩ := h33
  clear h27
  go_simp
  have hmb : (Value.slice aM (matN (pickN (x.b.tdiv 5) 5)) cM).ownBlock ≠ some b5 := own_ne_block hoM hb5 (by decide)
  have h5b0 : b5 ≠ b0 ∧ b5 ≠ b0 + 1 := by omega
  have R1 := hid ((hg.block _ (block_lt H1.out)).trans H1.out)
  have R2 := hid ((hg.block _ (block_lt H2.out)).trans H2.out)
  have R3 := hid (H3.out.trans (Below.mono hg (by have := H4.out; omega)))
  have R5 := hid hb5; have RM := hid hoM; have RMB := hid hmb; have R50 := hid h5b0; have RL := hid hlt5
  clear hb5 hoM hmb h5b0 hlt5 H1 H2 H3 H4 hg HSX HSY
  go_upto_region 2 with (refine wpList_store_obj rfl 35 _ _ rfl b5 rfl _ rfl _ _ R5.out rfl (by rw [objCells_size]; exact oSizeO) (oc_one _ _) ?_; intro w2 hw2 hc2 hs2; have C5 := hid hw2; have CC := hid hc2; clear hw2 hc2 hs2)
  go_simp
  have HO : Hid (HObj w w2 x b0 b5 (objInit x) { zObjV with mat := ⟨aM, matN (pickN (x.b.tdiv 5) 5), cM⟩ }) :=
    ⟨(CC.out.block _ (block_lt R1.out) (by have := R50.out.1; simp; omega)).trans R1.out, (CC.out.block _ (block_lt R2.out) (by have := R50.out.2; simp; omega)).trans R2.out, C5.out,
      R3.out.trans (CC.out.below (fun k hk => by rw [List.mem_singleton.1 hk]; have := RL.out; omega) (by have := block_lt R5.out; have := RL.out; omega)), RL.out,
      CC.out.owns RM.out (fun k hk hm => RMB.out (by rw [hk, List.mem_singleton.1 hm])), RMB.out, World.ownsRow_nil _ _ _ _, World.ownsRow_nil _ _ _ _, World.ownsRow_nil _ _ _ _, rfl, matL_le _⟩
  clear R1 R2 R3 R5 RM RMB R50 RL C5 CC
  generalize ({ zObjV with mat := ⟨aM, matN (pickN (x.b.tdiv 5) 5), cM⟩ } : ObjV) = s0 at *
  go_cut [5] (fun s5 wx => s5 = .pointer (some ⟨b5, 0, none⟩) ∧ HObj w wx x b0 b5 ((objInit x).setDate 0 (true, pick x.c 20)) s0)
  case first =>
    have hc3 := cell_of_block (j := 3) HO.out.raw rfl
    go_wp2_with fail
    refine (pick_any x.c 20 _ (by omega) (by omega)).mono ?_
    rintro e u ⟨rfl, rfl⟩
    have hfz := HO.out.fz
    have c7 := HO.out.cell (j := 7) rfl
    have c8 := HO.out.cell (j := 8) rfl
    go_wp2_with fail
    go_meet
    exact ⟨rfl, HO.out.date 0 (by decide) true _⟩
  case rest =>
    obtain ⟨rfl, ho⟩ := hcut
    clear HO
    have HO := hid ho; clear ho
    have HLEN := hid (argSl_len HAL.out)
    have hnL : nL ≤ 140737488355328 := HLEN.out.2
    generalize hO0 : (objInit x).setDate 0 (true, pick x.c 20) = O0 at *
    have HO0 := hid hO0; clear hO0
    go_upto_block 0 with (fail)
    go_cut [6] (fun _ wx => ∃ s', HObj w wx x b0 b5 ((l.take 10).foldl objStep O0) s')
    case first =>
      go_wp2_with fail
      go_loopw [6] (fun y wr => ∃ (k : Nat) (s : ObjV), k ≤ nL ∧ k ≤ 10 ∧ y = .int .i64 k ∧ HObj w wr x b0 b5 ((l.take k).foldl objStep O0) s) (fun y _ => 10 - (intOf y).toNat)
      case atStart => exact ⟨0, s0, Nat.zero_le _, Nat.zero_le _, rfl, HO.out⟩
      case round =>
        clear HO
        obtain ⟨k, s, hk, hk10, rfl, ho⟩ := hrel
        have HO := hid ho; clear ho
        by_cases hlt : k < nL
        · by_cases hlt10 : k < 10
          · obtain ⟨bL, oL, y, hae, hy, hok, hd0, hd1, hd2, hd3⟩ := raw_get HAL.out hlt
            have hbel : Below w.heap.size w wr := by rw [HBE.out]; exact HO.out.bel
            have c0 := cell_later hbel hd0
            have c1 := cell_later hbel hd1
            have c2 := cell_later hbel hd2
            have c3 := cell_later hbel hd3
            have HE : Hid ((l.take (k + 1)).foldl objStep O0 = objStep ((l.take k).foldl objStep O0) y) := by
              show _ = _
              rw [List.take_add_one, hy]
              simp [List.foldl_append]
            have HN := hid (fold_len10 l O0 x k (by omega) HO0.out)
            generalize (l.take k).foldl objStep O0 = O at *
            subst hae
            have HOK := hid hok
            clear hy hd0 hd1 hd2 hd3 hbel hok
            go_upto_block 1 with (fail)
            go_cut [7] (fun _ wx => ∃ s', HObj w wx x b0 b5 (objStep O y) s')
            case first =>
              rename_i J1 K1 g1 g2
              exact obj_rd _ _ _ _ _ _ _ _ _ _ _ _ _ _ _ _ _ _ _ _ _ _ _ _ _ _ _ _ _ _ _ _ _ _ _ _ _ _ _ _ _ _ _ _ _ _ _ _ _ _ _ _ _ _ _ _ _ _ _ _ _ _ _ _ _ _ _ _ _ _ _ _ _ _ _ _ _ _ _ _ _ _ _ _ _ _ _ _ _ _ _ _ _ _ _ _ _ _ _ _ _ _ _ _ _ _ _ _ _ _ _ _ _ _ _ _ _ _ _ _ _ _ _ _ _ _ _ _ _ _ _ _ _ _ _ _ _ _ _ _ _ _ _ _ _ _ _ _ _ _ _ _ _ _ _ _ _ _ _ _ _ _ _ _ _ _ _ _ _ _ _ _ _ _ _ _ _ _ _ _ _ _ _ _ _ _ _ _ _ _ _ _ _ _ _ _ _ _ _ _ _ _ _ _ _ _ _ _ _ _ _ _ _ _ _ _ _ _ _ _ _ _ _ _ _ _ J1 K1 _ HO hlt hlt10 hnL HOK c0 c1 c2 c3 HN g1 g2
            case rest =>
              obtain ⟨s', ho⟩ := hcut
              have HO := hid ho; clear ho
              go_wp2_with fail
              go_roundw
              case rel =>
                have ho := HO.out
                rw [← HE.out] at ho
                first
                  | exact ⟨k + 1, s', by omega, by omega, by go_num, ho⟩
                  | ((repeat apply Exists.intro); exact ⟨⟨k + 1, s', by omega, by omega, by go_num, ho⟩, rfl⟩)
              case measure => simp [intOf]; omega
          · obtain rfl : k = 10 := by omega
            go_wp2_with fail
            go_meet
            exact ⟨s, HO.out⟩
        · obtain rfl : k = nL := by omega
          have HE : Hid (l.take 10 = l.take k) := by
            show _ = _
            rw [List.take_of_length_le (by rw [HLEN.out.1]; omega), List.take_of_length_le (by rw [HLEN.out.1]; exact Nat.le_refl _)]
          go_wp2_with fail
          go_meet
          rw [HE.out]
          exact ⟨s, HO.out⟩
    case rest =>
      obtain ⟨s, ho⟩ := hcut
      have HN := hid (fold_len10 l O0 x 10 (by omega) HO0.out)
      have HR : Hid (objRaw x l = { (l.take 10).foldl objStep O0 with links := ((l.take 10).foldl objStep O0).links.take 8 }) := by show _ = _; unfold objRaw; rw [HO0.out]
      clear HO
      have HO := hid ho; clear ho
      generalize (l.take 10).foldl objStep O0 = O at *
      have hN1 : s.names.n = O.names.length := by have := HO.out.names.1; simp at this; exact this.symm
      have hN2 : s.links.n = O.links.length := by have := HO.out.links.1; unfold linkCells at this; rw [flat_len] at this; omega
      have hN3 : s.custom.n = O.custom.length := by have := HO.out.custom.1; unfold custCells at this; rw [flat_len] at this; omega
      have HNS : Hid (s.names.n ≤ 10 ∧ s.links.n ≤ 10 ∧ s.custom.n ≤ 10) := by have := HN.out; show _ ∧ _; omega
      have HN2 := hid hN2
      clear hN1 hN2 hN3 HN
      have c30 := HO.out.cell (oc30 O s)
      have hfz := HO.out.fz
      have hs10 : s.links.n ≤ 10 := HNS.out.2.1
      by_cases h8 : s.links.n > 8
      · have hcap : 8 ≤ s.links.c := by have := (own_slice HO.out.links).1; omega
        have hsl := fun w => run_slice_front (P := Tryd.prog) 30 56 2 Tryd.underlying30 (fun w => by kernel_rfl) s.links.a s.links.n s.links.c 8 hcap w
        go_upto_region 43 with (fail)
        have HO2 : Hid (HObj w _ x b0 b5 { O with links := O.links.take 8 } { s with links := ⟨s.links.a, 8, s.links.c⟩ }) := HO.out.cut_links 8 (by omega)
        have HNS : Hid (s.names.n ≤ 10 ∧ 8 ≤ 10 ∧ s.custom.n ≤ 10) := ⟨HNS.out.1, by omega, HNS.out.2.2⟩
        clear c30 hfz hsl
        go_wp2_with (first | (refine wpList_load_row rfl 35 _ rfl b5 rfl _ _ _ _ HO2.out.obj Tryd.underlying35 rfl (by rw [objCells_size]; exact oSizeO) ?_) | (refine wpList_store_obj rfl 35 _ _ rfl (b0 + 1) rfl _ rfl _ _ HO2.out.res rfl (by rw [objCells_size]; exact oSizeO) (oc_one _ _) ?_; intro w6 hb6 hc6 hs6; have HB6 := hid hb6; have HC6 := hid hc6; clear hb6 hc6 hs6))
        refine bodyPost_ret (results_cell_row rfl _ _ (b0 + 1) _ _ _ _ rfl HB6.out Tryd.underlying35 rfl (by rw [objCells_size]; exact oSizeO)) rfl ?_
        rw [HR.out]
        exact ⟨_, rfl, HO2.out.done HNS.out.1 HNS.out.2.1 HNS.out.2.2 HC6.out⟩
      · have HL : Hid (O.links.take 8 = O.links) := by show _ = _; rw [List.take_of_length_le]; have := HN2.out; omega
        rw [HL.out] at HR
        go_upto_region 43 with (fail)
        have HO2 := HO
        clear c30 hfz
        go_wp2_with (first | (refine wpList_load_row rfl 35 _ rfl b5 rfl _ _ _ _ HO2.out.obj Tryd.underlying35 rfl (by rw [objCells_size]; exact oSizeO) ?_) | (refine wpList_store_obj rfl 35 _ _ rfl (b0 + 1) rfl _ rfl _ _ HO2.out.res rfl (by rw [objCells_size]; exact oSizeO) (oc_one _ _) ?_; intro w6 hb6 hc6 hs6; have HB6 := hid hb6; have HC6 := hid hc6; clear hb6 hc6 hs6))
        refine bodyPost_ret (results_cell_row rfl _ _ (b0 + 1) _ _ _ _ rfl HB6.out Tryd.underlying35 rfl (by rw [objCells_size]; exact oSizeO)) rfl ?_
        rw [HR.out]
        exact ⟨_, rfl, HO2.out.done HNS.out.1 HNS.out.2.1 HNS.out.2.2 HC6.out⟩
end Go.Proofs.YtgenbpndphdgnaaDoor
