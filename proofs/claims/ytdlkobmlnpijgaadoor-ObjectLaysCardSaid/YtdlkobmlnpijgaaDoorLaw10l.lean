/- ObjectLays: the walk. -/
import Derived.Test.YtdlkobmlnpijgaaDoorObjBent
import Derived.Test.YtdlkobmlnpijgaaDoorKnown10
import Derived.Test.YtdlkobmlnpijgaaDoorRefLay
namespace Go.Proofs.YtdlkobmlnpijgaaDoor
open Go.RowKit
set_option linter.unusedVariables false
set_option linter.unusedSimpArgs false
set_option maxRecDepth 1000000
set_option maxHeartbeats 6400000
theorem objectLays_walk (x : RawD) (hx : x.ok) (l : List RawD) (aL : Option Addr) (nL cL : Nat) (zh : Int) (hz : -9223372036854775808 ≤ zh ∧ zh ≤ 9223372036854775807) (O : ObjD) (s : ObjV) (near : Bool) (w : World) (hl : ArgSl 4 RawR w (.slice aL nL cL) l) (hm : ObjM w O s) (hT : UT w) :
    Calls Tryd.prog 4 #[.agg x.cells, .slice aL nL cL, .int .i64 zh, .agg (objCells O s), .bool near] w fun e w' => e = .returned (.bool true) ∧ Below w.heap.size w w' := by
  have HLA := hid hl; have HT0 := hid hT; have HZ := hid hz; have M0 := hid hm
  have F0 := hid hm.lt
  clear hl hT hz hm
  go_enter Tryd.func4, Tryd.ntmps4
  go_upto_region 1 with (fail)
  have h1 : ((w.alloc (.cells x.cells 41)).alloc (.cells (objCells O s) 35)).heap[w.heap.size]? = some (.cells x.cells 41 (0, 0)) := heap_alloc2_old _ _ _
  have h2 : ((w.alloc (.cells x.cells 41)).alloc (.cells (objCells O s) 35)).heap[w.heap.size + 1]? = some (.cells (objCells O s) 35 (0, 0)) := heap_alloc2_new _ _ _
  have hb : Below w.heap.size w ((w.alloc (.cells x.cells 41)).alloc (.cells (objCells O s) 35)) := ((Below.refl _ _).alloc (Nat.le_refl _) _).alloc (by simp) _
  have HB := hid (Below.refl w.heap.size w)
  have HB' := hid (HB.out.trans (hb.mono HB.out.size))
  have HLA' := hid (argSl_below HLA.out hb)
  have M0' := hid (M0.out.below hb)
  clear HB HLA M0
  have HB := HB'
  have HLA := HLA'
  have M0 := M0'
  clear HB' HLA' M0'
  have BXR := hid h1; have BA := hid h2
  clear h1 h2 hb
  generalize (w.alloc (.cells x.cells 41)).alloc (.cells (objCells O s) 35) = W at *
  go_wp2_with (refine wpList_load_row rfl 41 _ rfl w.heap.size rfl _ _ _ _ BXR.out Tryd.underlying41 rfl (by kernel_rfl) ?_)
  refine (bent_any x hx l aL nL cL zh HZ.out _ HLA.out).mono ?_
  rintro e ww ⟨O1, s1, rfl, hm, hf, hb⟩
  dsimp only
  have HB' := hid (HB.out.trans (hb.mono HB.out.size))
  have HLA' := hid (argSl_below HLA.out hb)
  have M0' := hid (M0.out.below hb)
  have BXR' := hid ((hb.block _ (block_lt BXR.out)).trans BXR.out)
  have BA' := hid ((hb.block _ (block_lt BA.out)).trans BA.out)
  clear HB HLA M0 BXR BA
  have HB := HB'
  have HLA := HLA'
  have M0 := M0'
  have BXR := BXR'
  have BA := BA'
  clear HB' HLA' M0' BXR' BA'
  have M1 := hid hm
  clear hm hf hb
  have HBW := hid HB.out.size
  go_upto_if 20 with (first | (refine wpList_alloc_obj rfl 35 rfl _ oZeroO ?_) | (refine wpList_store_obj rfl 35 _ _ rfl _ rfl _ rfl _ _ (block_new _ _) rfl (by rw [objCells_size]; exact oSizeO) (oc_one _ _) ?_; intro w6 hb6 hc6 hs6; have HB6 := hid hb6; have HC6 := hid hc6; clear hb6 hc6 hs6))
  have hb : Below ww.heap.size ww w6 := ((Below.refl _ _).alloc (Nat.le_refl _) _).trans (HC6.out.below (fun k hk => by rw [List.mem_singleton.1 hk]; exact Nat.le_refl _) (by simp))
  have HB' := hid (HB.out.trans (hb.mono HB.out.size))
  have HLA' := hid (argSl_below HLA.out hb)
  have M0' := hid (M0.out.below hb)
  have BXR' := hid ((hb.block _ (block_lt BXR.out)).trans BXR.out)
  have BA' := hid ((hb.block _ (block_lt BA.out)).trans BA.out)
  have M1' := hid (M1.out.below hb)
  clear HB HLA M0 BXR BA M1
  have HB := HB'
  have HLA := HLA'
  have M0 := M0'
  have BXR := BXR'
  have BA := BA'
  have M1 := M1'
  clear HB' HLA' M0' BXR' BA' M1'
  have BX1 := HB6
  have p1LT : Hid (ww.heap.size < w6.heap.size) := block_lt HB6.out
  clear HB6 HC6 hb
  obtain ⟨p1, hp1⟩ : ∃ q, q = ww.heap.size := ⟨_, rfl⟩
  rw [← hp1] at BX1 p1LT ⊢
  have Hp1 := hid hp1
  clear hp1
  have PB : Hid (w.heap.size ≤ p1) := by show _ ≤ _; rw [Hp1.out]; exact HBW.out
  clear Hp1 HBW p1LT
  clear HLA BXR
  go_cut [] (fun wx => ∃ O s, wx.heap[p1]? = some (.cells (objCells O s) 35 (0, 0)) ∧ ObjM wx O s ∧ Below w.heap.size w wx)
  case first =>
    cases near with
    | false =>
      go_wp2_with fail
      go_meet
      exact ⟨O1, s1, BX1.out, M1.out, HB.out⟩
    | true =>
      go_wp2_with (first | (refine wpList_load_row rfl 35 _ rfl (w.heap.size + 1) rfl _ _ _ _ BA.out Tryd.underlying35 rfl (by rw [objCells_size]; exact oSizeO) ?_) | (refine wpList_store_obj rfl 35 _ _ rfl p1 rfl _ rfl _ _ BX1.out rfl (by rw [objCells_size]; exact oSizeO) (oc_one _ _) ?_; intro w6 hb6 hc6 hs6; have HB6 := hid hb6; have HC6 := hid hc6; clear hb6 hc6 hs6))
      go_meet
      exact ⟨O, s, HB6.out, M0.out.keep HC6.out (fun k hk hm => by have h1 := F0.out k hk; have h2 := PB.out; have h3 := List.mem_singleton.1 hm; omega),
        HB.out.trans (HC6.out.below (fun k hk => by have h3 := List.mem_singleton.1 hk; have h4 := PB.out; omega) HB.out.size)⟩
  case rest =>
    obtain ⟨O2, s2, hx1, hm1, hb⟩ := hcut
    clear HB BX1 M0 M1 BA F0 PB
    have BX1 := hid hx1; have M1 := hid hm1; have HB := hid hb
    clear hx1 hm1 hb
    go_wp2_with (refine wpList_load_row rfl 35 _ rfl p1 rfl _ _ _ _ BX1.out Tryd.underlying35 rfl (by rw [objCells_size]; exact oSizeO) ?_)
    refine (lay10_any O2 _ _ M1.out (HT0.out.below HB.out)).mono ?_
    rintro e ww ⟨hb, hcase⟩
    have BX1' := hid ((hb.block _ (block_lt BX1.out)).trans BX1.out)
    have M1' := hid (M1.out.below hb)
    have HB' := hid (HB.out.trans (hb.mono HB.out.size))
    clear BX1 M1 HB
    have BX1 := BX1'
    have M1 := M1'
    have HB := HB'
    clear BX1' M1' HB'
    clear hb
    rcases hcase with ⟨hr, rfl⟩ | ⟨hr, aA, nA, cA, rfl, ho⟩
    · have RA := hid hr
      clear hr
      go_wp2_with (refine wpList_load_row rfl 35 _ rfl p1 rfl _ _ _ _ BX1.out Tryd.underlying35 rfl (by rw [objCells_size]; exact oSizeO) ?_)
      refine (rlay_any O2 _ _ M1.out (HT0.out.below HB.out)).mono ?_
      rintro e ww ⟨hb, hcase⟩
      have BX1' := hid ((hb.block _ (block_lt BX1.out)).trans BX1.out)
      have M1' := hid (M1.out.below hb)
      have HB' := hid (HB.out.trans (hb.mono HB.out.size))
      clear BX1 M1 HB
      have BX1 := BX1'
      have M1 := M1'
      have HB := HB'
      clear BX1' M1' HB'
      obtain rfl : e = .returned (.tuple #[.slice none 0 0, .int .i64 1]) := by
        rcases hcase with ⟨_, h⟩ | ⟨h, _⟩
        · exact h
        · rw [RA.out] at h; cases h
      clear hb hcase
      go_upto_region 6 with (fail)
      refine wp_region_each 21 [.eq (.bool true), .eq (.bool true), .eq (.agg (objCells O2 s2)), .eq (.bool false), .eq (.agg (objCells O2 s2)), .eq (.bool false), .eq (.bool true), .eq (.bool true), .eq (.bool true), .eq (.slice none 0 0), .eq (.string ⟨([] : List UInt8).toArray⟩), .eq (.slice none 0 0), .eq (.string ⟨([] : List UInt8).toArray⟩), .eq (.bool true), .eq (.bool true), .eq (.bool true), .eq (.int .i64 1), .eq (.int .i64 1), .eq (.bool true), .eq (.bool true), .eq (.bool true)] (by kernel_rfl) (by kernel_rfl) (by kernel_rfl) (by kernel_rfl) ?_ ?_
      · all_goals
          refine each_5 ?_ ?_ ?_ ?_ ?_ (each_5 ?_ ?_ ?_ ?_ ?_ (each_5 ?_ ?_ ?_ ?_ ?_ (each_5 ?_ ?_ ?_ ?_ ?_ (each_c ?_ (each_n)))))
          · intro w1 hg Ar seen
            refine does_plain rfl fun K Q' hK => ?_
            go_simp
            refine (known10_any _ ((HT0.out.below HB.out).below hg)).mono ?_
            rintro e u ⟨rfl, hb⟩
            exact hK _ _ hb rfl
          · intro w1 hg Ar seen
            have e0 := seen.de 0 32
            refine does_plain rfl fun K Q' hK => ?_
            go_simp; exact hK _ _ (Grow.refl _) rfl
          · intro w1 hg Ar seen
            have e1 := seen.de 1 33
            have s11 := seen.sl 11 (.pointer (some ⟨p1, 0, none⟩))
            refine does_on rfl (by kernel_rfl) e1 fun K Q' hK => ?_
            clear e1
            refine wp_load_row 35 _ rfl p1 (by simp [Act.eval, s11]) _ _ _ _ ((hg.block _ (block_lt BX1.out)).trans BX1.out) Tryd.underlying35 rfl (by rw [objCells_size]; exact oSizeO) ?_
            exact hK _ _ (Grow.refl _) rfl
          · intro w1 hg Ar seen
            have e2 := seen.de 2 34
            have e1 := seen.de 1 33
            refine does_on rfl (by kernel_rfl) e1 fun K Q' hK => ?_
            clear e1
            go_simp
            refine (right10_any O2 s2 _ (M1.out.below hg) ((HT0.out.below HB.out).below hg)).mono ?_
            rintro e u ⟨rfl, hb⟩
            exact hK _ _ hb (congrArg Value.bool RA.out)
          · intro w1 hg Ar seen
            have e1 := seen.de 1 33
            have s11 := seen.sl 11 (.pointer (some ⟨p1, 0, none⟩))
            refine does_on rfl (by kernel_rfl) e1 fun K Q' hK => ?_
            clear e1
            refine wp_load_row 35 _ rfl p1 (by simp [Act.eval, s11]) _ _ _ _ ((hg.block _ (block_lt BX1.out)).trans BX1.out) Tryd.underlying35 rfl (by rw [objCells_size]; exact oSizeO) ?_
            exact hK _ _ (Grow.refl _) rfl
          · intro w1 hg Ar seen
            have e4 := seen.de 4 36
            have e1 := seen.de 1 33
            refine does_on rfl (by kernel_rfl) e1 fun K Q' hK => ?_
            clear e1
            go_simp
            refine (rright_any O2 s2 _ (M1.out.below hg) ((HT0.out.below HB.out).below hg)).mono ?_
            rintro e u ⟨rfl, hb⟩
            exact hK _ _ hb (congrArg Value.bool RA.out)
          · intro w1 hg Ar seen
            have e3 := seen.de 3 35
            have e5 := seen.de 5 37
            have e1 := seen.de 1 33
            refine does_on rfl (by kernel_rfl) e1 fun K Q' hK => ?_
            clear e1
            go_simp; exact hK _ _ (Grow.refl _) rfl
          · intro w1 hg Ar seen
            have e1 := seen.de 1 33
            have e6 := seen.de 6 38
            refine does_plain rfl fun K Q' hK => ?_
            go_simp; exact hK _ _ (Grow.refl _) rfl
          · intro w1 hg Ar seen
            have e7 := seen.de 7 39
            refine does_plain rfl fun K Q' hK => ?_
            go_simp; exact hK _ _ (Grow.refl _) rfl
          · intro w1 hg Ar seen
            have e8 := seen.de 8 40
            have s12 := seen.sl 12 (.slice none 0 0)
            refine does_on rfl (by kernel_rfl) e8 fun K Q' hK => ?_
            clear e8
            go_simp; exact hK _ _ (Grow.refl _) rfl
          · intro w1 hg Ar seen
            have e9 := seen.de 9 41
            have e8 := seen.de 8 40
            refine does_on rfl (by kernel_rfl) e8 fun K Q' hK => ?_
            clear e8
            have kc := run_bytes_str (P := Tryd.prog) ((RdB.nil _ none).below hg) 0 22 9 5 Tryd.underlying22 Tryd.underlying5 Tryd.underlying9
            go_simp; exact hK _ _ (Grow.refl _) rfl
          · intro w1 hg Ar seen
            have e8 := seen.de 8 40
            have s14 := seen.sl 14 (.slice none 0 0)
            refine does_on rfl (by kernel_rfl) e8 fun K Q' hK => ?_
            clear e8
            go_simp; exact hK _ _ (Grow.refl _) rfl
          · intro w1 hg Ar seen
            have e11 := seen.de 11 43
            have e8 := seen.de 8 40
            refine does_on rfl (by kernel_rfl) e8 fun K Q' hK => ?_
            clear e8
            have kc := run_bytes_str (P := Tryd.prog) ((RdB.nil _ none).below hg) 0 22 9 5 Tryd.underlying22 Tryd.underlying5 Tryd.underlying9
            go_simp; exact hK _ _ (Grow.refl _) rfl
          · intro w1 hg Ar seen
            have e10 := seen.de 10 42
            have e12 := seen.de 12 44
            have e8 := seen.de 8 40
            refine does_on rfl (by kernel_rfl) e8 fun K Q' hK => ?_
            clear e8
            go_simp; exact hK _ _ (Grow.refl _) rfl
          · intro w1 hg Ar seen
            have e8 := seen.de 8 40
            have e13 := seen.de 13 45
            refine does_plain rfl fun K Q' hK => ?_
            go_simp; exact hK _ _ (Grow.refl _) rfl
          · intro w1 hg Ar seen
            have e14 := seen.de 14 46
            refine does_plain rfl fun K Q' hK => ?_
            go_simp; exact hK _ _ (Grow.refl _) rfl
          · intro w1 hg Ar seen
            have e15 := seen.de 15 47
            have s13 := seen.sl 13 (.int .i64 1)
            refine does_on rfl (by kernel_rfl) e15 fun K Q' hK => ?_
            clear e15
            go_simp; exact hK _ _ (Grow.refl _) rfl
          · intro w1 hg Ar seen
            have e15 := seen.de 15 47
            have s15 := seen.sl 15 (.int .i64 1)
            refine does_on rfl (by kernel_rfl) e15 fun K Q' hK => ?_
            clear e15
            go_simp; exact hK _ _ (Grow.refl _) rfl
          · intro w1 hg Ar seen
            have e16 := seen.de 16 48
            have e17 := seen.de 17 49
            have e15 := seen.de 15 47
            refine does_on rfl (by kernel_rfl) e15 fun K Q' hK => ?_
            clear e15
            go_simp; exact hK _ _ (Grow.refl _) rfl
          · intro w1 hg Ar seen
            have e15 := seen.de 15 47
            have e18 := seen.de 18 50
            refine does_plain rfl fun K Q' hK => ?_
            go_simp; exact hK _ _ (Grow.refl _) rfl
          · intro w1 hg Ar seen
            have e19 := seen.de 19 51
            refine does_plain rfl fun K Q' hK => ?_
            go_simp; exact hK _ _ (Grow.refl _) rfl
      intro w1 hg
      refine upon_w' (js := [0, 1, 2, 3, 4, 5, 6, 7, 8, 9, 10, 11, 12, 13, 14, 15, 16, 17, 18, 19, 20]) (by rfl) ?_
      refine upon_e (some 32) (upon_e (some 33) (upon_e (some 34) (upon_e (some 35) (upon_e (some 36) (upon_e (some 37) (upon_e (some 38) (upon_e (some 39) (upon_e (some 40) (upon_e (some 41) (upon_e (some 42) (upon_e (some 43) (upon_e (some 44) (upon_e (some 45) (upon_e (some 46) (upon_e (some 47) (upon_e (some 48) (upon_e (some 49) (upon_e (some 50) (upon_e (some 51) (upon_e (some 10) (upon_n ?_)))))))))))))))))))))
      go_simp
      have hb := hg
      clear hg
      have HB' := hid (HB.out.trans (hb.mono HB.out.size))
      clear HB hb
      have HB := HB'
      clear HB'
      go_simp
      go_wp2_with fail
      go_ret
      exact ⟨rfl, HB.out⟩
    · have RA := hid hr
      clear hr
      have DA := hid (RdB.of_own ho)
      clear ho
      go_wp2_with (refine wpList_load_row rfl 35 _ rfl p1 rfl _ _ _ _ BX1.out Tryd.underlying35 rfl (by rw [objCells_size]; exact oSizeO) ?_)
      refine (rlay_any O2 _ _ M1.out (HT0.out.below HB.out)).mono ?_
      rintro e ww ⟨hb, hcase⟩
      have BX1' := hid ((hb.block _ (block_lt BX1.out)).trans BX1.out)
      have M1' := hid (M1.out.below hb)
      have HB' := hid (HB.out.trans (hb.mono HB.out.size))
      have DA' := hid (DA.out.below hb)
      clear BX1 M1 HB DA
      have BX1 := BX1'
      have M1 := M1'
      have HB := HB'
      have DA := DA'
      clear BX1' M1' HB' DA'
      obtain ⟨aB, nB, cB, rfl, ho⟩ : ∃ a n c, e = .returned (.tuple #[.slice a n c, .int .i64 0]) ∧ ww.ownsRow _ _ 1 (.slice a n c) n ((layO O2).map B8) := by
        rcases hcase with ⟨h, _⟩ | ⟨_, h⟩
        · rw [RA.out] at h; cases h
        · exact h
      have DB := hid (RdB.of_own ho)
      clear hb hcase ho
      go_upto_region 6 with (fail)
      refine wp_region_each 21 [.eq (.bool true), .eq (.bool true), .eq (.agg (objCells O2 s2)), .eq (.bool true), .eq (.agg (objCells O2 s2)), .eq (.bool true), .eq (.bool true), .eq (.bool true), .eq (.bool true), .eq (.slice aA nA cA), .eq (.string ⟨(layO O2).toArray⟩), .eq (.slice aB nB cB), .eq (.string ⟨(layO O2).toArray⟩), .eq (.bool true), .eq (.bool true), .eq (.bool true), .eq (.int .i64 0), .eq (.int .i64 0), .eq (.bool true), .eq (.bool true), .eq (.bool true)] (by kernel_rfl) (by kernel_rfl) (by kernel_rfl) (by kernel_rfl) ?_ ?_
      · all_goals
          refine each_5 ?_ ?_ ?_ ?_ ?_ (each_5 ?_ ?_ ?_ ?_ ?_ (each_5 ?_ ?_ ?_ ?_ ?_ (each_5 ?_ ?_ ?_ ?_ ?_ (each_c ?_ (each_n)))))
          · intro w1 hg Ar seen
            refine does_plain rfl fun K Q' hK => ?_
            go_simp
            refine (known10_any _ ((HT0.out.below HB.out).below hg)).mono ?_
            rintro e u ⟨rfl, hb⟩
            exact hK _ _ hb rfl
          · intro w1 hg Ar seen
            have e0 := seen.de 0 32
            refine does_plain rfl fun K Q' hK => ?_
            go_simp; exact hK _ _ (Grow.refl _) rfl
          · intro w1 hg Ar seen
            have e1 := seen.de 1 33
            have s11 := seen.sl 11 (.pointer (some ⟨p1, 0, none⟩))
            refine does_on rfl (by kernel_rfl) e1 fun K Q' hK => ?_
            clear e1
            refine wp_load_row 35 _ rfl p1 (by simp [Act.eval, s11]) _ _ _ _ ((hg.block _ (block_lt BX1.out)).trans BX1.out) Tryd.underlying35 rfl (by rw [objCells_size]; exact oSizeO) ?_
            exact hK _ _ (Grow.refl _) rfl
          · intro w1 hg Ar seen
            have e2 := seen.de 2 34
            have e1 := seen.de 1 33
            refine does_on rfl (by kernel_rfl) e1 fun K Q' hK => ?_
            clear e1
            go_simp
            refine (right10_any O2 s2 _ (M1.out.below hg) ((HT0.out.below HB.out).below hg)).mono ?_
            rintro e u ⟨rfl, hb⟩
            exact hK _ _ hb (congrArg Value.bool RA.out)
          · intro w1 hg Ar seen
            have e1 := seen.de 1 33
            have s11 := seen.sl 11 (.pointer (some ⟨p1, 0, none⟩))
            refine does_on rfl (by kernel_rfl) e1 fun K Q' hK => ?_
            clear e1
            refine wp_load_row 35 _ rfl p1 (by simp [Act.eval, s11]) _ _ _ _ ((hg.block _ (block_lt BX1.out)).trans BX1.out) Tryd.underlying35 rfl (by rw [objCells_size]; exact oSizeO) ?_
            exact hK _ _ (Grow.refl _) rfl
          · intro w1 hg Ar seen
            have e4 := seen.de 4 36
            have e1 := seen.de 1 33
            refine does_on rfl (by kernel_rfl) e1 fun K Q' hK => ?_
            clear e1
            go_simp
            refine (rright_any O2 s2 _ (M1.out.below hg) ((HT0.out.below HB.out).below hg)).mono ?_
            rintro e u ⟨rfl, hb⟩
            exact hK _ _ hb (congrArg Value.bool RA.out)
          · intro w1 hg Ar seen
            have e3 := seen.de 3 35
            have e5 := seen.de 5 37
            have e1 := seen.de 1 33
            refine does_on rfl (by kernel_rfl) e1 fun K Q' hK => ?_
            clear e1
            go_simp; exact hK _ _ (Grow.refl _) rfl
          · intro w1 hg Ar seen
            have e1 := seen.de 1 33
            have e6 := seen.de 6 38
            refine does_plain rfl fun K Q' hK => ?_
            go_simp; exact hK _ _ (Grow.refl _) rfl
          · intro w1 hg Ar seen
            have e7 := seen.de 7 39
            refine does_plain rfl fun K Q' hK => ?_
            go_simp; exact hK _ _ (Grow.refl _) rfl
          · intro w1 hg Ar seen
            have e8 := seen.de 8 40
            have s12 := seen.sl 12 (.slice aA nA cA)
            refine does_on rfl (by kernel_rfl) e8 fun K Q' hK => ?_
            clear e8
            go_simp; exact hK _ _ (Grow.refl _) rfl
          · intro w1 hg Ar seen
            have e9 := seen.de 9 41
            have e8 := seen.de 8 40
            refine does_on rfl (by kernel_rfl) e8 fun K Q' hK => ?_
            clear e8
            have kc := run_bytes_str (P := Tryd.prog) (DA.out.below hg) cA 22 9 5 Tryd.underlying22 Tryd.underlying5 Tryd.underlying9
            go_simp; exact hK _ _ (Grow.refl _) rfl
          · intro w1 hg Ar seen
            have e8 := seen.de 8 40
            have s14 := seen.sl 14 (.slice aB nB cB)
            refine does_on rfl (by kernel_rfl) e8 fun K Q' hK => ?_
            clear e8
            go_simp; exact hK _ _ (Grow.refl _) rfl
          · intro w1 hg Ar seen
            have e11 := seen.de 11 43
            have e8 := seen.de 8 40
            refine does_on rfl (by kernel_rfl) e8 fun K Q' hK => ?_
            clear e8
            have kc := run_bytes_str (P := Tryd.prog) (DB.out.below hg) cB 22 9 5 Tryd.underlying22 Tryd.underlying5 Tryd.underlying9
            go_simp; exact hK _ _ (Grow.refl _) rfl
          · intro w1 hg Ar seen
            have e10 := seen.de 10 42
            have e12 := seen.de 12 44
            have e8 := seen.de 8 40
            refine does_on rfl (by kernel_rfl) e8 fun K Q' hK => ?_
            clear e8
            go_simp; exact hK _ _ (Grow.refl _) rfl
          · intro w1 hg Ar seen
            have e8 := seen.de 8 40
            have e13 := seen.de 13 45
            refine does_plain rfl fun K Q' hK => ?_
            go_simp; exact hK _ _ (Grow.refl _) rfl
          · intro w1 hg Ar seen
            have e14 := seen.de 14 46
            refine does_plain rfl fun K Q' hK => ?_
            go_simp; exact hK _ _ (Grow.refl _) rfl
          · intro w1 hg Ar seen
            have e15 := seen.de 15 47
            have s13 := seen.sl 13 (.int .i64 0)
            refine does_on rfl (by kernel_rfl) e15 fun K Q' hK => ?_
            clear e15
            go_simp; exact hK _ _ (Grow.refl _) rfl
          · intro w1 hg Ar seen
            have e15 := seen.de 15 47
            have s15 := seen.sl 15 (.int .i64 0)
            refine does_on rfl (by kernel_rfl) e15 fun K Q' hK => ?_
            clear e15
            go_simp; exact hK _ _ (Grow.refl _) rfl
          · intro w1 hg Ar seen
            have e16 := seen.de 16 48
            have e17 := seen.de 17 49
            have e15 := seen.de 15 47
            refine does_on rfl (by kernel_rfl) e15 fun K Q' hK => ?_
            clear e15
            go_simp; exact hK _ _ (Grow.refl _) rfl
          · intro w1 hg Ar seen
            have e15 := seen.de 15 47
            have e18 := seen.de 18 50
            refine does_plain rfl fun K Q' hK => ?_
            go_simp; exact hK _ _ (Grow.refl _) rfl
          · intro w1 hg Ar seen
            have e19 := seen.de 19 51
            refine does_plain rfl fun K Q' hK => ?_
            go_simp; exact hK _ _ (Grow.refl _) rfl
      intro w1 hg
      refine upon_w' (js := [0, 1, 2, 3, 4, 5, 6, 7, 8, 9, 10, 11, 12, 13, 14, 15, 16, 17, 18, 19, 20]) (by rfl) ?_
      refine upon_e (some 32) (upon_e (some 33) (upon_e (some 34) (upon_e (some 35) (upon_e (some 36) (upon_e (some 37) (upon_e (some 38) (upon_e (some 39) (upon_e (some 40) (upon_e (some 41) (upon_e (some 42) (upon_e (some 43) (upon_e (some 44) (upon_e (some 45) (upon_e (some 46) (upon_e (some 47) (upon_e (some 48) (upon_e (some 49) (upon_e (some 50) (upon_e (some 51) (upon_e (some 10) (upon_n ?_)))))))))))))))))))))
      go_simp
      have hb := hg
      clear hg
      have HB' := hid (HB.out.trans (hb.mono HB.out.size))
      clear HB hb
      have HB := HB'
      clear HB'
      go_simp
      go_wp2_with fail
      go_ret
      exact ⟨rfl, HB.out⟩
end Go.Proofs.YtdlkobmlnpijgaaDoor
