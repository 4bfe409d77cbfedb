/- TtlvSizes' walk. -/
import Derived.Test.YtmpajhacigjloaaDoorTtlZ
import Derived.Test.YtmpajhacigjloaaDoorTtlS
namespace Go.Proofs.YtmpajhacigjloaaDoor
open Go.RowKit
set_option linter.unusedVariables false
set_option linter.unusedSimpArgs false
set_option maxRecDepth 1000000
set_option maxHeartbeats 3200000
def sV (v1 : ItV) (s : Sl) : ItV := { tag := 4325378, typ := 1, ks := s, kids := [v1] }
def tV (v1 v2 : ItV) (s : Sl) : ItV := { tag := 4325378, typ := 1, ks := s, kids := [v1, v2] }
theorem iBuildS (v1 : ItV) (s : Sl) (w : World) : (Instr.build 29 #[(0, .int .i64 4325378), (1, .int .i64 1), (4, .slice s.a s.n s.c)]).run Tryd.prog w = .ok (.agg (sV v1 s).arr) w := by kernel_rfl
theorem iBuildT (v1 v2 : ItV) (s : Sl) (w : World) : (Instr.build 29 #[(0, .int .i64 4325378), (1, .int .i64 1), (4, .slice s.a s.n s.c)]).run Tryd.prog w = .ok (.agg (tV v1 v2 s).arr) w := by kernel_rfl
theorem fillA (x0 x1 : ItV) : Instr.fill (fun i => some (i * 5, 5)) ((Array.range (2 * 5)).map (itZ.arr[· % itZ.arr.size]!)) [(0, Value.agg x0.arr), (1, Value.agg x1.arr)] = some (x0.arr ++ x1.arr) := by kernel_rfl
theorem wpList_build_two {ops : Array Oper} {rest : List Oper} {o : Oper} {a : Act} {w : World} {Q : Exit → Act → World → Prop} (hg : o.guard = none) (T E : TypeId) (x y : Operand) (ho : o.op = .buildSlice T 2 #[(0, x), (1, y)]) (v1 v2 : ItV) (hx : a.eval x = .agg v1.arr) (hy : a.eval y = .agg v2.arr) (C : Array Value) (hC : C = v1.arr ++ v2.arr)
    (i : TypeInfo) (hu : Tryd.prog.underlying T = some (.slice E)) (hi : Tryd.prog.info? E = some i) (hz : i.zero = some (.agg itZ.arr)) (hs : i.size = 5)
    (h : wpList Tryd.prog ops Q rest (a.put o.dst (.slice (some ⟨w.heap.size, 0, none⟩) 2 2)) (w.alloc (.cells C E))) : wpList Tryd.prog ops Q (o :: rest) a w := by
  subst hC
  refine wpList_plain hg fun K hK => wp_buildSlice T E 2 _ ho (v1.arr ++ v2.arr) i _ hu hi hz (by rw [hs]; decide) (by rw [hs]; decide) ?_ (hK _ _ h)
  rw [hs, show ((#[(0, x), (1, y)] : Array (Nat × Operand)).map fun (i, x) => (i, a.eval x)).toList = [(0, Value.agg v1.arr), (1, Value.agg v2.arr)] from by simp [hx, hy]]
  exact fillA v1 v2
theorem SlR.block {w : World} {q n : Nat} {C : Array Value} {T : TypeId} {xs : List Value} (h : w.heap[q]? = some (.cells C T (0, 0))) (hC : C.toList = xs) (hn : xs.length = n * 5) (h9 : n ≤ 1099511627776) : SlR w ⟨some ⟨q, 0, none⟩, n, n⟩ 5 xs := by
  subst hC
  have hr := RdC.of_block h
  refine ⟨?_, by simp, h9, fun k hk => by simp [Sl.blk] at hk; rw [hk]; exact block_lt h, Nat.le_refl _⟩
  have : C.size = n * 5 := by simpa using hn
  rw [← this]; exact hr
theorem ttlvSizes_walk (aL : Option Addr) (nL cL : Nat) (l : List R6) (aM : Option Addr) (nM cM : Nat) (m : List R6) (w : World) (hal : R6Args w aL nL l) (ham : R6Args w aM nM m) (hT : UT w) :
    Calls Tryd.prog 4 #[.slice aL nL cL, .slice aM nM cM] w fun e w' => e = .returned (.bool true) ∧ Below w.heap.size w w' := by
  have HAL := hid hal; have HAM := hid ham; have HT := hid hT
  clear hal ham hT
  obtain ⟨i, hi, hz0, hz1, hz2⟩ := info_parts iInfo
  go_enter Tryd.func4, Tryd.ntmps4
  go_wp2_with fail
  refine (tree_any aL nL cL l 30 0 w (by decide) HAL.out).mono ?_
  rintro e w2 ⟨hb, v1, rfl, hv1, ho1, hf1⟩
  dsimp only
  have HB := hid hb; have HV1 := hid hv1; have HO := hid ho1
  clear hb hv1 ho1 hf1
  go_upto_region 2 with (first | (refine wpList_alloc_obj rfl 29 rfl _ iZero ?_) | (refine wpList_store_obj rfl 29 _ _ rfl w2.heap.size rfl _ rfl _ _ (block_new w2 _) rfl iSize (arr_one v1) ?_; intro w3 hb5 hc5 hs5; have HK := hid hb5; have HC5 := hid hc5; clear hb5 hc5 hs5))
  have hbel : Below w2.heap.size w2 w3 := ((Below.refl _ w2).alloc (Nat.le_refl _) _).trans (HC5.out.below (fun k hk => by rw [List.mem_singleton.1 hk]; exact Nat.le_refl _) (by simp))
  have HB3 := hid (HB.out.trans (Below.mono hbel HB.out.size))
  have HO3 := hid (HO.out.below hbel)
  clear hbel HC5 HB HO
  generalize w2.heap.size = b1 at *
  go_wp2_with fail
  refine (tree_any aM nM cM m 30 0 w3 (by decide) (HAM.out.below HB3.out)).mono ?_
  rintro e w4 ⟨hb, v2, rfl, hv2, ho2, hf2⟩
  dsimp only
  have HB4 := hid (HB3.out.trans (Below.mono hb HB3.out.size)); have HV2 := hid hv2; have HP := hid ho2
  have HO4 := hid (HO3.out.below hb)
  have HK4 := hid ((hb.block _ (block_lt HK.out)).trans HK.out)
  clear hb hv2 ho2 hf2 HB3 HO3 HK HAL HAM
  go_upto_region 3 with (first | (refine wpList_alloc_obj rfl 29 rfl _ iZero ?_) | (refine wpList_store_obj rfl 29 _ _ rfl w4.heap.size rfl _ rfl _ _ (block_new w4 _) rfl iSize (arr_one v2) ?_; intro w5 hb5 hc5 hs5; have HL := hid hb5; have HC5 := hid hc5; clear hb5 hc5 hs5))
  have hbel : Below w4.heap.size w4 w5 := ((Below.refl _ w4).alloc (Nat.le_refl _) _).trans (HC5.out.below (fun k hk => by rw [List.mem_singleton.1 hk]; exact Nat.le_refl _) (by simp))
  have HB5 := hid (HB4.out.trans (Below.mono hbel HB4.out.size))
  have HO5 := hid (HO4.out.below hbel)
  have HP5 := hid (HP.out.below hbel)
  have HK5 := hid ((hbel.block _ (block_lt HK4.out)).trans HK4.out)
  clear hbel HC5 HB4 HO4 HP HK4
  generalize w4.heap.size = b2 at *
  have hq1 : Below w5.heap.size w5 (w5.alloc (.cells v1.arr 29)) := (Below.refl _ _).alloc (Nat.le_refl _) _
  have hq2 := block_new w5 (.cells v1.arr 29)
  have HK6 := hid ((hq1.block _ (block_lt HK5.out)).trans HK5.out)
  have HL6 := hid ((hq1.block _ (block_lt HL.out)).trans HL.out)
  have HB6 := hid (HB5.out.trans (Below.mono hq1 HB5.out.size))
  have HO6 := hid (HO5.out.below hq1); have HP6 := hid (HP5.out.below hq1)
  have HQ6 := hid hq2
  obtain ⟨s3, hs3⟩ : ∃ s : Sl, s = ⟨some ⟨w5.heap.size, 0, none⟩, 1, 1⟩ := ⟨_, rfl⟩
  have HS3 := hid hs3
  have hS3 : SlR (w5.alloc (.cells v1.arr 29)) s3 5 (itmCells [v1]) := by rw [hs3]; exact SlR.block hq2 (by simp [itmCells, ItV.cells]) (by simp [itmCells, ItV.cells, ItV.arr]) (by decide)
  have HSS := hid hS3
  clear hq1 hq2 hs3 hS3
  go_simp
  go_upto_region 4 with (first | (refine wpList_load_row rfl 29 _ rfl b1 rfl _ _ _ _ HK5.out Tryd.underlying29 rfl iSize ?_) | (refine wpList_build_item rfl 27 29 _ rfl v1 rfl i Tryd.underlying27 hi hz0 hz1 ?_) | (refine wpList_build_obj rfl 29 _ rfl #[(0, .int .i64 4325378), (1, .int .i64 1), (4, .slice s3.a s3.n s3.c)] (by rw [HS3.out]; kernel_rfl) _ (iBuildS v1 s3 _) ?_) | (refine wpList_alloc_obj rfl 29 rfl _ iZero ?_) | (refine wpList_store_obj rfl 29 _ _ rfl (w5.alloc (.cells v1.arr 29)).heap.size rfl (sV v1 s3).arr rfl _ _ (block_new _ _) rfl iSize (arr_one _) ?_; intro w7 hb5 hc5 hs5; have HM := hid hb5; have HC5 := hid hc5; clear hb5 hc5 hs5))
  clear HS3 HQ6
  generalize w5.alloc (.cells v1.arr 29) = w6 at *
  have hbel : Below w6.heap.size w6 w7 := ((Below.refl _ w6).alloc (Nat.le_refl _) _).trans (HC5.out.below (fun k hk => by rw [List.mem_singleton.1 hk]; exact Nat.le_refl _) (by simp))
  have HB7 := hid (HB6.out.trans (Below.mono hbel HB6.out.size))
  have HO7 := hid (HO6.out.below hbel); have HP7 := hid (HP6.out.below hbel); have HS7 := hid (HSS.out.below hbel)
  have HK7 := hid ((hbel.block _ (block_lt HK6.out)).trans HK6.out)
  have HL7 := hid ((hbel.block _ (block_lt HL6.out)).trans HL6.out)
  clear hbel HC5 HB6 HO6 HP6 HK6 HL6 HSS HK5 HL HB5 HO5 HP5
  generalize w6.heap.size = b3 at *
  obtain ⟨C2, hC2⟩ : ∃ C, C = v1.arr ++ v2.arr := ⟨_, rfl⟩
  have HC2 := hid hC2
  have hq1 : Below w7.heap.size w7 (w7.alloc (.cells C2 29)) := (Below.refl _ _).alloc (Nat.le_refl _) _
  have hq2 := block_new w7 (.cells C2 29)
  have HK8 := hid ((hq1.block _ (block_lt HK7.out)).trans HK7.out)
  have HL8 := hid ((hq1.block _ (block_lt HL7.out)).trans HL7.out)
  have HM8 := hid ((hq1.block _ (block_lt HM.out)).trans HM.out)
  have HB8 := hid (HB7.out.trans (Below.mono hq1 HB7.out.size))
  have HO8 := hid (HO7.out.below hq1); have HP8 := hid (HP7.out.below hq1); have HS8 := hid (HS7.out.below hq1)
  obtain ⟨s4, hs4⟩ : ∃ s : Sl, s = ⟨some ⟨w7.heap.size, 0, none⟩, 2, 2⟩ := ⟨_, rfl⟩
  have HS4 := hid hs4
  have hS4 : SlR (w7.alloc (.cells C2 29)) s4 5 (itmCells [v1, v2]) := by rw [hs4]; exact SlR.block hq2 (by rw [hC2]; simp [itmCells, ItV.cells]) (by simp [itmCells, ItV.cells, ItV.arr]) (by decide)
  have HTT := hid hS4
  clear hq1 hq2 hs4 hS4 hC2
  go_simp
  go_upto_region 5 with (first | (refine wpList_load_row rfl 29 _ rfl b1 rfl _ _ _ _ HK7.out Tryd.underlying29 rfl iSize ?_) | (refine wpList_load_row rfl 29 _ rfl b2 rfl _ _ _ _ HL7.out Tryd.underlying29 rfl iSize ?_) | (refine wpList_build_two rfl 27 29 (.tmp 18) (.tmp 19) rfl v1 v2 (by rfl) (by rfl) C2 HC2.out i Tryd.underlying27 hi hz0 hz1 ?_) | (refine wpList_build_obj rfl 29 _ rfl #[(0, .int .i64 4325378), (1, .int .i64 1), (4, .slice s4.a s4.n s4.c)] (by rw [HS4.out]; kernel_rfl) _ (iBuildT v1 v2 s4 _) ?_) | (refine wpList_alloc_obj rfl 29 rfl _ iZero ?_) | (refine wpList_store_obj rfl 29 _ _ rfl (w7.alloc (.cells C2 29)).heap.size rfl (tV v1 v2 s4).arr rfl _ _ (block_new _ _) rfl iSize (arr_one _) ?_; intro w9 hb5 hc5 hs5; have HN := hid hb5; have HC5 := hid hc5; clear hb5 hc5 hs5))
  clear HS4 HC2
  generalize w7.alloc (.cells C2 29) = w8 at *
  have hbel : Below w8.heap.size w8 w9 := ((Below.refl _ w8).alloc (Nat.le_refl _) _).trans (HC5.out.below (fun k hk => by rw [List.mem_singleton.1 hk]; exact Nat.le_refl _) (by simp))
  have HB9 := hid (HB8.out.trans (Below.mono hbel HB8.out.size))
  have HO9 := hid (HO8.out.below hbel); have HP9 := hid (HP8.out.below hbel); have HS9 := hid (HS8.out.below hbel); have HT9 := hid (HTT.out.below hbel)
  have HK9 := hid ((hbel.block _ (block_lt HK8.out)).trans HK8.out)
  have HL9 := hid ((hbel.block _ (block_lt HL8.out)).trans HL8.out)
  have HM9 := hid ((hbel.block _ (block_lt HM8.out)).trans HM8.out)
  clear hbel HC5 HB8 HO8 HP8 HK8 HL8 HM8 HS8 HTT HK7 HL7 HM HB7 HO7 HP7 HS7
  generalize w8.heap.size = b4 at *
  have hwl := tree6_wt l; have hwm := tree6_wt m
  have hdl := tree6_dep l 30 0; have hdm := tree6_dep m 30 0
  obtain ⟨I, hI⟩ : ∃ I, I = tree6 30 l 0 := ⟨_, rfl⟩
  obtain ⟨J, hJ⟩ : ∃ J, J = tree6 30 m 0 := ⟨_, rfl⟩
  rw [← hI] at hwl hdl HV1
  rw [← hJ] at hwm hdm HV2
  obtain ⟨si, hsi⟩ : ∃ si, si = sizeF 100 I := ⟨_, rfl⟩
  obtain ⟨sj, hsj⟩ : ∃ sj, sj = sizeF 100 J := ⟨_, rfl⟩
  have hbi := sizeF_wt 100 I
  have hbj := sizeF_wt 100 J
  have HZI : Hid (((sizeF 100 v1.it : Nat) : Int) = (si : Int)) := by show _ = _; rw [HV1.out, hsi]
  have HZJ : Hid (((sizeF 100 v2.it : Nat) : Int) = (sj : Int)) := by show _ = _; rw [HV2.out, hsj]
  have HZS : Hid (((sizeF 100 (sV v1 s3).it : Nat) : Int) = 8 + (si : Int)) := by
    have h1 := size_str 4325378 0 [I] (fun x hx => by rw [List.mem_singleton.1 hx]; exact hdl) (by simp only [wtAll]; omega)
    have h2 : (sV v1 s3).it = ⟨4325378, 1, 0, [], [I]⟩ := by rw [ItV.it_eq]; show (⟨4325378, 1, 0, [], [v1.it]⟩ : Itm) = _; rw [HV1.out]
    show _ = _
    rw [h2, h1, hsi]
    simp [sumL]
  have HZT : Hid (((sizeF 100 (tV v1 v2 s4).it : Nat) : Int) = 8 + (si : Int) + (sj : Int)) := by
    have h1 := size_str 4325378 0 [I, J] (fun x hx => by
      rcases List.mem_cons.1 hx with h | h
      · rw [h]; exact hdl
      · rw [List.mem_singleton.1 h]; exact hdm) (by simp only [wtAll]; omega)
    have h2 : (tV v1 v2 s4).it = ⟨4325378, 1, 0, [], [I, J]⟩ := by rw [ItV.it_eq]; show (⟨4325378, 1, 0, [], [v1.it, v2.it]⟩ : Itm) = _; rw [HV1.out, HV2.out]
    show _ = _
    rw [h2, h1, hsi, hsj]
    simp [sumL]
    omega
  have HW1 : Hid (IntKind.i64.wrap (8 + (si : Int)) = 8 + (si : Int)) := IntWalk.i64_in _ (by omega)
  have HW2 : Hid (IntKind.i64.wrap (8 + (si : Int) + (sj : Int)) = 8 + (si : Int) + (sj : Int)) := IntWalk.i64_in _ (by omega)
  have HOS : Hid ((sV v1 s3).ok w9) := ItV.ok_iff.2 ⟨SlC.nil _, HS9.out, fun x hx => by rw [List.mem_singleton.1 hx]; exact HO9.out⟩
  have HOT : Hid ((tV v1 v2 s4).ok w9) := ItV.ok_iff.2 ⟨SlC.nil _, HT9.out, fun x hx => by
    rcases List.mem_cons.1 hx with h | h
    · rw [h]; exact HO9.out
    · rw [List.mem_singleton.1 h]; exact HP9.out⟩
  have HSI := hid hsi
  go_simp
  clear hI hJ hsi hsj hbi hbj hwl hwm hdl hdm HS9 HT9 hi hz0 hz1 hz2 HV2
  go_wp2_with (refine wpList_load_row rfl 29 _ rfl b1 rfl _ _ _ _ HK9.out Tryd.underlying29 rfl iSize ?_)
  refine (Encode_any v1 _ HO9.out (HT.out.below HB9.out)).mono ?_
  rintro e w10 ⟨hb, h⟩
  rw [HV1.out] at h
  have HBW := hid (HB9.out.trans (Below.mono hb HB9.out.size))
  have HO1 := hid (HO9.out.below hb); have HO2 := hid (HP9.out.below hb); have HOS2 := hid (HOS.out.below hb); have HOT2 := hid (HOT.out.below hb)
  have HK1 := hid ((hb.block _ (block_lt HK9.out)).trans HK9.out)
  have HK2 := hid ((hb.block _ (block_lt HL9.out)).trans HL9.out)
  have HK3 := hid ((hb.block _ (block_lt HM9.out)).trans HM9.out)
  have HK4 := hid ((hb.block _ (block_lt HN.out)).trans HN.out)
  clear hb HB9 HO9 HP9 HOS HOT HK9 HL9 HM9 HN
  have HOS := HOS2
  have HOT := HOT2
  clear HOS2 HOT2
  rcases h with ⟨hr, rfl⟩ | ⟨hr, a, n, c, rfl, hown⟩
  · dsimp only
    clear hr
    go_upto_region 6 with (fail)
    refine wp_region_each 31 [.eq (.bool true), .eq (.bool true), .eq (.agg (sV v1 s3).arr), .eq (.int .i64 (8 + (si : Int))), .eq (.agg v1.arr), .eq (.int .i64 (si : Int)), .eq (.int .i64 (8 + (si : Int))), .eq (.bool true), .eq (.bool true), .eq (.bool true), .eq (.agg (tV v1 v2 s4).arr), .eq (.int .i64 (8 + (si : Int) + (sj : Int))), .eq (.agg (sV v1 s3).arr), .eq (.int .i64 (8 + (si : Int))), .eq (.agg v2.arr), .eq (.int .i64 (sj : Int)), .eq (.int .i64 (8 + (si : Int) + (sj : Int))), .eq (.bool true), .eq (.bool true), .eq (.bool true), .eq (.int .i64 1), .eq (.bool true), .eq (.bool true), .eq undef, .eq undef, .eq undef, .eq undef, .eq undef, .eq (.bool true), .eq (.bool true), .eq (.bool true)] (by kernel_rfl) (by kernel_rfl) (by kernel_rfl) (by kernel_rfl) ?_ ?_
    · all_goals
        refine each_5 ?_ ?_ ?_ ?_ ?_ (each_5 ?_ ?_ ?_ ?_ ?_ (each_5 ?_ ?_ ?_ ?_ ?_ (each_5 ?_ ?_ ?_ ?_ ?_ (each_5 ?_ ?_ ?_ ?_ ?_ (each_5 ?_ ?_ ?_ ?_ ?_ (each_c ?_ (each_n)))))))
        · intro w1 hg Ar seen
          refine does_plain rfl fun K Q' hK => ?_
          go_simp
          refine (known6_any _ (HT.out.below (HBW.out.trans (Below.mono hg HBW.out.size)))).mono ?_
          rintro e u ⟨rfl, hb⟩
          exact hK _ _ hb rfl
        · intro w1 hg Ar seen
          have e0 := seen.de 0 27
          refine does_plain rfl fun K Q' hK => ?_
          go_simp; exact hK _ _ (Grow.refl _) rfl
        · intro w1 hg Ar seen
          have e1 := seen.de 1 28
          have s7 := seen.sl 7 (.pointer (some ⟨b3, 0, none⟩))
          refine does_on rfl (by kernel_rfl) e1 fun K Q' hK => ?_
          clear e1
          refine wp_load_row 29 _ rfl b3 (by simp [Act.eval, s7]) _ _ _ _ ((hg.block _ (block_lt HK3.out)).trans HK3.out) Tryd.underlying29 rfl iSize ?_
          exact hK _ _ (Grow.refl _) rfl
        · intro w1 hg Ar seen
          have e2 := seen.de 2 29
          obtain ⟨v1, e1, h1⟩ := seen.dp 1 28
          rcases h1 with rfl
          refine does_on rfl (by kernel_rfl) e1 fun K Q' hK => ?_
          clear e1
          go_simp
          refine (Size_any (sV v1 s3) _ (HOS.out.below hg)).mono ?_
          rintro e u ⟨rfl, hb⟩
          exact hK _ _ hb (congrArg (Value.int .i64) HZS.out)
        · intro w1 hg Ar seen
          have e1 := seen.de 1 28
          have s5 := seen.sl 5 (.pointer (some ⟨b1, 0, none⟩))
          refine does_on rfl (by kernel_rfl) e1 fun K Q' hK => ?_
          clear e1
          refine wp_load_row 29 _ rfl b1 (by simp [Act.eval, s5]) _ _ _ _ ((hg.block _ (block_lt HK1.out)).trans HK1.out) Tryd.underlying29 rfl iSize ?_
          exact hK _ _ (Grow.refl _) rfl
        · intro w1 hg Ar seen
          have e4 := seen.de 4 31
          obtain ⟨v1, e1, h1⟩ := seen.dp 1 28
          rcases h1 with rfl
          refine does_on rfl (by kernel_rfl) e1 fun K Q' hK => ?_
          clear e1
          go_simp
          refine (Size_any v1 _ (HO1.out.below hg)).mono ?_
          rintro e u ⟨rfl, hb⟩
          exact hK _ _ hb (congrArg (Value.int .i64) HZI.out)
        · intro w1 hg Ar seen
          have e5 := seen.de 5 32
          have e1 := seen.de 1 28
          refine does_on rfl (by kernel_rfl) e1 fun K Q' hK => ?_
          clear e1
          have hs := HW1.out
          go_simp; exact hK _ _ (Grow.refl _) rfl
        · intro w1 hg Ar seen
          have e3 := seen.de 3 30
          have e6 := seen.de 6 33
          have e1 := seen.de 1 28
          refine does_on rfl (by kernel_rfl) e1 fun K Q' hK => ?_
          clear e1
          go_simp; exact hK _ _ (Grow.refl _) rfl
        · intro w1 hg Ar seen
          have e1 := seen.de 1 28
          have e7 := seen.de 7 34
          refine does_plain rfl fun K Q' hK => ?_
          go_simp; exact hK _ _ (Grow.refl _) rfl
        · intro w1 hg Ar seen
          have e8 := seen.de 8 35
          refine does_plain rfl fun K Q' hK => ?_
          go_simp; exact hK _ _ (Grow.refl _) rfl
        · intro w1 hg Ar seen
          have e9 := seen.de 9 36
          have s8 := seen.sl 8 (.pointer (some ⟨b4, 0, none⟩))
          refine does_on rfl (by kernel_rfl) e9 fun K Q' hK => ?_
          clear e9
          refine wp_load_row 29 _ rfl b4 (by simp [Act.eval, s8]) _ _ _ _ ((hg.block _ (block_lt HK4.out)).trans HK4.out) Tryd.underlying29 rfl iSize ?_
          exact hK _ _ (Grow.refl _) rfl
        · intro w1 hg Ar seen
          have e10 := seen.de 10 37
          have e9 := seen.de 9 36
          refine does_on rfl (by kernel_rfl) e9 fun K Q' hK => ?_
          clear e9
          go_simp
          refine (Size_any (tV v1 v2 s4) _ (HOT.out.below hg)).mono ?_
          rintro e u ⟨rfl, hb⟩
          exact hK _ _ hb (congrArg (Value.int .i64) HZT.out)
        · intro w1 hg Ar seen
          have e9 := seen.de 9 36
          have s7 := seen.sl 7 (.pointer (some ⟨b3, 0, none⟩))
          refine does_on rfl (by kernel_rfl) e9 fun K Q' hK => ?_
          clear e9
          refine wp_load_row 29 _ rfl b3 (by simp [Act.eval, s7]) _ _ _ _ ((hg.block _ (block_lt HK3.out)).trans HK3.out) Tryd.underlying29 rfl iSize ?_
          exact hK _ _ (Grow.refl _) rfl
        · intro w1 hg Ar seen
          have e12 := seen.de 12 39
          have e9 := seen.de 9 36
          refine does_on rfl (by kernel_rfl) e9 fun K Q' hK => ?_
          clear e9
          go_simp
          refine (Size_any (sV v1 s3) _ (HOS.out.below hg)).mono ?_
          rintro e u ⟨rfl, hb⟩
          exact hK _ _ hb (congrArg (Value.int .i64) HZS.out)
        · intro w1 hg Ar seen
          have e9 := seen.de 9 36
          have s6 := seen.sl 6 (.pointer (some ⟨b2, 0, none⟩))
          refine does_on rfl (by kernel_rfl) e9 fun K Q' hK => ?_
          clear e9
          refine wp_load_row 29 _ rfl b2 (by simp [Act.eval, s6]) _ _ _ _ ((hg.block _ (block_lt HK2.out)).trans HK2.out) Tryd.underlying29 rfl iSize ?_
          exact hK _ _ (Grow.refl _) rfl
        · intro w1 hg Ar seen
          have e14 := seen.de 14 41
          have e9 := seen.de 9 36
          refine does_on rfl (by kernel_rfl) e9 fun K Q' hK => ?_
          clear e9
          go_simp
          refine (Size_any v2 _ (HO2.out.below hg)).mono ?_
          rintro e u ⟨rfl, hb⟩
          exact hK _ _ hb (congrArg (Value.int .i64) HZJ.out)
        · intro w1 hg Ar seen
          have e13 := seen.de 13 40
          have e15 := seen.de 15 42
          have e9 := seen.de 9 36
          refine does_on rfl (by kernel_rfl) e9 fun K Q' hK => ?_
          clear e9
          have hs := HW2.out
          go_simp; exact hK _ _ (Grow.refl _) rfl
        · intro w1 hg Ar seen
          have e11 := seen.de 11 38
          have e16 := seen.de 16 43
          have e9 := seen.de 9 36
          refine does_on rfl (by kernel_rfl) e9 fun K Q' hK => ?_
          clear e9
          go_simp; exact hK _ _ (Grow.refl _) rfl
        · intro w1 hg Ar seen
          have e9 := seen.de 9 36
          have e17 := seen.de 17 44
          refine does_plain rfl fun K Q' hK => ?_
          go_simp; exact hK _ _ (Grow.refl _) rfl
        · intro w1 hg Ar seen
          have e18 := seen.de 18 45
          refine does_plain rfl fun K Q' hK => ?_
          go_simp; exact hK _ _ (Grow.refl _) rfl
        · intro w1 hg Ar seen
          have e19 := seen.de 19 46
          have s10 := seen.sl 10 (.int .i64 1)
          refine does_on rfl (by kernel_rfl) e19 fun K Q' hK => ?_
          clear e19
          go_simp; exact hK _ _ (Grow.refl _) rfl
        · intro w1 hg Ar seen
          have e20 := seen.de 20 47
          have e19 := seen.de 19 46
          refine does_on rfl (by kernel_rfl) e19 fun K Q' hK => ?_
          clear e19
          go_simp; exact hK _ _ (Grow.refl _) rfl
        · intro w1 hg Ar seen
          have e21 := seen.de 21 48
          have e19 := seen.de 19 46
          refine does_on rfl (by kernel_rfl) e19 fun K Q' hK => ?_
          clear e19
          go_simp; exact hK _ _ (Grow.refl _) rfl
        · intro w1 hg Ar seen
          have e22 := seen.de 22 49
          exact does_off rfl (by kernel_rfl) e22 ne_tf (Grow.refl _) rfl
        · intro w1 hg Ar seen
          have e22 := seen.de 22 49
          exact does_off rfl (by kernel_rfl) e22 ne_tf (Grow.refl _) rfl
        · intro w1 hg Ar seen
          have e22 := seen.de 22 49
          exact does_off rfl (by kernel_rfl) e22 ne_tf (Grow.refl _) rfl
        · intro w1 hg Ar seen
          have e22 := seen.de 22 49
          exact does_off rfl (by kernel_rfl) e22 ne_tf (Grow.refl _) rfl
        · intro w1 hg Ar seen
          have e22 := seen.de 22 49
          exact does_off rfl (by kernel_rfl) e22 ne_tf (Grow.refl _) rfl
        · intro w1 hg Ar seen
          have e22 := seen.de 22 49
          have e27 := seen.de 27 54
          have e19 := seen.de 19 46
          refine does_on rfl (by kernel_rfl) e19 fun K Q' hK => ?_
          clear e19
          go_simp; exact hK _ _ (Grow.refl _) rfl
        · intro w1 hg Ar seen
          have e19 := seen.de 19 46
          have e28 := seen.de 28 55
          refine does_plain rfl fun K Q' hK => ?_
          go_simp; exact hK _ _ (Grow.refl _) rfl
        · intro w1 hg Ar seen
          have e29 := seen.de 29 56
          refine does_plain rfl fun K Q' hK => ?_
          go_simp; exact hK _ _ (Grow.refl _) rfl
    intro w1 hg
    refine upon_w' (js := [0, 1, 2, 3, 4, 5, 6, 7, 8, 9, 10, 11, 12, 13, 14, 15, 16, 17, 18, 19, 20, 21, 22, 23, 24, 25, 26, 27, 28, 29, 30]) (by rfl) ?_
    refine upon_e (some 27) (upon_e (some 28) (upon_e (some 29) (upon_e (some 30) (upon_e (some 31) (upon_e (some 32) (upon_e (some 33) (upon_e (some 34) (upon_e (some 35) (upon_e (some 36) (upon_e (some 37) (upon_e (some 38) (upon_e (some 39) (upon_e (some 40) (upon_e (some 41) (upon_e (some 42) (upon_e (some 43) (upon_e (some 44) (upon_e (some 45) (upon_e (some 46) (upon_e (some 47) (upon_e (some 48) (upon_e (some 49) (upon_e (some 50) (upon_e (some 51) (upon_e (some 52) (upon_e (some 53) (upon_e (some 54) (upon_e (some 55) (upon_e (some 56) (upon_e (some 4) (upon_n ?_)))))))))))))))))))))))))))))))
    go_simp
    have HG := hid hg
    clear hg
    go_simp
    go_wp2_with fail
    go_ret
    exact ⟨rfl, HBW.out.trans (Below.mono HG.out HBW.out.size)⟩
  · dsimp only
    have HNS : Hid ((n : Int) = (si : Int)) := by
      have h1 := hown.1
      have h2 := right_size hr
      have h3 := HSI.out
      simp only [List.length_map, Nat.mul_one] at h1
      show _ = _
      omega
    clear hr hown
    go_upto_region 6 with (fail)
    refine wp_region_each 31 [.eq (.bool true), .eq (.bool true), .eq (.agg (sV v1 s3).arr), .eq (.int .i64 (8 + (si : Int))), .eq (.agg v1.arr), .eq (.int .i64 (si : Int)), .eq (.int .i64 (8 + (si : Int))), .eq (.bool true), .eq (.bool true), .eq (.bool true), .eq (.agg (tV v1 v2 s4).arr), .eq (.int .i64 (8 + (si : Int) + (sj : Int))), .eq (.agg (sV v1 s3).arr), .eq (.int .i64 (8 + (si : Int))), .eq (.agg v2.arr), .eq (.int .i64 (sj : Int)), .eq (.int .i64 (8 + (si : Int) + (sj : Int))), .eq (.bool true), .eq (.bool true), .eq (.bool true), .eq (.int .i64 0), .eq (.bool false), .eq (.bool false), .eq (.slice a n c), .eq (.int .i64 (si : Int)), .eq (.agg v1.arr), .eq (.int .i64 (si : Int)), .eq (.bool true), .eq (.bool true), .eq (.bool true), .eq (.bool true)] (by kernel_rfl) (by kernel_rfl) (by kernel_rfl) (by kernel_rfl) ?_ ?_
    · all_goals
        refine each_5 ?_ ?_ ?_ ?_ ?_ (each_5 ?_ ?_ ?_ ?_ ?_ (each_5 ?_ ?_ ?_ ?_ ?_ (each_5 ?_ ?_ ?_ ?_ ?_ (each_5 ?_ ?_ ?_ ?_ ?_ (each_5 ?_ ?_ ?_ ?_ ?_ (each_c ?_ (each_n)))))))
        · intro w1 hg Ar seen
          refine does_plain rfl fun K Q' hK => ?_
          go_simp
          refine (known6_any _ (HT.out.below (HBW.out.trans (Below.mono hg HBW.out.size)))).mono ?_
          rintro e u ⟨rfl, hb⟩
          exact hK _ _ hb rfl
        · intro w1 hg Ar seen
          have e0 := seen.de 0 27
          refine does_plain rfl fun K Q' hK => ?_
          go_simp; exact hK _ _ (Grow.refl _) rfl
        · intro w1 hg Ar seen
          have e1 := seen.de 1 28
          have s7 := seen.sl 7 (.pointer (some ⟨b3, 0, none⟩))
          refine does_on rfl (by kernel_rfl) e1 fun K Q' hK => ?_
          clear e1
          refine wp_load_row 29 _ rfl b3 (by simp [Act.eval, s7]) _ _ _ _ ((hg.block _ (block_lt HK3.out)).trans HK3.out) Tryd.underlying29 rfl iSize ?_
          exact hK _ _ (Grow.refl _) rfl
        · intro w1 hg Ar seen
          have e2 := seen.de 2 29
          obtain ⟨v1, e1, h1⟩ := seen.dp 1 28
          rcases h1 with rfl
          refine does_on rfl (by kernel_rfl) e1 fun K Q' hK => ?_
          clear e1
          go_simp
          refine (Size_any (sV v1 s3) _ (HOS.out.below hg)).mono ?_
          rintro e u ⟨rfl, hb⟩
          exact hK _ _ hb (congrArg (Value.int .i64) HZS.out)
        · intro w1 hg Ar seen
          have e1 := seen.de 1 28
          have s5 := seen.sl 5 (.pointer (some ⟨b1, 0, none⟩))
          refine does_on rfl (by kernel_rfl) e1 fun K Q' hK => ?_
          clear e1
          refine wp_load_row 29 _ rfl b1 (by simp [Act.eval, s5]) _ _ _ _ ((hg.block _ (block_lt HK1.out)).trans HK1.out) Tryd.underlying29 rfl iSize ?_
          exact hK _ _ (Grow.refl _) rfl
        · intro w1 hg Ar seen
          have e4 := seen.de 4 31
          obtain ⟨v1, e1, h1⟩ := seen.dp 1 28
          rcases h1 with rfl
          refine does_on rfl (by kernel_rfl) e1 fun K Q' hK => ?_
          clear e1
          go_simp
          refine (Size_any v1 _ (HO1.out.below hg)).mono ?_
          rintro e u ⟨rfl, hb⟩
          exact hK _ _ hb (congrArg (Value.int .i64) HZI.out)
        · intro w1 hg Ar seen
          have e5 := seen.de 5 32
          have e1 := seen.de 1 28
          refine does_on rfl (by kernel_rfl) e1 fun K Q' hK => ?_
          clear e1
          have hs := HW1.out
          go_simp; exact hK _ _ (Grow.refl _) rfl
        · intro w1 hg Ar seen
          have e3 := seen.de 3 30
          have e6 := seen.de 6 33
          have e1 := seen.de 1 28
          refine does_on rfl (by kernel_rfl) e1 fun K Q' hK => ?_
          clear e1
          go_simp; exact hK _ _ (Grow.refl _) rfl
        · intro w1 hg Ar seen
          have e1 := seen.de 1 28
          have e7 := seen.de 7 34
          refine does_plain rfl fun K Q' hK => ?_
          go_simp; exact hK _ _ (Grow.refl _) rfl
        · intro w1 hg Ar seen
          have e8 := seen.de 8 35
          refine does_plain rfl fun K Q' hK => ?_
          go_simp; exact hK _ _ (Grow.refl _) rfl
        · intro w1 hg Ar seen
          have e9 := seen.de 9 36
          have s8 := seen.sl 8 (.pointer (some ⟨b4, 0, none⟩))
          refine does_on rfl (by kernel_rfl) e9 fun K Q' hK => ?_
          clear e9
          refine wp_load_row 29 _ rfl b4 (by simp [Act.eval, s8]) _ _ _ _ ((hg.block _ (block_lt HK4.out)).trans HK4.out) Tryd.underlying29 rfl iSize ?_
          exact hK _ _ (Grow.refl _) rfl
        · intro w1 hg Ar seen
          have e10 := seen.de 10 37
          have e9 := seen.de 9 36
          refine does_on rfl (by kernel_rfl) e9 fun K Q' hK => ?_
          clear e9
          go_simp
          refine (Size_any (tV v1 v2 s4) _ (HOT.out.below hg)).mono ?_
          rintro e u ⟨rfl, hb⟩
          exact hK _ _ hb (congrArg (Value.int .i64) HZT.out)
        · intro w1 hg Ar seen
          have e9 := seen.de 9 36
          have s7 := seen.sl 7 (.pointer (some ⟨b3, 0, none⟩))
          refine does_on rfl (by kernel_rfl) e9 fun K Q' hK => ?_
          clear e9
          refine wp_load_row 29 _ rfl b3 (by simp [Act.eval, s7]) _ _ _ _ ((hg.block _ (block_lt HK3.out)).trans HK3.out) Tryd.underlying29 rfl iSize ?_
          exact hK _ _ (Grow.refl _) rfl
        · intro w1 hg Ar seen
          have e12 := seen.de 12 39
          have e9 := seen.de 9 36
          refine does_on rfl (by kernel_rfl) e9 fun K Q' hK => ?_
          clear e9
          go_simp
          refine (Size_any (sV v1 s3) _ (HOS.out.below hg)).mono ?_
          rintro e u ⟨rfl, hb⟩
          exact hK _ _ hb (congrArg (Value.int .i64) HZS.out)
        · intro w1 hg Ar seen
          have e9 := seen.de 9 36
          have s6 := seen.sl 6 (.pointer (some ⟨b2, 0, none⟩))
          refine does_on rfl (by kernel_rfl) e9 fun K Q' hK => ?_
          clear e9
          refine wp_load_row 29 _ rfl b2 (by simp [Act.eval, s6]) _ _ _ _ ((hg.block _ (block_lt HK2.out)).trans HK2.out) Tryd.underlying29 rfl iSize ?_
          exact hK _ _ (Grow.refl _) rfl
        · intro w1 hg Ar seen
          have e14 := seen.de 14 41
          have e9 := seen.de 9 36
          refine does_on rfl (by kernel_rfl) e9 fun K Q' hK => ?_
          clear e9
          go_simp
          refine (Size_any v2 _ (HO2.out.below hg)).mono ?_
          rintro e u ⟨rfl, hb⟩
          exact hK _ _ hb (congrArg (Value.int .i64) HZJ.out)
        · intro w1 hg Ar seen
          have e13 := seen.de 13 40
          have e15 := seen.de 15 42
          have e9 := seen.de 9 36
          refine does_on rfl (by kernel_rfl) e9 fun K Q' hK => ?_
          clear e9
          have hs := HW2.out
          go_simp; exact hK _ _ (Grow.refl _) rfl
        · intro w1 hg Ar seen
          have e11 := seen.de 11 38
          have e16 := seen.de 16 43
          have e9 := seen.de 9 36
          refine does_on rfl (by kernel_rfl) e9 fun K Q' hK => ?_
          clear e9
          go_simp; exact hK _ _ (Grow.refl _) rfl
        · intro w1 hg Ar seen
          have e9 := seen.de 9 36
          have e17 := seen.de 17 44
          refine does_plain rfl fun K Q' hK => ?_
          go_simp; exact hK _ _ (Grow.refl _) rfl
        · intro w1 hg Ar seen
          have e18 := seen.de 18 45
          refine does_plain rfl fun K Q' hK => ?_
          go_simp; exact hK _ _ (Grow.refl _) rfl
        · intro w1 hg Ar seen
          have e19 := seen.de 19 46
          have s10 := seen.sl 10 (.int .i64 0)
          refine does_on rfl (by kernel_rfl) e19 fun K Q' hK => ?_
          clear e19
          go_simp; exact hK _ _ (Grow.refl _) rfl
        · intro w1 hg Ar seen
          have e20 := seen.de 20 47
          have e19 := seen.de 19 46
          refine does_on rfl (by kernel_rfl) e19 fun K Q' hK => ?_
          clear e19
          go_simp; exact hK _ _ (Grow.refl _) rfl
        · intro w1 hg Ar seen
          have e21 := seen.de 21 48
          have e19 := seen.de 19 46
          refine does_on rfl (by kernel_rfl) e19 fun K Q' hK => ?_
          clear e19
          go_simp; exact hK _ _ (Grow.refl _) rfl
        · intro w1 hg Ar seen
          have e22 := seen.de 22 49
          have s9 := seen.sl 9 (.slice a n c)
          refine does_on rfl (by kernel_rfl) e22 fun K Q' hK => ?_
          clear e22
          go_simp; exact hK _ _ (Grow.refl _) rfl
        · intro w1 hg Ar seen
          have e23 := seen.de 23 50
          have e22 := seen.de 22 49
          refine does_on rfl (by kernel_rfl) e22 fun K Q' hK => ?_
          clear e22
          have hs := HNS.out
          go_simp; exact hK _ _ (Grow.refl _) rfl
        · intro w1 hg Ar seen
          have e22 := seen.de 22 49
          have s5 := seen.sl 5 (.pointer (some ⟨b1, 0, none⟩))
          refine does_on rfl (by kernel_rfl) e22 fun K Q' hK => ?_
          clear e22
          refine wp_load_row 29 _ rfl b1 (by simp [Act.eval, s5]) _ _ _ _ ((hg.block _ (block_lt HK1.out)).trans HK1.out) Tryd.underlying29 rfl iSize ?_
          exact hK _ _ (Grow.refl _) rfl
        · intro w1 hg Ar seen
          have e25 := seen.de 25 52
          have e22 := seen.de 22 49
          refine does_on rfl (by kernel_rfl) e22 fun K Q' hK => ?_
          clear e22
          go_simp
          refine (Size_any v1 _ (HO1.out.below hg)).mono ?_
          rintro e u ⟨rfl, hb⟩
          exact hK _ _ hb (congrArg (Value.int .i64) HZI.out)
        · intro w1 hg Ar seen
          have e24 := seen.de 24 51
          have e26 := seen.de 26 53
          have e22 := seen.de 22 49
          refine does_on rfl (by kernel_rfl) e22 fun K Q' hK => ?_
          clear e22
          go_simp; exact hK _ _ (Grow.refl _) rfl
        · intro w1 hg Ar seen
          have e22 := seen.de 22 49
          have e27 := seen.de 27 54
          have e19 := seen.de 19 46
          refine does_on rfl (by kernel_rfl) e19 fun K Q' hK => ?_
          clear e19
          go_simp; exact hK _ _ (Grow.refl _) rfl
        · intro w1 hg Ar seen
          have e19 := seen.de 19 46
          have e28 := seen.de 28 55
          refine does_plain rfl fun K Q' hK => ?_
          go_simp; exact hK _ _ (Grow.refl _) rfl
        · intro w1 hg Ar seen
          have e29 := seen.de 29 56
          refine does_plain rfl fun K Q' hK => ?_
          go_simp; exact hK _ _ (Grow.refl _) rfl
    intro w1 hg
    refine upon_w' (js := [0, 1, 2, 3, 4, 5, 6, 7, 8, 9, 10, 11, 12, 13, 14, 15, 16, 17, 18, 19, 20, 21, 22, 23, 24, 25, 26, 27, 28, 29, 30]) (by rfl) ?_
    refine upon_e (some 27) (upon_e (some 28) (upon_e (some 29) (upon_e (some 30) (upon_e (some 31) (upon_e (some 32) (upon_e (some 33) (upon_e (some 34) (upon_e (some 35) (upon_e (some 36) (upon_e (some 37) (upon_e (some 38) (upon_e (some 39) (upon_e (some 40) (upon_e (some 41) (upon_e (some 42) (upon_e (some 43) (upon_e (some 44) (upon_e (some 45) (upon_e (some 46) (upon_e (some 47) (upon_e (some 48) (upon_e (some 49) (upon_e (some 50) (upon_e (some 51) (upon_e (some 52) (upon_e (some 53) (upon_e (some 54) (upon_e (some 55) (upon_e (some 56) (upon_e (some 4) (upon_n ?_)))))))))))))))))))))))))))))))
    go_simp
    have HG := hid hg
    clear hg
    go_simp
    go_wp2_with fail
    go_ret
    exact ⟨rfl, HBW.out.trans (Below.mono HG.out HBW.out.size)⟩
end Go.Proofs.YtmpajhacigjloaaDoor
