/- object.Right. -/
import Derived.Test.YtdlkobmlnpijgaaDoorObjAll
namespace Go.Proofs.YtdlkobmlnpijgaaDoor
open Go.RowKit
set_option linter.unusedVariables false
set_option linter.unusedSimpArgs false
set_option maxRecDepth 1000000
set_option maxHeartbeats 6400000
theorem idxDate (O : ObjD) (w : World) : ∀ i : Nat, i < 10 → (Instr.index 28 (.agg (dateL O).toArray) (.int .i64 (i : Int))).run Tryd.prog w = .ok (.agg #[.bool (O.dat i).1, .int .i64 (O.dat i).2]) w := by
  intro i hi
  have : i = 0 ∨ i = 1 ∨ i = 2 ∨ i = 3 ∨ i = 4 ∨ i = 5 ∨ i = 6 ∨ i = 7 ∨ i = 8 ∨ i = 9 := by omega
  clear hi
  rcases this with h | h | h | h | h | h | h | h | h | h <;> (rw [h]; clear h; show Eq _ _; kernel_rfl)
theorem dates_all {O : ObjD} (hd : O.dates.length = 10) (h : ∀ i, i < 10 → dateOk (O.dat i) = true) : O.dates.all dateOk = true := by
  rw [List.all_eq_true]
  intro x hx
  obtain ⟨i, hi, he⟩ := List.mem_iff_getElem.1 hx
  have := h i (by omega)
  unfold ObjD.dat at this
  rw [List.getD_eq_getElem?_getD, List.getElem?_eq_getElem hi, Option.getD_some, he] at this
  exact this
theorem dates_no {O : ObjD} (hd : O.dates.length = 10) {i : Nat} (hi : i < 10) (h : dateOk (O.dat i) = false) : O.dates.all dateOk = false := by
  cases hb : O.dates.all dateOk with
  | false => rfl
  | true =>
    rw [List.all_eq_true] at hb
    have := hb (O.dat i) (by unfold ObjD.dat; rw [List.getD_eq_getElem?_getD, List.getElem?_eq_getElem (by omega), Option.getD_some]; exact List.getElem_mem _)
    rw [h] at this; cases this
theorem undef_no {b : Bool} : ¬ (some undef = some (Value.bool b)) := by simp [undef]
theorem str_nil {s : ByteArray} (h : s.size = 0) : s.toList = [] := by rw [str_empty h, ByteArray.toList_eq]
theorem right10_any (O : ObjD) (s : ObjV) (w : World) (h : ObjM w O s) (hT : UT w) : Calls Tryd.prog 17 #[.agg (objCells O s)] w fun e w' => e = .returned (.bool (rightO O)) ∧ Below w.heap.size w w' := by
  have HDL := hid h.dl
  have hml : O.mat.length = s.mat.n := by have := h.mat.rd.len; simpa using this
  have HML := hid hml
  have HM0 := hid h; have HT0 := hid hT
  clear h hT hml
  generalize hbe : w.heap.size = b
  have HBE := hid hbe; clear hbe
  go_enter Tryd.func17, Tryd.ntmps17
  go_upto_region 1 with (fail)
  have hbw : Below w.heap.size w (w.alloc (.cells (objCells O s) 35)) := (Below.refl _ w).alloc (Nat.le_refl _) _
  have BX := hid (block_new w (.cells (objCells O s) 35))
  have HM := hid (HM0.out.below hbw); have HT := hid (HT0.out.below hbw)
  have HSZ : Hid (b + 1 ≤ (w.alloc (.cells (objCells O s) 35)).heap.size) := by show _ ≤ _; simp [HBE.out]
  rw [HBE.out] at hbw BX ⊢
  have HB := hid hbw
  have HM1 := HM0
  clear hbw HM0 HT0
  generalize w.alloc (.cells (objCells O s) 35) = W at *
  obtain ⟨ty, hty⟩ : ∃ t, t = O.typ := ⟨_, rfl⟩
  have d1 : W.cell? ⟨b, 1, none⟩ = some (.int .i64 ty) := by rw [hty]; exact cell_of_block (j := 1) BX.out (oc1 O s)
  have HTY := hid hty
  clear hty
  go_upto_block 0 with (fail)
  go_cut [] (fun wx => wx = W ∧ (ty = 2 ∨ ty = 3 ∨ ty = 4 ∨ ty = 7))
  case first =>
    by_cases hq : ty = 2 ∨ ty = 3 ∨ ty = 4 ∨ ty = 7
    · have hqq := hq
      have HQQ := hid hqq
      clear hqq
      rcases hq with rfl | rfl | rfl | rfl <;> (go_wp2_with fail; go_meet; exact ⟨rfl, HQQ.out⟩)
    · have n2 : (ty == 2) = false := by simp; omega
      have n3 : (ty == 3) = false := by simp; omega
      have n4 : (ty == 4) = false := by simp; omega
      have n7 : (ty == 7) = false := by simp; omega
      have HR : Hid (rightO O = false) := by show _ = _; unfold rightO; rw [← HTY.out]; simp [n2, n3, n4, n7]
      clear hq
      go_wp2_with fail
      go_ret
      exact ⟨by rw [HR.out]; rfl, HB.out⟩
  case rest =>
    obtain ⟨rfl, hq⟩ := hcut
    have HQ : Hid ((O.typ == 2 || (O.typ == 3 || (O.typ == 4 || O.typ == 7))) = true) := by show _ = _; rw [← HTY.out]; simp; omega
    clear hq d1
    generalize wc = W at *
    have hdt := date_range BX.out
    have HDT := hid hdt
    clear hdt
    go_wp2_with (refine wpList_load_mid rfl 28 _ rfl b 7 rfl (dateL O) _ HDT.out Tryd.underlying28 rfl oSizeD ?_)
    go_loopw [14] (fun y wr => ∃ k : Nat, k ≤ 10 ∧ y = .int .i64 k ∧ Below b w wr ∧ UT wr ∧ wr.heap[b]? = some (.cells (objCells O s) 35 (0, 0)) ∧ ∀ i, i < k → dateOk (O.dat i) = true) (fun y _ => 10 - (intOf y).toNat)
    case atStart => exact ⟨0, by omega, rfl, HB.out, HT.out, BX.out, fun i hi => by omega⟩
    case round =>
      obtain ⟨k, hk, rfl, hb, ht, hx, ha⟩ := hrel
      clear HB HT BX HSZ HM
      have HB := hid hb; have HT := hid ht; have BX := hid hx; have HA := hid ha
      have HSZ : Hid (b + 1 ≤ wr.heap.size) := block_lt hx
      clear hb ht hx ha
      by_cases hlt : k < 10
      · have hix : ∀ w, (Instr.index 28 (.agg (dateL O).toArray) (.int .i64 (k : Int))).run Tryd.prog w = .ok (.agg #[.bool (O.dat k).1, .int .i64 (O.dat k).2]) w := fun w => idxDate O w k hlt
        go_upto_region 10 with (first | (refine wpList_alloc_obj rfl 27 rfl _ oZrD ?_) | (refine wpList_store_obj rfl 27 _ _ rfl wr.heap.size rfl #[.bool (O.dat k).1, .int .i64 (O.dat k).2] rfl _ _ (block_new wr _) rfl oSzD (oneD _ _) ?_; intro w2 hb2 hc2 hs2; have HB_w2 := hid hb2; have HC_w2 := hid hc2; clear hb2 hc2 hs2))
        have hbel2 : Below wr.heap.size wr w2 := ((Below.refl _ wr).alloc (Nat.le_refl _) _).trans (HC_w2.out.below (fun k hk => by rw [List.mem_singleton.1 hk]; exact Nat.le_refl _) (by simp))
        have HB2 := hid (HB.out.trans (hbel2.mono (by have := HSZ.out; omega))); have HT2 := hid (HT.out.below hbel2)
        have BX2 := hid ((hbel2.block _ (block_lt BX.out)).trans BX.out)
        have HSZ2 : Hid (b ≤ w2.heap.size) := by have := HSZ.out; have := hbel2.size; show _ ≤ _; omega
        clear hbel2 HC_w2 HB HT BX HSZ hix
        generalize wr.heap.size = pd at *
        go_wp2_with (refine wpList_load_row rfl 27 _ rfl pd rfl _ _ _ _ HB_w2.out Tryd.underlying27 rfl oSzD ?_)
        refine (date_any (O.dat k).1 (O.dat k).2 _).mono ?_
        rintro e W3 ⟨rfl, hb3⟩
        dsimp only
        have HB3 := hid (HB2.out.trans (hb3.mono HSZ2.out)); have HT3 := hid (HT2.out.below hb3)
        have BX3 := hid ((hb3.block _ (block_lt BX2.out)).trans BX2.out)
        clear hb3 HB2 HT2 BX2 HB_w2
        cases hf : dateOk ((O.dat k).1, (O.dat k).2) with
        | false =>
          have HR : Hid (rightO O = false) := by show _ = _; unfold rightO; rw [dates_no HDL.out hlt hf]; simp
          clear hf
          go_wp2_with fail
          go_ret
          exact ⟨by rw [HR.out]; rfl, HB3.out⟩
        | true =>
          have HA2 : Hid (∀ i, i < k + 1 → dateOk (O.dat i) = true) := fun i hi => by
            rcases Nat.lt_or_eq_of_le (Nat.le_of_lt_succ hi) with h | h
            · exact HA.out i h
            · rw [h]; exact hf
          clear hf
          go_wp2_with fail
          go_roundw
          case rel =>
            first
              | exact ⟨k + 1, by omega, by go_num, HB3.out, HT3.out, BX3.out, HA2.out⟩
              | ((repeat apply Exists.intro); exact ⟨⟨k + 1, by omega, by go_num, HB3.out, HT3.out, BX3.out, HA2.out⟩, rfl⟩)
          case measure => simp [intOf]; omega
      · obtain rfl : k = 10 := by omega
        have HD := hid (dates_all HDL.out HA.out)
        have HMR := hid (HM1.out.below (by rw [HBE.out]; exact HB.out))
        clear HA
        go_upto_region 13 with (fail)
        simp only [List.append_eq, List.cons_append, List.nil_append]
        have d0 := cell_of_block (j := 0) BX.out (oc0 O s)
        go_wp2_with fail
        refine (isText_any O.id _ HT.out).mono ?_
        rintro e W1 ⟨rfl, hb⟩
        dsimp only
        clear d0
        have HB' := hid (HB.out.trans (hb.mono (by have := HSZ.out; omega))); have HT' := hid (HT.out.below hb); have BX' := hid ((hb.block _ (block_lt BX.out)).trans BX.out); have HMR' := hid (HMR.out.below hb); have HSZ' : Hid (b + 1 ≤ W1.heap.size) := Nat.le_trans HSZ.out hb.size
        clear hb HB HT BX HMR HSZ
        have HB := HB'; have HT := HT'; have BX := BX'; have HMR := HMR'; have HSZ := HSZ'
        clear HB' HT' BX' HMR' HSZ'
        cases q1 : isT O.id with
        | false =>
          have HR : Hid (rightO O = false) := by show _ = _; unfold rightO; simp [q1]
          clear q1
          go_wp2_with fail
          go_ret
          exact ⟨by rw [HR.out]; rfl, HB.out⟩
        | true =>
          have Q1 := hid q1
          clear q1
          have d2 := cell_of_block (j := 2) BX.out (oc2 O s)
          go_wp2_with fail
          refine (in3_any O.alg 0 100 _).mono ?_
          rintro e u ⟨rfl, rfl⟩
          dsimp only
          clear d2
          cases q2 : inB O.alg 0 100 with
          | false =>
            have HR : Hid (rightO O = false) := by show _ = _; unfold rightO; simp [q2]
            clear q2
            go_wp2_with fail
            go_ret
            exact ⟨by rw [HR.out]; rfl, HB.out⟩
          | true =>
            have Q2 := hid q2
            clear q2
            have d3 := cell_of_block (j := 3) BX.out (oc3 O s)
            go_wp2_with fail
            refine (in3_any O.len 0 100000 _).mono ?_
            rintro e u ⟨rfl, rfl⟩
            dsimp only
            clear d3
            cases q3 : inB O.len 0 100000 with
            | false =>
              have HR : Hid (rightO O = false) := by show _ = _; unfold rightO; simp [q3]
              clear q3
              go_wp2_with fail
              go_ret
              exact ⟨by rw [HR.out]; rfl, HB.out⟩
            | true =>
              have Q3 := hid q3
              clear q3
              have d4 := cell_of_block (j := 4) BX.out (oc4 O s)
              go_wp2_with fail
              refine (in3_any O.mask 0 1048575 _).mono ?_
              rintro e u ⟨rfl, rfl⟩
              dsimp only
              clear d4
              cases q4 : inB O.mask 0 1048575 with
              | false =>
                have HR : Hid (rightO O = false) := by show _ = _; unfold rightO; simp [q4]
                clear q4
                go_wp2_with fail
                go_ret
                exact ⟨by rw [HR.out]; rfl, HB.out⟩
              | true =>
                have Q4 := hid q4
                clear q4
                by_cases q5 : s.mat.n ≤ 128
                · have hi5 : (s.mat.n : Int) ≤ 128 := by omega
                  have Q5 : Hid (decide (O.mat.length ≤ 128) = true) := by show _ = _; rw [HML.out]; simp [q5]
                  clear q5
                  have d5 := cell_of_block (j := 5) BX.out (oc5 O s)
                  have d6 := cell_of_block (j := 6) BX.out (oc6 O s)
                  go_wp2_with fail
                  refine (in3_any O.st 1 6 _).mono ?_
                  rintro e u ⟨rfl, rfl⟩
                  dsimp only
                  clear d6
                  cases q6 : inB O.st 1 6 with
                  | false =>
                    have HR : Hid (rightO O = false) := by show _ = _; unfold rightO; simp [q6]
                    clear q6
                    go_wp2_with fail
                    go_ret
                    exact ⟨by rw [HR.out]; rfl, HB.out⟩
                  | true =>
                    have Q6 := hid q6
                    clear q6
                    have d27 := cell_of_block (j := 27) BX.out (oc27 O s)
                    go_wp2_with fail
                    refine (in3_any O.reason 0 7 _).mono ?_
                    rintro e u ⟨rfl, rfl⟩
                    dsimp only
                    clear d27
                    cases q7 : inB O.reason 0 7 with
                    | false =>
                      have HR : Hid (rightO O = false) := by show _ = _; unfold rightO; simp [q7]
                      clear q7
                      go_wp2_with fail
                      go_ret
                      exact ⟨by rw [HR.out]; rfl, HB.out⟩
                    | true =>
                      have Q7 := hid q7
                      clear q7
                      have d28 := cell_of_block (j := 28) BX.out (oc28 O s)
                      by_cases hm0 : O.msg.size = 0
                      · have Q8 : Hid ((decide (O.msg.size = 0) || (!(O.reason == 0) && isT O.msg)) = true) := by show _ = _; simp [hm0]
                        have hyl := str_nil hm0
                        clear hm0
                        have d29 := cell_of_block (j := 29) BX.out (oc29 O s)
                        go_wp2_with fail
                        refine (allS_any s.names O.names 6 _ HT.out HMR.out.names).mono ?_
                        rintro e W9 ⟨rfl, hb⟩
                        dsimp only
                        clear d29
                        have HB' := hid (HB.out.trans (hb.mono (by have := HSZ.out; omega))); have HT' := hid (HT.out.below hb); have BX' := hid ((hb.block _ (block_lt BX.out)).trans BX.out); have HMR' := hid (HMR.out.below hb); have HSZ' : Hid (b + 1 ≤ W9.heap.size) := Nat.le_trans HSZ.out hb.size
                        clear hb HB HT BX HMR HSZ
                        have HB := HB'; have HT := HT'; have BX := BX'; have HMR := HMR'; have HSZ := HSZ'
                        clear HB' HT' BX' HMR' HSZ'
                        cases q9 : allO isT 6 O.names with
                        | false =>
                          have HR : Hid (rightO O = false) := by show _ = _; unfold rightO; simp [q9]
                          clear q9
                          go_wp2_with fail
                          go_ret
                          exact ⟨by rw [HR.out]; rfl, HB.out⟩
                        | true =>
                          have Q9 := hid q9
                          clear q9
                          have d30 := cell_of_block (j := 30) BX.out (oc30 O s)
                          go_wp2_with fail
                          refine (allL_any s.links O.links 8 _ HT.out HMR.out.links).mono ?_
                          rintro e W10 ⟨rfl, hb⟩
                          dsimp only
                          clear d30
                          have HB' := hid (HB.out.trans (hb.mono (by have := HSZ.out; omega))); have HT' := hid (HT.out.below hb); have BX' := hid ((hb.block _ (block_lt BX.out)).trans BX.out); have HMR' := hid (HMR.out.below hb); have HSZ' : Hid (b + 1 ≤ W10.heap.size) := Nat.le_trans HSZ.out hb.size
                          clear hb HB HT BX HMR HSZ
                          have HB := HB'; have HT := HT'; have BX := BX'; have HMR := HMR'; have HSZ := HSZ'
                          clear HB' HT' BX' HMR' HSZ'
                          cases q10 : allO linkOk 8 O.links with
                          | false =>
                            have HR : Hid (rightO O = false) := by show _ = _; unfold rightO; simp [q10]
                            clear q10
                            go_wp2_with fail
                            go_ret
                            exact ⟨by rw [HR.out]; rfl, HB.out⟩
                          | true =>
                            have Q10 := hid q10
                            clear q10
                            have d31 := cell_of_block (j := 31) BX.out (oc31 O s)
                            go_wp2_with fail
                            refine (allC_any s.custom O.custom 6 _ HT.out HMR.out.custom).mono ?_
                            rintro e W11 ⟨rfl, hb⟩
                            dsimp only
                            clear d31
                            have HB' := hid (HB.out.trans (hb.mono (by have := HSZ.out; omega))); have HT' := hid (HT.out.below hb); have BX' := hid ((hb.block _ (block_lt BX.out)).trans BX.out); have HMR' := hid (HMR.out.below hb); have HSZ' : Hid (b + 1 ≤ W11.heap.size) := Nat.le_trans HSZ.out hb.size
                            clear hb HB HT BX HMR HSZ
                            have HB := HB'; have HT := HT'; have BX := BX'; have HMR := HMR'; have HSZ := HSZ'
                            clear HB' HT' BX' HMR' HSZ'
                            cases q11 : allO custOk 6 O.custom with
                            | false =>
                              have HR : Hid (rightO O = false) := by show _ = _; unfold rightO; simp [q11]
                              clear q11
                              go_wp2_with fail
                              go_ret
                              exact ⟨by rw [HR.out]; rfl, HB.out⟩
                            | true =>
                              have Q11 := hid q11
                              clear q11
                              have d32 := cell_of_block (j := 32) BX.out (oc32 O s)
                              have d33 := cell_of_block (j := 33) BX.out (oc33 O s)
                              have d34 := cell_of_block (j := 34) BX.out (oc34 O s)
                              have d35 := cell_of_block (j := 35) BX.out (oc35 O s)
                              go_wp2_with fail
                              refine (limits_any O _).mono ?_
                              rintro e W12 ⟨rfl, hb⟩
                              dsimp only
                              have HB' := hid (HB.out.trans (hb.mono (by have := HSZ.out; omega))); have HT' := hid (HT.out.below hb); have BX' := hid ((hb.block _ (block_lt BX.out)).trans BX.out); have HMR' := hid (HMR.out.below hb); have HSZ' : Hid (b + 1 ≤ W12.heap.size) := Nat.le_trans HSZ.out hb.size
                              clear hb HB HT BX HMR HSZ
                              have HB := HB'; have HT := HT'; have BX := BX'; have HMR := HMR'; have HSZ := HSZ'
                              clear HB' HT' BX' HMR' HSZ'
                              cases q12 : limOk O with
                              | false =>
                                have HR : Hid (rightO O = false) := by show _ = _; unfold rightO; simp [q12]
                                clear q12
                                go_wp2_with fail
                                go_ret
                                exact ⟨by rw [HR.out]; rfl, HB.out⟩
                              | true =>
                                have Q12 := hid q12
                                clear q12
                                have HR : Hid (rightO O = true) := by show _ = _; unfold rightO; simp only [HQ.out, HD.out, Q1.out, Q2.out, Q3.out, Q4.out, Q5.out, Q6.out, Q7.out, Q8.out, Q9.out, Q10.out, Q11.out, Q12.out, Bool.and_true, Bool.true_and]
                                go_wp2_with fail
                                go_ret
                                exact ⟨by rw [HR.out]; rfl, HB.out⟩
                      · have hno := str_no hm0
                        by_cases hre : O.reason = 0
                        · have HR : Hid (rightO O = false) := by show _ = _; unfold rightO; simp [hm0, hre]
                          clear hm0
                          have d27 := cell_of_block (j := 27) BX.out (oc27 O s)
                          have hrn : (O.reason != 0) = false := by simp [hre]
                          go_wp2_with fail
                          go_wp2_with fail
                          go_ret
                          exact ⟨by rw [HR.out]; first | rfl | (show Ending.returned (Value.bool (O.reason != 0)) = _; rw [hrn]), HB.out⟩
                        · have hrb : (O.reason == 0) = false := by simp [hre]
                          have hrn : (O.reason != 0) = true := by simp [hre]
                          have HRE : Hid ((O.reason == 0) = false) := hrb
                          have HM8 : Hid (decide (O.msg.size = 0) = false) := by show _ = _; simp [hm0]
                          clear hm0
                          have d27 := cell_of_block (j := 27) BX.out (oc27 O s)
                          go_wp2_with fail
                          refine (isText_any O.msg _ HT.out).mono ?_
                          rintro e W8 ⟨rfl, hb⟩
                          dsimp only
                          clear d27 d28
                          have HB' := hid (HB.out.trans (hb.mono (by have := HSZ.out; omega))); have HT' := hid (HT.out.below hb); have BX' := hid ((hb.block _ (block_lt BX.out)).trans BX.out); have HMR' := hid (HMR.out.below hb); have HSZ' : Hid (b + 1 ≤ W8.heap.size) := Nat.le_trans HSZ.out hb.size
                          clear hb HB HT BX HMR HSZ
                          have HB := HB'; have HT := HT'; have BX := BX'; have HMR := HMR'; have HSZ := HSZ'
                          clear HB' HT' BX' HMR' HSZ'
                          cases q8 : isT O.msg with
                          | false =>
                            have HR : Hid (rightO O = false) := by show _ = _; unfold rightO; rw [HM8.out, HRE.out, q8]; simp
                            clear q8
                            go_wp2_with fail
                            go_ret
                            exact ⟨by rw [HR.out]; rfl, HB.out⟩
                          | true =>
                            have Q8 : Hid ((decide (O.msg.size = 0) || (!(O.reason == 0) && isT O.msg)) = true) := by show _ = _; rw [HM8.out, HRE.out, q8]; rfl
                            clear q8
                            have d29 := cell_of_block (j := 29) BX.out (oc29 O s)
                            go_wp2_with fail
                            refine (allS_any s.names O.names 6 _ HT.out HMR.out.names).mono ?_
                            rintro e W9 ⟨rfl, hb⟩
                            dsimp only
                            clear d29
                            have HB' := hid (HB.out.trans (hb.mono (by have := HSZ.out; omega))); have HT' := hid (HT.out.below hb); have BX' := hid ((hb.block _ (block_lt BX.out)).trans BX.out); have HMR' := hid (HMR.out.below hb); have HSZ' : Hid (b + 1 ≤ W9.heap.size) := Nat.le_trans HSZ.out hb.size
                            clear hb HB HT BX HMR HSZ
                            have HB := HB'; have HT := HT'; have BX := BX'; have HMR := HMR'; have HSZ := HSZ'
                            clear HB' HT' BX' HMR' HSZ'
                            cases q9 : allO isT 6 O.names with
                            | false =>
                              have HR : Hid (rightO O = false) := by show _ = _; unfold rightO; simp [q9]
                              clear q9
                              go_wp2_with fail
                              go_ret
                              exact ⟨by rw [HR.out]; rfl, HB.out⟩
                            | true =>
                              have Q9 := hid q9
                              clear q9
                              have d30 := cell_of_block (j := 30) BX.out (oc30 O s)
                              go_wp2_with fail
                              refine (allL_any s.links O.links 8 _ HT.out HMR.out.links).mono ?_
                              rintro e W10 ⟨rfl, hb⟩
                              dsimp only
                              clear d30
                              have HB' := hid (HB.out.trans (hb.mono (by have := HSZ.out; omega))); have HT' := hid (HT.out.below hb); have BX' := hid ((hb.block _ (block_lt BX.out)).trans BX.out); have HMR' := hid (HMR.out.below hb); have HSZ' : Hid (b + 1 ≤ W10.heap.size) := Nat.le_trans HSZ.out hb.size
                              clear hb HB HT BX HMR HSZ
                              have HB := HB'; have HT := HT'; have BX := BX'; have HMR := HMR'; have HSZ := HSZ'
                              clear HB' HT' BX' HMR' HSZ'
                              cases q10 : allO linkOk 8 O.links with
                              | false =>
                                have HR : Hid (rightO O = false) := by show _ = _; unfold rightO; simp [q10]
                                clear q10
                                go_wp2_with fail
                                go_ret
                                exact ⟨by rw [HR.out]; rfl, HB.out⟩
                              | true =>
                                have Q10 := hid q10
                                clear q10
                                have d31 := cell_of_block (j := 31) BX.out (oc31 O s)
                                go_wp2_with fail
                                refine (allC_any s.custom O.custom 6 _ HT.out HMR.out.custom).mono ?_
                                rintro e W11 ⟨rfl, hb⟩
                                dsimp only
                                clear d31
                                have HB' := hid (HB.out.trans (hb.mono (by have := HSZ.out; omega))); have HT' := hid (HT.out.below hb); have BX' := hid ((hb.block _ (block_lt BX.out)).trans BX.out); have HMR' := hid (HMR.out.below hb); have HSZ' : Hid (b + 1 ≤ W11.heap.size) := Nat.le_trans HSZ.out hb.size
                                clear hb HB HT BX HMR HSZ
                                have HB := HB'; have HT := HT'; have BX := BX'; have HMR := HMR'; have HSZ := HSZ'
                                clear HB' HT' BX' HMR' HSZ'
                                cases q11 : allO custOk 6 O.custom with
                                | false =>
                                  have HR : Hid (rightO O = false) := by show _ = _; unfold rightO; simp [q11]
                                  clear q11
                                  go_wp2_with fail
                                  go_ret
                                  exact ⟨by rw [HR.out]; rfl, HB.out⟩
                                | true =>
                                  have Q11 := hid q11
                                  clear q11
                                  have d32 := cell_of_block (j := 32) BX.out (oc32 O s)
                                  have d33 := cell_of_block (j := 33) BX.out (oc33 O s)
                                  have d34 := cell_of_block (j := 34) BX.out (oc34 O s)
                                  have d35 := cell_of_block (j := 35) BX.out (oc35 O s)
                                  go_wp2_with fail
                                  refine (limits_any O _).mono ?_
                                  rintro e W12 ⟨rfl, hb⟩
                                  dsimp only
                                  have HB' := hid (HB.out.trans (hb.mono (by have := HSZ.out; omega))); have HT' := hid (HT.out.below hb); have BX' := hid ((hb.block _ (block_lt BX.out)).trans BX.out); have HMR' := hid (HMR.out.below hb); have HSZ' : Hid (b + 1 ≤ W12.heap.size) := Nat.le_trans HSZ.out hb.size
                                  clear hb HB HT BX HMR HSZ
                                  have HB := HB'; have HT := HT'; have BX := BX'; have HMR := HMR'; have HSZ := HSZ'
                                  clear HB' HT' BX' HMR' HSZ'
                                  cases q12 : limOk O with
                                  | false =>
                                    have HR : Hid (rightO O = false) := by show _ = _; unfold rightO; simp [q12]
                                    clear q12
                                    go_wp2_with fail
                                    go_ret
                                    exact ⟨by rw [HR.out]; rfl, HB.out⟩
                                  | true =>
                                    have Q12 := hid q12
                                    clear q12
                                    have HR : Hid (rightO O = true) := by show _ = _; unfold rightO; simp only [HQ.out, HD.out, Q1.out, Q2.out, Q3.out, Q4.out, Q5.out, Q6.out, Q7.out, Q8.out, Q9.out, Q10.out, Q11.out, Q12.out, Bool.and_true, Bool.true_and]
                                    go_wp2_with fail
                                    go_ret
                                    exact ⟨by rw [HR.out]; rfl, HB.out⟩
                · have hi5 : (128 : Int) < (s.mat.n : Int) := by omega
                  have Q5 : decide (O.mat.length ≤ 128) = false := by rw [HML.out]; simp [q5]
                  have HR : Hid (rightO O = false) := by show _ = _; unfold rightO; simp [Q5]
                  clear q5 Q5
                  have d5 := cell_of_block (j := 5) BX.out (oc5 O s)
                  go_wp2_with fail
                  go_wp2_with fail
                  go_ret
                  exact ⟨by rw [HR.out]; rfl, HB.out⟩
end Go.Proofs.YtdlkobmlnpijgaaDoor
