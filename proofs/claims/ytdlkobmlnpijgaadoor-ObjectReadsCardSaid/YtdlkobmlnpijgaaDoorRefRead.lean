/- locksmithref10.Read: the walk. -/
import Derived.Test.YtdlkobmlnpijgaaDoorRdG
import Derived.Test.YtdlkobmlnpijgaaDoorRefLay
namespace Go.Proofs.YtdlkobmlnpijgaaDoor
open Go.RowKit
set_option linter.unusedVariables false
set_option linter.unusedSimpArgs false
set_option maxRecDepth 1000000
set_option maxHeartbeats 6400000
theorem refread_any (ab : Option Addr) (n c : Nat) (l : List UInt8) (w : World) (hb : RdB w ab n l) (hnone : ab = none → c = 0) (hnc : n ≤ c) (hat : ∀ q off sp, ab = some ⟨q, off, sp⟩ → q < w.heap.size) (hlen : n ≤ 140737488355328) (hT : UT w) :
    Calls Tryd.prog 22 #[.slice ab n c] w (ReadRes l w) := by
  have HRB := hid hb; have HT0 := hid hT
  have HLN : Hid (l.length ≤ 140737488355328) := by show _ ≤ _; rw [hb.len]; exact hlen
  have HNN := hid hnone; have HNC := hid hnc; have HAT := hid hat
  clear hb hT hnone hnc hat hlen
  obtain ⟨b, hbe⟩ : ∃ b, b = w.heap.size := ⟨_, rfl⟩
  have HBE := hid hbe
  rw [← hbe] at HAT
  clear hbe
  go_enter Tryd.func22, Tryd.ntmps22
  go_upto_region 1 with (refine wpList_alloc_obj rfl 35 rfl _ oZeroO ?_)
  go_simp
  have h1 := block_new w (.cells (objCells zObj zObjV) 35)
  have h2 : Below w.heap.size w (w.alloc (.cells (objCells zObj zObjV) 35)) := (Below.refl _ _).alloc (Nat.le_refl _) _
  have h3 : (w.alloc (.cells (objCells zObj zObjV) 35)).heap.size = w.heap.size + 1 := by simp
  rw [← HBE.out] at h1 h2 h3 ⊢
  generalize w.alloc (.cells (objCells zObj zObjV) 35) = W0 at *
  have HRS := hid h1; have HBL := hid h2; have HSZ := hid h3
  clear h1 h2 h3
  go_upto_region 2 with (fail)
  have h1 := block_new W0 (.cells #[.slice ab n c, .bool false] 107)
  have hb2 : Below W0.heap.size W0 (W0.alloc (.cells #[.slice ab n c, .bool false] 107)) := (Below.refl _ _).alloc (Nat.le_refl _) _
  have h3 : (W0.alloc (.cells #[.slice ab n c, .bool false] 107)).heap.size = b + 2 := by simp [HSZ.out]
  have HRS1 := hid ((hb2.block _ (block_lt HRS.out)).trans HRS.out)
  have HBL1 := hid (HBL.out.trans (hb2.mono (by rw [HSZ.out]; omega)))
  rw [HSZ.out] at h1 ⊢
  generalize W0.alloc (.cells #[.slice ab n c, .bool false] 107) = W1 at *
  have HRD := hid h1; have HSZ1 := hid h3
  clear h1 h3 hb2 HRS HBL HSZ
  go_upto_region 3 with (refine wpList_alloc_obj rfl 35 rfl _ oZeroO ?_)
  go_simp
  have h1 := block_new W1 (.cells (objCells zObj zObjV) 35)
  have hb2 : Below W1.heap.size W1 (W1.alloc (.cells (objCells zObj zObjV) 35)) := (Below.refl _ _).alloc (Nat.le_refl _) _
  have HRS2 := hid ((hb2.block _ (block_lt HRS1.out)).trans HRS1.out)
  have HRD2 := hid ((hb2.block _ (block_lt HRD.out)).trans HRD.out)
  have HBL2 := hid (HBL1.out.trans (hb2.mono (by rw [HSZ1.out]; omega)))
  rw [HSZ1.out] at h1 ⊢
  generalize W1.alloc (.cells (objCells zObj zObjV) 35) = W at *
  have HW0 := hid h1
  obtain ⟨p, hp⟩ : ∃ p, p = b + 1 := ⟨_, rfl⟩
  obtain ⟨ob, hob⟩ : ∃ p, p = b + 2 := ⟨_, rfl⟩
  rw [← hob] at HW0 ⊢
  rw [← hp] at HRD2 ⊢
  clear h1 hb2 HRS1 HBL1 HRD
  have S : Hid (RdQ 35 107 zObj zObjV w b p ob (p :: (ab.map (·.block)).toList) (l, false) W) := by
    have hbw := HRB.out.below (by rw [← HBE.out]; exact HBL2.out)
    refine ⟨HRS2.out, HW0.out, ⟨HLN.out, _, ⟨ab, n, c, hbw.len, HRD2.out, hbw, HNC.out, HNN.out, fun q off sp hq => ?_, rfl⟩, fun q hq => hq⟩, ObjM.zero _, (fun k hk => by simp [zObjV, ObjV.foot, Sl.blk] at hk), HBL2.out, by omega, fun k hk => ?_⟩
    · have h1 := HAT.out q off sp hq
      have h2 := block_lt HW0.out
      omega
    · rcases List.mem_cons.1 hk with h | h
      · omega
      · cases hab : ab with
        | none => rw [hab] at h; simp at h
        | some x =>
          rw [hab] at h
          simp at h
          have h1 := HAT.out x.block x.off x.spot (by rw [hab])
          omega
  clear HRS2 HW0 HRD2 HBL2 HSZ1 HAT HNN HNC hp hob
  generalize p :: (ab.map (·.block)).toList = F at *
  go_wp2_with fail
  refine (srShort_any p (l, false) F _ S.out.rd).mono ?_
  rintro e W3 ⟨a2, n2, c2, rfl, ho, hc, hr⟩
  dsimp only
  have S2 := hid (S.out.reader hc hr)
  have kc := run_bytes_str (P := Tryd.prog) (RdB.of_own ho) c2 22 9 5 Tryd.underlying22 Tryd.underlying5 Tryd.underlying9
  clear hc hr S ho
  have dj := S2.out.cell (oc0 _ _)
  have hfz := fun j => S2.out.fz j
  go_upto_region 4 with (fail)
  have S' := hid (S2.out.sId ⟨(pS (l, false)).1.toArray⟩)
  clear kc
  clear S2 dj hfz
  generalize W3.setCell ⟨ob, 0, none⟩ (.string ⟨(pS (l, false)).1.toArray⟩) = W4 at *
  have S : Hid (RdQ 35 107 ((zObj).wId (q1 (l, false)).1) zObjV w b p ob F (q1 (l, false)).2 W4) := S'
  clear S'
  go_wp2_with fail
  refine (srU8_any p (q1 (l, false)).2 F _ S.out.rd).mono ?_
  rintro e W3 ⟨rfl, hc, hr⟩
  dsimp only
  have S2 := hid (S.out.reader hc hr)
  clear hc hr S
  have dj := S2.out.cell (oc1 _ _)
  have hfz := fun j => S2.out.fz j
  go_upto_region 5 with (fail)
  have S' := hid (S2.out.sTyp (pI 1 (q1 (l, false)).2).1)
  clear S2 dj hfz
  generalize W3.setCell ⟨ob, 1, none⟩ (.int .i64 (pI 1 (q1 (l, false)).2).1) = W5 at *
  have S : Hid (RdQ 35 107 (((zObj).wId (q1 (l, false)).1).wTyp (q2 (l, false)).1) zObjV w b p ob F (q2 (l, false)).2 W5) := S'
  clear S'
  go_wp2_with fail
  refine (srU8_any p (q2 (l, false)).2 F _ S.out.rd).mono ?_
  rintro e W3 ⟨rfl, hc, hr⟩
  dsimp only
  have S2 := hid (S.out.reader hc hr)
  clear hc hr S
  have dj := S2.out.cell (oc2 _ _)
  have hfz := fun j => S2.out.fz j
  go_upto_region 6 with (fail)
  have S' := hid (S2.out.sAlg (pI 1 (q2 (l, false)).2).1)
  clear S2 dj hfz
  generalize W3.setCell ⟨ob, 2, none⟩ (.int .i64 (pI 1 (q2 (l, false)).2).1) = W6 at *
  have S : Hid (RdQ 35 107 ((((zObj).wId (q1 (l, false)).1).wTyp (q2 (l, false)).1).wAlg (q3 (l, false)).1) zObjV w b p ob F (q3 (l, false)).2 W6) := S'
  clear S'
  go_wp2_with fail
  refine (srU32_any p (q3 (l, false)).2 F _ S.out.rd).mono ?_
  rintro e W3 ⟨rfl, hc, hr⟩
  dsimp only
  have S2 := hid (S.out.reader hc hr)
  clear hc hr S
  have dj := S2.out.cell (oc3 _ _)
  have hfz := fun j => S2.out.fz j
  go_upto_region 7 with (fail)
  have S' := hid (S2.out.sLen (pI 4 (q3 (l, false)).2).1)
  clear S2 dj hfz
  generalize W3.setCell ⟨ob, 3, none⟩ (.int .i64 (pI 4 (q3 (l, false)).2).1) = W7 at *
  have S : Hid (RdQ 35 107 (((((zObj).wId (q1 (l, false)).1).wTyp (q2 (l, false)).1).wAlg (q3 (l, false)).1).wLen (q4 (l, false)).1) zObjV w b p ob F (q4 (l, false)).2 W7) := S'
  clear S'
  go_wp2_with fail
  refine (srU32_any p (q4 (l, false)).2 F _ S.out.rd).mono ?_
  rintro e W3 ⟨rfl, hc, hr⟩
  dsimp only
  have S2 := hid (S.out.reader hc hr)
  clear hc hr S
  have dj := S2.out.cell (oc4 _ _)
  have hfz := fun j => S2.out.fz j
  go_upto_region 8 with (fail)
  have S' := hid (S2.out.sMask (pI 4 (q4 (l, false)).2).1)
  clear S2 dj hfz
  generalize W3.setCell ⟨ob, 4, none⟩ (.int .i64 (pI 4 (q4 (l, false)).2).1) = W8 at *
  have S : Hid (RdQ 35 107 ((((((zObj).wId (q1 (l, false)).1).wTyp (q2 (l, false)).1).wAlg (q3 (l, false)).1).wLen (q4 (l, false)).1).wMask (q5 (l, false)).1) zObjV w b p ob F (q5 (l, false)).2 W8) := S'
  clear S'
  go_wp2_with fail
  refine (srShort_any p (q5 (l, false)).2 F _ S.out.rd).mono ?_
  rintro e W3 ⟨a2, n2, c2, rfl, ho, hc, hr⟩
  dsimp only
  have S2 := hid (S.out.reader hc hr)
  have hn2 : n2 ≤ 65535 := by have h1 := ho.1; have h2 := pS_le (q5 (l, false)).2; simp at h1; omega
  have HXM := hid (SlR.of_own (s := ⟨a2, n2, c2⟩) ho (Nat.le_trans hn2 (by decide)))
  have HFT : Hid (∀ k ∈ (Sl.mk a2 n2 c2).blk, ob < k) := fun k hk => by have h1 := blk_own (s := ⟨a2, n2, c2⟩) ho k hk; have h2 := S.out.lt; omega
  clear hn2
  clear hc hr S ho
  have dj := S2.out.cell (oc5 _ _)
  have hfz := fun j => S2.out.fz j
  go_upto_region 9 with (fail)
  have S' := hid (S2.out.sMat HXM.out HFT.out)
  clear HXM HFT
  clear S2 dj hfz
  generalize W3.setCell ⟨ob, 5, none⟩ (.slice a2 n2 c2) = W9 at *
  obtain ⟨a9, ha9⟩ : ∃ x, x = a2 := ⟨_, rfl⟩
  obtain ⟨n9, hn9⟩ : ∃ x, x = n2 := ⟨_, rfl⟩
  obtain ⟨c9, hc9⟩ : ∃ x, x = c2 := ⟨_, rfl⟩
  rw [← ha9, ← hn9, ← hc9] at S'
  clear ha9 hn9 hc9
  have S : Hid (RdQ 35 107 (((((((zObj).wId (q1 (l, false)).1).wTyp (q2 (l, false)).1).wAlg (q3 (l, false)).1).wLen (q4 (l, false)).1).wMask (q5 (l, false)).1).wMat (q6 (l, false)).1) ({ mat := ⟨a9, n9, c9⟩ } : ObjV) w b p ob F (q6 (l, false)).2 W9) := S'
  clear S'
  go_wp2_with fail
  refine (srU8_any p (q6 (l, false)).2 F _ S.out.rd).mono ?_
  rintro e W3 ⟨rfl, hc, hr⟩
  dsimp only
  have S2 := hid (S.out.reader hc hr)
  clear hc hr S
  have dj := S2.out.cell (oc6 _ _)
  have hfz := fun j => S2.out.fz j
  go_upto_region 10 with (fail)
  have S' := hid (S2.out.sSt (pI 1 (q6 (l, false)).2).1)
  clear S2 dj hfz
  generalize W3.setCell ⟨ob, 6, none⟩ (.int .i64 (pI 1 (q6 (l, false)).2).1) = W10 at *
  have S : Hid (RdQ 35 107 ((((((((zObj).wId (q1 (l, false)).1).wTyp (q2 (l, false)).1).wAlg (q3 (l, false)).1).wLen (q4 (l, false)).1).wMask (q5 (l, false)).1).wMat (q6 (l, false)).1).wSt (q7 (l, false)).1) ({ mat := ⟨a9, n9, c9⟩ } : ObjV) w b p ob F (q7 (l, false)).2 W10) := S'
  clear S'
  have S' : Hid (RdQ 35 107 (oA (l, false)) ({ mat := ⟨a9, n9, c9⟩ } : ObjV) w b p ob F (q7 (l, false)).2 W10) := by
    have h := S.out
    rw [oA_eq] at h
    exact h
  clear S
  have S := S'
  clear S'
  go_wp2_with fail
  go_loopw [6] (fun y wr => ∃ k : Nat, k ≤ 10 ∧ y = .int .i64 k ∧ RdQ 35 107 (oB true (l, false) k) ({ mat := ⟨a9, n9, c9⟩ } : ObjV) w b p ob F (rep (dateP true) k (q7 (l, false)).2).2 wr) (fun y _ => 10 - (intOf y).toNat)
  case atStart => exact ⟨0, by omega, rfl, by rw [oB_zero, rep_zero]; exact S.out⟩
  case round =>
    obtain ⟨k, hk, rfl, hs⟩ := hrel
    clear S
    have S := hid hs; clear hs
    by_cases hlt : k < 10
    · have hqi : (k : Int) < 10 := by omega
      go_wp2_with fail
      refine (srU8_any p _ F _ S.out.rd).mono ?_
      rintro e W3 ⟨rfl, hc, hr⟩
      dsimp only
      have S2 := hid (S.out.reader hc hr)
      have HST := hid (oB_step true (l, false) k hlt)
      have HRP := hid (rep_snoc (dateP true) k (q7 (l, false)).2)
      have HD0 := hid (oB_dat true (l, false) k hlt)
      clear hc hr S
      generalize (rep (dateP true) k (q7 (l, false)).2).2 = ps at *
      have HDP : Hid (dateP true ps = if (pI 1 ps).1 == 1 then ((true, (pI 8 (pI 1 ps).2).1), (pI 8 (pI 1 ps).2).2) else ((false, 0), (pI 1 ps).2)) := rfl
      generalize (pI 1 ps).1 = kk at *
      have d0 := S2.out.cell (ocH _ _ k hlt)
      have hfz := fun j => S2.out.fz j
      go_upto_region 14 with (fail)
      have S3 := hid (S2.out.sDH k hlt (kk == 1))
      clear S2 d0 hfz
      generalize W3.setCell ⟨ob, 7 + k * 2, none⟩ (.bool (kk == 1)) = W4 at *
      rw [HD0.out] at S3
      have d1 := S3.out.cell (ocH _ _ k hlt)
      have HDT := hid (dat_set (oB true (l, false) k) (oB_len true (l, false) k (by omega)) k k (kk == 1, (0 : Int)) hlt)
      rw [HDT.out, if_pos rfl] at d1
      by_cases h1 : kk = 1
      · have hk1 : (kk == 1) = true := by simp [h1]
        rw [hk1] at d1 S3 HDT HDP
        go_wp2_with fail
        refine (srU64_any p _ F _ S3.out.rd).mono ?_
        rintro e W5 ⟨rfl, hc, hr⟩
        dsimp only
        have S4 := hid (S3.out.reader hc hr)
        clear hc hr S3 d1
        have d2 := S4.out.cell (ocT _ _ k hlt)
        have hfz := fun j => S4.out.fz j
        have HAS : Hid (wrap64 ((num (taken (pI 1 ps).2.1 (pI 1 ps).2.2 8) : Nat) : Int) = (pI 8 (pI 1 ps).2).1) := asInt_eq _
        have HD1 : Hid (dateP true ps = ((true, (pI 8 (pI 1 ps).2).1), (pI 8 (pI 1 ps).2).2)) := by show _ = _; rw [HDP.out]; simp
        clear HDP
        go_upto_region 12 with (fail)
        rw [HAS.out]
        have S5 := hid (S4.out.sDT k hlt (pI 8 (pI 1 ps).2).1)
        clear S4 d2 hfz HAS
        generalize W5.setCell ⟨ob, 7 + k * 2 + 1, none⟩ (.int .i64 (pI 8 (pI 1 ps).2).1) = W6 at *
        have S6 : Hid (RdQ 35 107 (oB true (l, false) (k + 1)) ({ mat := ⟨a9, n9, c9⟩ } : ObjV) w b p ob F (rep (dateP true) (k + 1) (q7 (l, false)).2).2 W6) := by
          have h := S5.out
          rw [show (((oB true (l, false) k).setDate k (true, 0)).dat k).1 = true by rw [HDT.out]; simp, setDate_twice] at h
          have h2 := HST.out
          rw [HD1.out] at h2
          rw [h2] at h
          rw [HRP.out, HD1.out]
          exact h
        clear S5 HST HRP HD0 HDT HD1
        go_wp2_with fail
        go_roundw
        case rel =>
          first
            | exact ⟨k + 1, by omega, by go_num, S6.out⟩
            | ((repeat apply Exists.intro); exact ⟨⟨k + 1, by omega, by go_num, S6.out⟩, rfl⟩)
        case measure => simp [intOf]; omega
      · have hk1 : (kk == 1) = false := by simp [h1]
        rw [hk1] at d1 S3 HDT HDP
        have HD1 : Hid (dateP true ps = ((false, 0), (pI 1 ps).2)) := by show _ = _; rw [HDP.out]; simp
        clear HDP
        go_upto_region 12 with (fail)
        have S6 : Hid (RdQ 35 107 (oB true (l, false) (k + 1)) ({ mat := ⟨a9, n9, c9⟩ } : ObjV) w b p ob F (rep (dateP true) (k + 1) (q7 (l, false)).2).2 W4) := by
          have h := S3.out
          have h2 := HST.out
          rw [HD1.out] at h2
          rw [h2] at h
          rw [HRP.out, HD1.out]
          exact h
        clear S3 HST HRP HD0 HDT HD1 d1
        go_wp2_with fail
        go_roundw
        case rel =>
          first
            | exact ⟨k + 1, by omega, by go_num, S6.out⟩
            | ((repeat apply Exists.intro); exact ⟨⟨k + 1, by omega, by go_num, S6.out⟩, rfl⟩)
        case measure => simp [intOf]; omega
    · obtain rfl : k = 10 := by omega
      have S' : Hid (RdQ 35 107 ((oA (l, false)).wDates (q8 true (l, false)).1) ({ mat := ⟨a9, n9, c9⟩ } : ObjV) w b p ob F (q8 true (l, false)).2 wr) := by
        have h := S.out
        rw [oB_ten] at h
        exact h
      clear S
      have S := S'
      clear S'
      go_wp2_with fail
      refine (srU8_any p (q8 true (l, false)).2 F _ S.out.rd).mono ?_
      rintro e W3 ⟨rfl, hc, hr⟩
      dsimp only
      have S2 := hid (S.out.reader hc hr)
      clear hc hr S
      have dj := S2.out.cell (oc27 _ _)
      have hfz := fun j => S2.out.fz j
      go_upto_region 17 with (fail)
      have S' := hid (S2.out.sReason (pI 1 (q8 true (l, false)).2).1)
      clear S2 dj hfz
      generalize W3.setCell ⟨ob, 27, none⟩ (.int .i64 (pI 1 (q8 true (l, false)).2).1) = W17 at *
      have S : Hid (RdQ 35 107 (((oA (l, false)).wDates (q8 true (l, false)).1).wReason (q9 true (l, false)).1) ({ mat := ⟨a9, n9, c9⟩ } : ObjV) w b p ob F (q9 true (l, false)).2 W17) := S'
      clear S'
      go_wp2_with fail
      refine (srShort_any p (q9 true (l, false)).2 F _ S.out.rd).mono ?_
      rintro e W3 ⟨a2, n2, c2, rfl, ho, hc, hr⟩
      dsimp only
      have S2 := hid (S.out.reader hc hr)
      have kc := run_bytes_str (P := Tryd.prog) (RdB.of_own ho) c2 22 9 5 Tryd.underlying22 Tryd.underlying5 Tryd.underlying9
      clear hc hr S ho
      have dj := S2.out.cell (oc28 _ _)
      have hfz := fun j => S2.out.fz j
      go_upto_region 18 with (fail)
      have S' := hid (S2.out.sText ⟨(pS (q9 true (l, false)).2).1.toArray⟩)
      clear kc
      clear S2 dj hfz
      generalize W3.setCell ⟨ob, 28, none⟩ (.string ⟨(pS (q9 true (l, false)).2).1.toArray⟩) = W18 at *
      have S : Hid (RdQ 35 107 ((((oA (l, false)).wDates (q8 true (l, false)).1).wReason (q9 true (l, false)).1).wText (q10 true (l, false)).1) ({ mat := ⟨a9, n9, c9⟩ } : ObjV) w b p ob F (q10 true (l, false)).2 W18) := S'
      clear S'
      have S' : Hid (RdQ 35 107 (oC true (l, false)) ({ mat := ⟨a9, n9, c9⟩ } : ObjV) w b p ob F (q10 true (l, false)).2 W18) := by
        have h := S.out
        rw [oC_eq] at h
        exact h
      clear S
      have S := S'
      clear S'
      obtain ⟨i, hi, hz0, hz1, hz2⟩ := info_parts oInfoS
      obtain ⟨s0, hs0⟩ : ∃ s, s = ({ mat := ⟨a9, n9, c9⟩ } : ObjV) := ⟨_, rfl⟩
      have HSNS : Hid (({ s0 with names := {} } : ObjV) = s0) := by show _ = _; rw [hs0]
      have HLZ : Hid (s0.links = {}) := by show _ = _; rw [hs0]
      have HCZ : Hid (s0.custom = {}) := by show _ = _; rw [hs0]
      rw [← hs0] at S
      clear hs0
      have HZN : Hid ((oC true (l, false)).wNames [] = oC true (l, false)) := oC_names _ _
      obtain ⟨O0, hO0⟩ : ∃ O, O = oC true (l, false) := ⟨_, rfl⟩
      rw [← hO0] at S HZN
      have HO0 := hid hO0
      clear hO0
      go_wp2_with fail
      refine (srU8_any p (q10 true (l, false)).2 F _ S.out.rd).mono ?_
      rintro e W3 ⟨rfl, hc, hr⟩
      dsimp only
      have hin := pI1_in (q10 true (l, false)).2
      have HLP : Hid ((q11 true (l, false)) = many pT (pI 1 (q10 true (l, false)).2).1.toNat (pI 1 (q10 true (l, false)).2).2) := rfl
      have S2 := hid (S.out.reader hc hr)
      clear hc hr S
      have S := S2
      clear S2
      generalize (pI 1 (q10 true (l, false)).2).1 = kk at *
      generalize (pI 1 (q10 true (l, false)).2).2 = s1 at *
      obtain ⟨k0, rfl⟩ := Int.eq_ofNat_of_zero_le hin.1
      have HK0 : Hid (k0 ≤ 255) := by show _ ≤ _; omega
      clear hin
      obtain ⟨z, hz⟩ : ∃ z, z = W3.heap.size := ⟨_, rfl⟩
      have HZ0 : Hid (z ≤ W3.heap.size) := by show _ ≤ _; omega
      have HZO : Hid (ob < z) := by show _ < _; rw [hz]; exact S.out.lt
      have HZF : Hid (∀ k ∈ ({ s0 with names := {} } : ObjV).foot, k < z) := fun k hk => by
        rw [hz]
        exact S.out.m.lt k (by rw [HSNS.out] at hk; exact hk)
      clear hz
      go_upto_block 2 with (fail)
      go_cut [7] (fun _ wx => ∃ a m c, RdQ 35 107 (O0.wNames (q11 true (l, false)).1) ({ s0 with names := ⟨a, m, c⟩ } : ObjV) w b p ob F (q11 true (l, false)).2 wx)
      case first =>
        go_wp2_with fail
        go_loopw [7] (fun y wr => ∃ (k : Nat), y = .int .i64 k ∧ RunN 35 107 O0 s0 w b p ob z F k0 s1 k wr) (fun y _ => (intOf y).toNat)
        case atStart => exact ⟨k0, rfl, ⟨s1, [], none, 0, 0, by have := HK0.out; omega, HZ0.out, World.ownsRow_nil _ _ _ _, by rw [HZN.out, HSNS.out]; exact S.out, rfl⟩⟩
        case round =>
          obtain ⟨k, rfl, st, xs, a, m, c, hm, hzw, hown, hs, hmany⟩ := hrel
          clear S HK0 HZN HZ0
          have HM := hid hm; have HZW := hid hzw; have HOW := hid hown; have S := hid hs; have HMY := hid hmany
          clear hm hzw hown hs hmany
          rcases k with _ | k
          · go_wp2_with fail
            go_meet
            refine ⟨a, m, c, ?_⟩
            have e : (q11 true (l, false)) = (xs, st) := by rw [HLP.out, show ((k0 : Nat) : Int).toNat = k0 from rfl, HMY.out]; simp [many]
            rw [e]
            exact S.out
          · have hk1 : (0 : Int) < ((k : Int) + 1) := by omega
            have d1 := S.out.rd.lackc
            cases hlk : st.2 with
            | true =>
              have HLK := hid hlk
              rw [hlk] at d1
              clear hlk
              go_wp2_with fail
              go_meet
              refine ⟨a, m, c, ?_⟩
              have e : (q11 true (l, false)) = (xs, st) := by rw [HLP.out, show ((k0 : Nat) : Int).toNat = k0 from rfl, HMY.out, many_stop HLK.out]; simp
              rw [e]
              exact S.out
            | false =>
              have HLK := hid hlk
              rw [hlk] at d1
              clear hlk
              go_upto_region 21 with (fail)
              have hpb : p < wr.heap.size := by have := S.out.ord; have := S.out.lt; omega
              have NOB := hid (nin1 (show ob ≠ p by have := S.out.ord; omega))
              refine wp_region_eachX (m := 6) (Chg [p]) [.eq (.pointer (some ⟨ob, 29, none⟩)), .eq (.slice a m c), .eq (.pointer (some ⟨p, 0, none⟩)), stRow p wr.heap.size hpb 5 1 65535 ((pS st).1.map B8), .eq (.string (pT st).1), stNewR p wr.heap.size hpb 1 [.string (pT st).1]] (RdX 107 p F st [(3, (pS st).2)]) (by kernel_rfl) (by kernel_rfl) (by kernel_rfl) (by kernel_rfl) (Chg.same1) (by exact (Chg.refl _ _).drew) (by exact RdX.start S.out.rd _) ?_ ?_
              · all_goals
                  refine each_5 ?_ ?_ ?_ ?_ ?_ (each_c ?_ (each_n))
                  · intro w1 hg listed up hx Ar seen
                    have s5 := seen.sl 5 (.pointer (some ⟨ob, 0, none⟩))
                    refine doesY_plain rfl fun K Q' hK => ?_
                    go_simp; exact hK _ _ (Chg.refl _ _) (hx.same (by kernel_rfl)) rfl
                  · intro w1 hg listed up hx Ar seen
                    have e0 := seen.de 0 82
                    refine doesY_plain rfl fun K Q' hK => ?_
                    have hc := cell_of_block (j := 29) ((hg.block _ (block_lt S.out.box) NOB.out).trans S.out.box) (oc29 _ _)
                    go_simp; exact hK _ _ (Chg.refl _ _) (hx.same (by kernel_rfl)) rfl
                  · intro w1 hg listed up hx Ar seen
                    have s4 := seen.sl 4 (.pointer (some ⟨p, 0, none⟩))
                    refine doesY_plain rfl fun K Q' hK => ?_
                    go_simp; exact hK _ _ (Chg.refl _ _) (hx.same (by kernel_rfl)) rfl
                  · intro w1 hg listed up hx Ar seen
                    obtain ⟨v2, e2, h2⟩ := seen.dp 2 84
                    rcases h2 with rfl
                    refine doesY_plain rfl fun K Q' hK => ?_
                    have hs := hx.at0 rfl up.self
                    go_simp
                    refine (srShort_any p st F _ hs).mono ?_
                    rintro e u ⟨a2, n2, c2, rfl, ho, hc, hr⟩
                    exact hK _ _ hc (hx.step 0 rfl up.self (.inl rfl) (by simp) up.lt' hr) ⟨a2, n2, c2, rfl, by have h1 := ho.1; have h2 := pS_le st; simp at h1; omega, own_low ho hg.size⟩
                  · intro w1 hg listed up hx Ar seen
                    obtain ⟨v3, e3, h3⟩ := seen.dp 3 85
                    refine doesY_plain rfl fun K Q' hK => ?_
                    obtain ⟨a2, n2, c2, rfl, hn2, ho⟩ := h3; have kc := run_bytes_str (P := Tryd.prog) (RdB.of_own ho) c2 22 9 5 Tryd.underlying22 Tryd.underlying5 Tryd.underlying9
                    go_simp; exact hK _ _ (Chg.refl _ _) (hx.same (by kernel_rfl)) rfl
                  · intro w1 hg listed up hx Ar seen
                    have e4 := seen.de 4 86
                    refine doesY_plain rfl fun K Q' hK => ?_
                    refine wp_build1 29 9 _ rfl (.string (pT st).1) (by simp [Act.eval, e4]) #[.string (pT st).1] 1 i _ Tryd.underlying29 hi hz0 hz1 (by decide) (by decide) (fillS _) ?_
                    exact hK _ _ ((Chg.refl _ _).alloc _) (RdX.same (hx.world fun s hs => hs.below ((Below.refl _ _).alloc (Nat.le_refl _) _)) (by kernel_rfl)) ⟨_, rfl, hg.size, RdC.new _ _ _ _ [.string (pT st).1] rfl 1 rfl _ rfl⟩
              intro w1 hg listed hl hx
              refine upon_w' (js := [0, 1, 2, 3, 4, 5]) (by rfl) ?_
              refine upon_e (some 82) (upon_e (some 83) (upon_e (some 84) (upon_v (some 85) fun v3 h3 => upon_e (some 86) (upon_v (some 87) fun v5 h5 => upon_n ?_))))
              obtain ⟨g, rfl, hgB, hnew⟩ := h5
              have HNW := hid hnew
              have HHG := hid hg
              have HRX := hid (hx.end1 hl (by kernel_rfl) rfl)
              have hpr : ∀ q, (Value.slice a m c).ownBlock = some q → q ∉ [p] := fun q hq hm => by
                have h1 := (HOW.out.lt q hq).1
                have h2 := S.out.ord
                have h3 := HZO.out
                rw [List.mem_singleton.1 hm] at h1
                omega
              have HO2 := hid (hg.owns HOW.out hpr)
              have hms : m + 1 + k ≤ 255 := by have := HM.out; omega
              have HMS := hid hms
              have HZ2 := hid (Nat.le_trans HZW.out hg.size)
              have HRZ := hid (fun q hq => (HOW.out.lt q hq).1)
              clear h3 hg hx hl hnew hpr hpb NOB
              go_simp
              go_wp2_with (at_builtin
                           go_must (refine wpList_append_c rfl _ _ 29 rfl z 9 i _ 1 16 Tryd.underlying29 hi hz0 hz1 hz2 rfl (by decide) (.slice a m c) m _ rfl HO2.out _ 1 _ [.string (pT st).1] rfl HNW.out (strs_one [(pT st).1]) (fun hx => by cases hx) (by unfold maxLen; omega) (by omega) HZ2.out ?_)
                           intro a' c' w3 hown hgw hfr
                           have hK3 := S.out.toK' HHG.out HRX.out hgw HRZ.out HZO.out
                           have HGR := hid (S.out.growN (O := O0.wNames xs) (ys := xs ++ [(pT st).1]) HHG.out HRX.out hgw HRZ.out HZO.out HZF.out (by rw [List.map_append]; exact hown) (Nat.le_trans (show m + 1 ≤ 255 by omega) (by decide)))
                           have HZ3 := hid (Nat.le_trans HZ2.out hgw.size)
                           have dj := hK3.cell (oc29 _ _)
                           have hfz := fun j => hK3.fz j
                           clear hown hgw hfr hK3)
              clear dj hfz
              have HMY2 : Hid (many pT k0 s1 = ((xs ++ [(pT st).1]) ++ (many pT k (pT st).2).1, (many pT k (pT st).2).2)) := by
                show _ = _
                rw [HMY.out, many_go HLK.out]
                simp
              clear HMY HLK HO2 HNW HHG HRX HRZ HZ2 HOW HZW
              go_roundw
              case rel =>
                have HR : RunN 35 107 O0 s0 w b p ob z F k0 s1 k (w3.setCell ⟨ob, 29, none⟩ (.slice a' (m + 1) c')) := ⟨_, _, a', m + 1, c', by omega, by simpa using HZ3.out, HGR.out.2, HGR.out.1, HMY2.out⟩
                first
                  | exact ⟨k, by go_num, HR⟩
                  | exact ⟨k, rfl, HR⟩
                  | ((repeat apply Exists.intro); exact ⟨⟨k, by go_num, HR⟩, rfl⟩)
                  | exact HR
              case measure => (simp [intOf] <;> omega)
      case rest =>
        obtain ⟨aS, nS, cS, hs⟩ := hcut
        clear S
        have S := hid hs
        rw [HO0.out] at S
        clear hs HLP HK0 HO0 HZN HZ0 HZO HZF HSNS
        clear hi hz0 hz1 hz2
        obtain ⟨i, hi, hz0, hz1, hz2⟩ := info_parts oInfoL
        obtain ⟨sL, hs0⟩ : ∃ s, s = ({ s0 with names := ⟨aS, nS, cS⟩ } : ObjV) := ⟨_, rfl⟩
        have HSNL : Hid (({ sL with links := {} } : ObjV) = sL) := by show _ = _; rw [hs0]; show ObjV.mk s0.mat _ {} s0.custom = ObjV.mk s0.mat _ s0.links s0.custom; rw [HLZ.out]
        have HCZL : Hid (sL.custom = {}) := by show _ = _; rw [hs0]; exact HCZ.out
        rw [← hs0] at S
        clear hs0 HLZ HCZ
        have HZN : Hid (((oC true (l, false)).wNames (q11 true (l, false)).1).wLinks [] = (oC true (l, false)).wNames (q11 true (l, false)).1) := oC_links _ _ _
        obtain ⟨O0, hO0⟩ : ∃ O, O = (oC true (l, false)).wNames (q11 true (l, false)).1 := ⟨_, rfl⟩
        rw [← hO0] at S HZN
        have HO0 := hid hO0
        clear hO0
        go_wp2_with fail
        refine (srU8_any p (q11 true (l, false)).2 F _ S.out.rd).mono ?_
        rintro e W3 ⟨rfl, hc, hr⟩
        dsimp only
        have hin := pI1_in (q11 true (l, false)).2
        have HLP : Hid ((q12 true (l, false)) = many linkP (pI 1 (q11 true (l, false)).2).1.toNat (pI 1 (q11 true (l, false)).2).2) := rfl
        have S2 := hid (S.out.reader hc hr)
        clear hc hr S
        have S := S2
        clear S2
        generalize (pI 1 (q11 true (l, false)).2).1 = kk at *
        generalize (pI 1 (q11 true (l, false)).2).2 = s1 at *
        obtain ⟨k0, rfl⟩ := Int.eq_ofNat_of_zero_le hin.1
        have HK0 : Hid (k0 ≤ 255) := by show _ ≤ _; omega
        clear hin
        obtain ⟨z, hz⟩ : ∃ z, z = W3.heap.size := ⟨_, rfl⟩
        have HZ0 : Hid (z ≤ W3.heap.size) := by show _ ≤ _; omega
        have HZO : Hid (ob < z) := by show _ < _; rw [hz]; exact S.out.lt
        have HZF : Hid (∀ k ∈ ({ sL with links := {} } : ObjV).foot, k < z) := fun k hk => by
          rw [hz]
          exact S.out.m.lt k (by rw [HSNL.out] at hk; exact hk)
        clear hz
        go_upto_block 4 with (fail)
        go_cut [8] (fun _ wx => ∃ a m c, RdQ 35 107 (O0.wLinks (q12 true (l, false)).1) ({ sL with links := ⟨a, m, c⟩ } : ObjV) w b p ob F (q12 true (l, false)).2 wx)
        case first =>
          go_wp2_with fail
          go_loopw [8] (fun y wr => ∃ (k : Nat), y = .int .i64 k ∧ RunL 35 107 O0 sL w b p ob z F k0 s1 k wr) (fun y _ => (intOf y).toNat)
          case atStart => exact ⟨k0, rfl, ⟨s1, [], none, 0, 0, by have := HK0.out; omega, HZ0.out, World.ownsRow_nil _ _ _ _, by rw [HZN.out, HSNL.out]; exact S.out, rfl⟩⟩
          case round =>
            obtain ⟨k, rfl, st, xs, a, m, c, hm, hzw, hown, hs, hmany⟩ := hrel
            clear S HK0 HZN HZ0
            have HM := hid hm; have HZW := hid hzw; have HOW := hid hown; have S := hid hs; have HMY := hid hmany
            clear hm hzw hown hs hmany
            rcases k with _ | k
            · go_wp2_with fail
              go_meet
              refine ⟨a, m, c, ?_⟩
              have e : (q12 true (l, false)) = (xs, st) := by rw [HLP.out, show ((k0 : Nat) : Int).toNat = k0 from rfl, HMY.out]; simp [many]
              rw [e]
              exact S.out
            · have hk1 : (0 : Int) < ((k : Int) + 1) := by omega
              have d1 := S.out.rd.lackc
              cases hlk : st.2 with
              | true =>
                have HLK := hid hlk
                rw [hlk] at d1
                clear hlk
                go_wp2_with fail
                go_meet
                refine ⟨a, m, c, ?_⟩
                have e : (q12 true (l, false)) = (xs, st) := by rw [HLP.out, show ((k0 : Nat) : Int).toNat = k0 from rfl, HMY.out, many_stop HLK.out]; simp
                rw [e]
                exact S.out
              | false =>
                have HLK := hid hlk
                rw [hlk] at d1
                clear hlk
                go_upto_region 25 with (fail)
                go_wp2_with fail
                refine (srU8_any p st F _ S.out.rd).mono ?_
                rintro e W5 ⟨rfl, hc5, hr5⟩
                dsimp only
                have S5 := hid (S.out.reader hc5 hr5)
                have HZW5 := hid (Nat.le_trans HZW.out hc5.size)
                have HOW5 := hid (hc5.owns HOW.out (fun q hq hm => by have h1 := (HOW.out.lt q hq).1; have h2 := S.out.ord; have h3 := HZO.out; have := List.mem_singleton.1 hm; omega))
                clear hc5 hr5 S HOW HZW d1
                have S := S5
                have HOW := HOW5
                have HZW := HZW5
                clear S5 HOW5 HZW5
                go_upto_region 26 with (fail)
                have hpb : p < W5.heap.size := by have := S.out.ord; have := S.out.lt; omega
                have NOB := hid (nin1 (show ob ≠ p by have := S.out.ord; omega))
                refine wp_region_eachX (m := 8) (Chg [p]) [.eq (.pointer (some ⟨ob, 30, none⟩)), .eq (.slice a m c), .eq (.int .i64 (pI 1 st).1), .eq (.pointer (some ⟨p, 0, none⟩)), stRow p W5.heap.size hpb 5 1 65535 ((pS (pI 1 st).2).1.map B8), .eq (.string (pT (pI 1 st).2).1), .eq (.agg #[.int .i64 (pI 1 st).1, .string (pT (pI 1 st).2).1]), stNewR p W5.heap.size hpb 2 [.int .i64 (pI 1 st).1, .string (pT (pI 1 st).2).1]] (RdX 107 p F (pI 1 st).2 [(4, (pS (pI 1 st).2).2)]) (by kernel_rfl) (by kernel_rfl) (by kernel_rfl) (by kernel_rfl) (Chg.same1) (by exact (Chg.refl _ _).drew) (by exact RdX.start S.out.rd _) ?_ ?_
                · all_goals
                    refine each_5 ?_ ?_ ?_ ?_ ?_ (each_c ?_ (each_c ?_ (each_c ?_ (each_n))))
                    · intro w1 hg listed up hx Ar seen
                      have s5 := seen.sl 5 (.pointer (some ⟨ob, 0, none⟩))
                      refine doesY_plain rfl fun K Q' hK => ?_
                      go_simp; exact hK _ _ (Chg.refl _ _) (hx.same (by kernel_rfl)) rfl
                    · intro w1 hg listed up hx Ar seen
                      have e0 := seen.de 0 105
                      refine doesY_plain rfl fun K Q' hK => ?_
                      have hc := cell_of_block (j := 30) ((hg.block _ (block_lt S.out.box) NOB.out).trans S.out.box) (oc30 _ _)
                      go_simp; exact hK _ _ (Chg.refl _ _) (hx.same (by kernel_rfl)) rfl
                    · intro w1 hg listed up hx Ar seen
                      have s9 := seen.sl 9 (.int .i64 (pI 1 st).1)
                      refine doesY_plain rfl fun K Q' hK => ?_
                      go_simp; exact hK _ _ (Chg.refl _ _) (hx.same (by kernel_rfl)) rfl
                    · intro w1 hg listed up hx Ar seen
                      have s4 := seen.sl 4 (.pointer (some ⟨p, 0, none⟩))
                      refine doesY_plain rfl fun K Q' hK => ?_
                      go_simp; exact hK _ _ (Chg.refl _ _) (hx.same (by kernel_rfl)) rfl
                    · intro w1 hg listed up hx Ar seen
                      have e3 := seen.de 3 108
                      refine doesY_plain rfl fun K Q' hK => ?_
                      have hs := hx.at0 rfl up.self
                      go_simp
                      refine (srShort_any p (pI 1 st).2 F _ hs).mono ?_
                      rintro e u ⟨a2, n2, c2, rfl, ho, hc, hr⟩
                      exact hK _ _ hc (hx.step 0 rfl up.self (.inl rfl) (by simp) up.lt' hr) ⟨a2, n2, c2, rfl, by have h1 := ho.1; have h2 := pS_le (pI 1 st).2; simp at h1; omega, own_low ho hg.size⟩
                    · intro w1 hg listed up hx Ar seen
                      obtain ⟨v4, e4, h4⟩ := seen.dp 4 109
                      refine doesY_plain rfl fun K Q' hK => ?_
                      obtain ⟨a2, n2, c2, rfl, hn2, ho⟩ := h4; have kc := run_bytes_str (P := Tryd.prog) (RdB.of_own ho) c2 22 9 5 Tryd.underlying22 Tryd.underlying5 Tryd.underlying9
                      go_simp; exact hK _ _ (Chg.refl _ _) (hx.same (by kernel_rfl)) rfl
                    · intro w1 hg listed up hx Ar seen
                      have e2 := seen.de 2 107
                      have e5 := seen.de 5 110
                      refine doesY_plain rfl fun K Q' hK => ?_
                      go_simp; exact hK _ _ (Chg.refl _ _) (hx.same (by kernel_rfl)) rfl
                    · intro w1 hg listed up hx Ar seen
                      have e6 := seen.de 6 111
                      refine doesY_plain rfl fun K Q' hK => ?_
                      refine wp_build1 30 56 _ rfl (.agg #[.int .i64 (pI 1 st).1, .string (pT (pI 1 st).2).1]) (by simp [Act.eval, e6]) #[.int .i64 (pI 1 st).1, .string (pT (pI 1 st).2).1] 2 i _ Tryd.underlying30 hi hz0 hz1 (by decide) (by decide) (fillL _ _) ?_
                      exact hK _ _ ((Chg.refl _ _).alloc _) (RdX.same (hx.world fun s hs => hs.below ((Below.refl _ _).alloc (Nat.le_refl _) _)) (by kernel_rfl)) ⟨_, rfl, hg.size, RdC.new _ _ _ _ [.int .i64 (pI 1 st).1, .string (pT (pI 1 st).2).1] rfl 2 rfl _ rfl⟩
                intro w1 hg listed hl hx
                refine upon_w' (js := [0, 1, 2, 3, 4, 5, 6, 7]) (by rfl) ?_
                refine upon_e (some 105) (upon_e (some 106) (upon_e (some 107) (upon_e (some 108) (upon_v (some 109) fun v4 h4 => upon_e (some 110) (upon_e (some 111) (upon_v (some 112) fun v7 h7 => upon_n ?_))))))
                obtain ⟨g, rfl, hgB, hnew⟩ := h7
                have HNW := hid hnew
                have HHG := hid hg
                have HRX := hid (hx.end1 hl (by kernel_rfl) rfl)
                have hpr : ∀ q, (Value.slice a m c).ownBlock = some q → q ∉ [p] := fun q hq hm => by
                  have h1 := (HOW.out.lt q hq).1
                  have h2 := S.out.ord
                  have h3 := HZO.out
                  rw [List.mem_singleton.1 hm] at h1
                  omega
                have HO2 := hid (hg.owns HOW.out hpr)
                have hms : m + 1 + k ≤ 255 := by have := HM.out; omega
                have HMS := hid hms
                have HZ2 := hid (Nat.le_trans HZW.out hg.size)
                have HRZ := hid (fun q hq => (HOW.out.lt q hq).1)
                clear h4 hg hx hl hnew hpr hpb NOB
                go_simp
                go_wp2_with (at_builtin
                             go_must (refine wpList_append_c rfl _ _ 30 rfl z 56 i _ 2 24 Tryd.underlying30 hi hz0 hz1 hz2 rfl (by decide) (.slice a m c) m _ rfl HO2.out _ 1 _ [.int .i64 (pI 1 st).1, .string (pT (pI 1 st).2).1] rfl HNW.out (link_one [(linkP st).1]) (fun hx => by cases hx) (by unfold maxLen; omega) (by omega) HZ2.out ?_)
                             intro a' c' w3 hown hgw hfr
                             have hK3 := S.out.toK' HHG.out HRX.out hgw HRZ.out HZO.out
                             have HGR := hid (S.out.growL (O := O0.wLinks xs) (ys := xs ++ [(linkP st).1]) HHG.out HRX.out hgw HRZ.out HZO.out HZF.out (by unfold linkCells; rw [List.flatMap_append]; exact hown) (Nat.le_trans (show m + 1 ≤ 255 by omega) (by decide)))
                             have HZ3 := hid (Nat.le_trans HZ2.out hgw.size)
                             have dj := hK3.cell (oc30 _ _)
                             have hfz := fun j => hK3.fz j
                             clear hown hgw hfr hK3)
                clear dj hfz
                have HMY2 : Hid (many linkP k0 s1 = ((xs ++ [(linkP st).1]) ++ (many linkP k (linkP st).2).1, (many linkP k (linkP st).2).2)) := by
                  show _ = _
                  rw [HMY.out, many_go HLK.out]
                  simp
                clear HMY HLK HO2 HNW HHG HRX HRZ HZ2 HOW HZW
                go_roundw
                case rel =>
                  have HR : RunL 35 107 O0 sL w b p ob z F k0 s1 k (w3.setCell ⟨ob, 30, none⟩ (.slice a' (m + 1) c')) := ⟨_, _, a', m + 1, c', by omega, by simpa using HZ3.out, HGR.out.2, HGR.out.1, HMY2.out⟩
                  first
                    | exact ⟨k, by go_num, HR⟩
                    | exact ⟨k, rfl, HR⟩
                    | ((repeat apply Exists.intro); exact ⟨⟨k, by go_num, HR⟩, rfl⟩)
                    | exact HR
                case measure => (simp [intOf] <;> omega)
        case rest =>
          obtain ⟨aL, nL, cL, hs⟩ := hcut
          clear S
          have S := hid hs
          rw [HO0.out] at S
          clear hs HLP HK0 HO0 HZN HZ0 HZO HZF HSNL
          clear hi hz0 hz1 hz2
          obtain ⟨i, hi, hz0, hz1, hz2⟩ := info_parts oInfoC
          obtain ⟨sC, hs0⟩ : ∃ s, s = ({ sL with links := ⟨aL, nL, cL⟩ } : ObjV) := ⟨_, rfl⟩
          have HSNC : Hid (({ sC with custom := {} } : ObjV) = sC) := by show _ = _; rw [hs0]; show ObjV.mk sL.mat sL.names _ {} = ObjV.mk sL.mat sL.names _ sL.custom; rw [HCZL.out]
          rw [← hs0] at S
          clear hs0 HCZL
          have HZN : Hid ((((oC true (l, false)).wNames (q11 true (l, false)).1).wLinks (q12 true (l, false)).1).wCustom [] = ((oC true (l, false)).wNames (q11 true (l, false)).1).wLinks (q12 true (l, false)).1) := oC_custom _ _ _ _
          obtain ⟨O0, hO0⟩ : ∃ O, O = ((oC true (l, false)).wNames (q11 true (l, false)).1).wLinks (q12 true (l, false)).1 := ⟨_, rfl⟩
          rw [← hO0] at S HZN
          have HO0 := hid hO0
          clear hO0
          go_wp2_with fail
          refine (srU8_any p (q12 true (l, false)).2 F _ S.out.rd).mono ?_
          rintro e W3 ⟨rfl, hc, hr⟩
          dsimp only
          have hin := pI1_in (q12 true (l, false)).2
          have HLP : Hid ((q13 true (l, false)) = many custP (pI 1 (q12 true (l, false)).2).1.toNat (pI 1 (q12 true (l, false)).2).2) := rfl
          have S2 := hid (S.out.reader hc hr)
          clear hc hr S
          have S := S2
          clear S2
          generalize (pI 1 (q12 true (l, false)).2).1 = kk at *
          generalize (pI 1 (q12 true (l, false)).2).2 = s1 at *
          obtain ⟨k0, rfl⟩ := Int.eq_ofNat_of_zero_le hin.1
          have HK0 : Hid (k0 ≤ 255) := by show _ ≤ _; omega
          clear hin
          obtain ⟨z, hz⟩ : ∃ z, z = W3.heap.size := ⟨_, rfl⟩
          have HZ0 : Hid (z ≤ W3.heap.size) := by show _ ≤ _; omega
          have HZO : Hid (ob < z) := by show _ < _; rw [hz]; exact S.out.lt
          have HZF : Hid (∀ k ∈ ({ sC with custom := {} } : ObjV).foot, k < z) := fun k hk => by
            rw [hz]
            exact S.out.m.lt k (by rw [HSNC.out] at hk; exact hk)
          clear hz
          go_upto_block 6 with (fail)
          go_cut [10] (fun _ wx => ∃ a m c, RdQ 35 107 (O0.wCustom (q13 true (l, false)).1) ({ sC with custom := ⟨a, m, c⟩ } : ObjV) w b p ob F (q13 true (l, false)).2 wx)
          case first =>
            go_wp2_with fail
            go_loopw [10] (fun y wr => ∃ (k : Nat), y = .int .i64 k ∧ RunC 35 107 O0 sC w b p ob z F k0 s1 k wr) (fun y _ => (intOf y).toNat)
            case atStart => exact ⟨k0, rfl, ⟨s1, [], none, 0, 0, by have := HK0.out; omega, HZ0.out, World.ownsRow_nil _ _ _ _, by rw [HZN.out, HSNC.out]; exact S.out, rfl⟩⟩
            case round =>
              obtain ⟨k, rfl, st, xs, a, m, c, hm, hzw, hown, hs, hmany⟩ := hrel
              clear S HK0 HZN HZ0
              have HM := hid hm; have HZW := hid hzw; have HOW := hid hown; have S := hid hs; have HMY := hid hmany
              clear hm hzw hown hs hmany
              rcases k with _ | k
              · go_wp2_with fail
                go_meet
                refine ⟨a, m, c, ?_⟩
                have e : (q13 true (l, false)) = (xs, st) := by rw [HLP.out, show ((k0 : Nat) : Int).toNat = k0 from rfl, HMY.out]; simp [many]
                rw [e]
                exact S.out
              · have hk1 : (0 : Int) < ((k : Int) + 1) := by omega
                have d1 := S.out.rd.lackc
                cases hlk : st.2 with
                | true =>
                  have HLK := hid hlk
                  rw [hlk] at d1
                  clear hlk
                  go_wp2_with fail
                  go_meet
                  refine ⟨a, m, c, ?_⟩
                  have e : (q13 true (l, false)) = (xs, st) := by rw [HLP.out, show ((k0 : Nat) : Int).toNat = k0 from rfl, HMY.out, many_stop HLK.out]; simp
                  rw [e]
                  exact S.out
                | false =>
                  have HLK := hid hlk
                  rw [hlk] at d1
                  clear hlk
                  go_upto_region 30 with (fail)
                  go_wp2_with fail
                  refine (srShort_any p st F _ S.out.rd).mono ?_
                  rintro e W5 ⟨a2, n2, c2, rfl, ho, hc5, hr5⟩
                  dsimp only
                  have S5 := hid (S.out.reader hc5 hr5)
                  have HZW5 := hid (Nat.le_trans HZW.out hc5.size)
                  have HOW5 := hid (hc5.owns HOW.out (fun q hq hm => by have h1 := (HOW.out.lt q hq).1; have h2 := S.out.ord; have h3 := HZO.out; have := List.mem_singleton.1 hm; omega))
                  have kc := run_bytes_str (P := Tryd.prog) (RdB.of_own ho) c2 22 9 5 Tryd.underlying22 Tryd.underlying5 Tryd.underlying9
                  clear hc5 hr5 S HOW HZW d1 ho
                  have S := S5
                  have HOW := HOW5
                  have HZW := HZW5
                  clear S5 HOW5 HZW5
                  go_upto_region 31 with (fail)
                  clear kc
                  have hpb : p < W5.heap.size := by have := S.out.ord; have := S.out.lt; omega
                  have NOB := hid (nin1 (show ob ≠ p by have := S.out.ord; omega))
                  refine wp_region_eachX (m := 8) (Chg [p]) [.eq (.pointer (some ⟨ob, 31, none⟩)), .eq (.slice a m c), .eq (.string (pT st).1), .eq (.pointer (some ⟨p, 0, none⟩)), stRow p W5.heap.size hpb 5 1 65535 ((pS (pT st).2).1.map B8), .eq (.string (pT (pT st).2).1), .eq (.agg #[.string (pT st).1, .string (pT (pT st).2).1]), stNewR p W5.heap.size hpb 2 [.string (pT st).1, .string (pT (pT st).2).1]] (RdX 107 p F (pT st).2 [(4, (pS (pT st).2).2)]) (by kernel_rfl) (by kernel_rfl) (by kernel_rfl) (by kernel_rfl) (Chg.same1) (by exact (Chg.refl _ _).drew) (by exact RdX.start S.out.rd _) ?_ ?_
                  · all_goals
                      refine each_5 ?_ ?_ ?_ ?_ ?_ (each_c ?_ (each_c ?_ (each_c ?_ (each_n))))
                      · intro w1 hg listed up hx Ar seen
                        have s5 := seen.sl 5 (.pointer (some ⟨ob, 0, none⟩))
                        refine doesY_plain rfl fun K Q' hK => ?_
                        go_simp; exact hK _ _ (Chg.refl _ _) (hx.same (by kernel_rfl)) rfl
                      · intro w1 hg listed up hx Ar seen
                        have e0 := seen.de 0 131
                        refine doesY_plain rfl fun K Q' hK => ?_
                        have hc := cell_of_block (j := 31) ((hg.block _ (block_lt S.out.box) NOB.out).trans S.out.box) (oc31 _ _)
                        go_simp; exact hK _ _ (Chg.refl _ _) (hx.same (by kernel_rfl)) rfl
                      · intro w1 hg listed up hx Ar seen
                        have s11 := seen.sl 11 (.string (pT st).1)
                        refine doesY_plain rfl fun K Q' hK => ?_
                        go_simp; exact hK _ _ (Chg.refl _ _) (hx.same (by kernel_rfl)) rfl
                      · intro w1 hg listed up hx Ar seen
                        have s4 := seen.sl 4 (.pointer (some ⟨p, 0, none⟩))
                        refine doesY_plain rfl fun K Q' hK => ?_
                        go_simp; exact hK _ _ (Chg.refl _ _) (hx.same (by kernel_rfl)) rfl
                      · intro w1 hg listed up hx Ar seen
                        have e3 := seen.de 3 134
                        refine doesY_plain rfl fun K Q' hK => ?_
                        have hs := hx.at0 rfl up.self
                        go_simp
                        refine (srShort_any p (pT st).2 F _ hs).mono ?_
                        rintro e u ⟨a2, n2, c2, rfl, ho, hc, hr⟩
                        exact hK _ _ hc (hx.step 0 rfl up.self (.inl rfl) (by simp) up.lt' hr) ⟨a2, n2, c2, rfl, by have h1 := ho.1; have h2 := pS_le (pT st).2; simp at h1; omega, own_low ho hg.size⟩
                      · intro w1 hg listed up hx Ar seen
                        obtain ⟨v4, e4, h4⟩ := seen.dp 4 135
                        refine doesY_plain rfl fun K Q' hK => ?_
                        obtain ⟨a2, n2, c2, rfl, hn2, ho⟩ := h4; have kc := run_bytes_str (P := Tryd.prog) (RdB.of_own ho) c2 22 9 5 Tryd.underlying22 Tryd.underlying5 Tryd.underlying9
                        go_simp; exact hK _ _ (Chg.refl _ _) (hx.same (by kernel_rfl)) rfl
                      · intro w1 hg listed up hx Ar seen
                        have e2 := seen.de 2 133
                        have e5 := seen.de 5 136
                        refine doesY_plain rfl fun K Q' hK => ?_
                        go_simp; exact hK _ _ (Chg.refl _ _) (hx.same (by kernel_rfl)) rfl
                      · intro w1 hg listed up hx Ar seen
                        have e6 := seen.de 6 137
                        refine doesY_plain rfl fun K Q' hK => ?_
                        refine wp_build1 31 58 _ rfl (.agg #[.string (pT st).1, .string (pT (pT st).2).1]) (by simp [Act.eval, e6]) #[.string (pT st).1, .string (pT (pT st).2).1] 2 i _ Tryd.underlying31 hi hz0 hz1 (by decide) (by decide) (fillC _ _) ?_
                        exact hK _ _ ((Chg.refl _ _).alloc _) (RdX.same (hx.world fun s hs => hs.below ((Below.refl _ _).alloc (Nat.le_refl _) _)) (by kernel_rfl)) ⟨_, rfl, hg.size, RdC.new _ _ _ _ [.string (pT st).1, .string (pT (pT st).2).1] rfl 2 rfl _ rfl⟩
                  intro w1 hg listed hl hx
                  refine upon_w' (js := [0, 1, 2, 3, 4, 5, 6, 7]) (by rfl) ?_
                  refine upon_e (some 131) (upon_e (some 132) (upon_e (some 133) (upon_e (some 134) (upon_v (some 135) fun v4 h4 => upon_e (some 136) (upon_e (some 137) (upon_v (some 138) fun v7 h7 => upon_n ?_))))))
                  obtain ⟨g, rfl, hgB, hnew⟩ := h7
                  have HNW := hid hnew
                  have HHG := hid hg
                  have HRX := hid (hx.end1 hl (by kernel_rfl) rfl)
                  have hpr : ∀ q, (Value.slice a m c).ownBlock = some q → q ∉ [p] := fun q hq hm => by
                    have h1 := (HOW.out.lt q hq).1
                    have h2 := S.out.ord
                    have h3 := HZO.out
                    rw [List.mem_singleton.1 hm] at h1
                    omega
                  have HO2 := hid (hg.owns HOW.out hpr)
                  have hms : m + 1 + k ≤ 255 := by have := HM.out; omega
                  have HMS := hid hms
                  have HZ2 := hid (Nat.le_trans HZW.out hg.size)
                  have HRZ := hid (fun q hq => (HOW.out.lt q hq).1)
                  clear h4 hg hx hl hnew hpr hpb NOB
                  go_simp
                  go_wp2_with (at_builtin
                               go_must (refine wpList_append_c rfl _ _ 31 rfl z 58 i _ 2 32 Tryd.underlying31 hi hz0 hz1 hz2 rfl (by decide) (.slice a m c) m _ rfl HO2.out _ 1 _ [.string (pT st).1, .string (pT (pT st).2).1] rfl HNW.out (cust_one [(custP st).1]) (fun hx => by cases hx) (by unfold maxLen; omega) (by omega) HZ2.out ?_)
                               intro a' c' w3 hown hgw hfr
                               have hK3 := S.out.toK' HHG.out HRX.out hgw HRZ.out HZO.out
                               have HGR := hid (S.out.growC (O := O0.wCustom xs) (ys := xs ++ [(custP st).1]) HHG.out HRX.out hgw HRZ.out HZO.out HZF.out (by unfold custCells; rw [List.flatMap_append]; exact hown) (Nat.le_trans (show m + 1 ≤ 255 by omega) (by decide)))
                               have HZ3 := hid (Nat.le_trans HZ2.out hgw.size)
                               have dj := hK3.cell (oc31 _ _)
                               have hfz := fun j => hK3.fz j
                               clear hown hgw hfr hK3)
                  clear dj hfz
                  have HMY2 : Hid (many custP k0 s1 = ((xs ++ [(custP st).1]) ++ (many custP k (custP st).2).1, (many custP k (custP st).2).2)) := by
                    show _ = _
                    rw [HMY.out, many_go HLK.out]
                    simp
                  clear HMY HLK HO2 HNW HHG HRX HRZ HZ2 HOW HZW
                  go_roundw
                  case rel =>
                    have HR : RunC 35 107 O0 sC w b p ob z F k0 s1 k (w3.setCell ⟨ob, 31, none⟩ (.slice a' (m + 1) c')) := ⟨_, _, a', m + 1, c', by omega, by simpa using HZ3.out, HGR.out.2, HGR.out.1, HMY2.out⟩
                    first
                      | exact ⟨k, by go_num, HR⟩
                      | exact ⟨k, rfl, HR⟩
                      | ((repeat apply Exists.intro); exact ⟨⟨k, by go_num, HR⟩, rfl⟩)
                      | exact HR
                  case measure => (simp [intOf] <;> omega)
          case rest =>
            obtain ⟨aC, nC, cC, hs⟩ := hcut
            clear S
            have S := hid hs
            rw [HO0.out] at S
            clear hs HLP HK0 HO0 HZN HZ0 HZO HZF HSNC
            clear hi hz0 hz1 hz2
            obtain ⟨sx, hs0⟩ : ∃ s, s = ({ sC with custom := ⟨aC, nC, cC⟩ } : ObjV) := ⟨_, rfl⟩
            rw [← hs0] at S
            clear hs0
            have S' := S.out
            rw [oD_eq] at S'
            clear S
            have S := hid S'
            clear S'
            have HL0 : Hid ((oD true (l, false)).wLH false = (oD true (l, false)).wLim {}) := oD_lim0 _ _
            have HQ14 : Hid ((q14 true (l, false)) = limP true (q13 true (l, false)).2) := rfl
            have HOE : Hid (oE true (l, false) = (oD true (l, false)).wLim (q14 true (l, false)).1) := rfl
            obtain ⟨O0, hO0⟩ : ∃ O, O = oD true (l, false) := ⟨_, rfl⟩
            rw [← hO0] at S HL0 HOE
            have HO0 := hid hO0
            clear hO0
            go_wp2_with fail
            refine (srU8_any p (q13 true (l, false)).2 F _ S.out.rd).mono ?_
            rintro e W3 ⟨rfl, hc, hr⟩
            dsimp only
            have S2 := hid (S.out.reader hc hr)
            have HQL : Hid (limP true (q13 true (l, false)).2 = if (pI 1 (q13 true (l, false)).2).1 == 1 then (⟨true, (pI 8 (pI 1 (q13 true (l, false)).2).2).1, (pI 8 (pI 8 (pI 1 (q13 true (l, false)).2).2).2).1, (pI 1 (pI 8 (pI 8 (pI 1 (q13 true (l, false)).2).2).2).2).1⟩, (pI 1 (pI 8 (pI 8 (pI 1 (q13 true (l, false)).2).2).2).2).2) else ({}, (pI 1 (q13 true (l, false)).2).2)) := rfl
            rw [HQL.out] at HQ14
            clear hc hr S HQL
            generalize (pI 1 (q13 true (l, false)).2).1 = kk at *
            generalize (pI 1 (q13 true (l, false)).2).2 = s1 at *
            have dj := S2.out.cell (oc32 _ _)
            have hfz := fun j => S2.out.fz j
            go_upto_region 33 with (fail)
            have S := hid (S2.out.sLH (kk == 1))
            clear S2 dj hfz
            generalize W3.setCell ⟨ob, 32, none⟩ (.bool (kk == 1)) = W4 at *
            have d32 := S.out.cell (oc32 _ _)
            rw [show (O0.wLH (kk == 1)).limHas = (kk == 1) from rfl] at d32
            generalize (kk == 1) = q at *
            go_upto_if 148 with (fail)
            go_cut [148] (fun _ wx => RdQ 35 107 (oE true (l, false)) sx w b p ob F (q14 true (l, false)).2 wx)
            case first =>
              cases q with
              | true =>
                have HQ2 := hid (HQ14.out.trans (if_pos rfl))
                clear HQ14
                go_wp2_with fail
                refine (srU64_any p s1 F _ S.out.rd).mono ?_
                rintro e W5 ⟨rfl, hc, hr⟩
                dsimp only
                have S4 := hid (S.out.reader hc hr)
                clear hc hr S d32
                have dj := S4.out.cell (oc33 _ _)
                have hfz := fun j => S4.out.fz j
                have HAS : Hid (wrap64 ((num (taken s1.1 s1.2 8) : Nat) : Int) = (pI 8 s1).1) := asInt_eq _
                go_upto_region 35 with (fail)
                rw [HAS.out]
                have S5 := hid (S4.out.sLT (pI 8 s1).1)
                clear S4 dj hfz HAS
                generalize W5.setCell ⟨ob, 33, none⟩ (.int .i64 (pI 8 s1).1) = W6 at *
                generalize (pI 8 s1).1 = v1 at *
                generalize (pI 8 s1).2 = s2 at *
                go_wp2_with fail
                refine (srU64_any p s2 F _ S5.out.rd).mono ?_
                rintro e W7 ⟨rfl, hc, hr⟩
                dsimp only
                have S6 := hid (S5.out.reader hc hr)
                clear hc hr S5
                have dj := S6.out.cell (oc34 _ _)
                have hfz := fun j => S6.out.fz j
                have HAS : Hid (wrap64 ((num (taken s2.1 s2.2 8) : Nat) : Int) = (pI 8 s2).1) := asInt_eq _
                go_upto_region 36 with (fail)
                rw [HAS.out]
                have S7 := hid (S6.out.sLC (pI 8 s2).1)
                clear S6 dj hfz HAS
                generalize W7.setCell ⟨ob, 34, none⟩ (.int .i64 (pI 8 s2).1) = W8 at *
                generalize (pI 8 s2).1 = v2 at *
                generalize (pI 8 s2).2 = s3 at *
                go_wp2_with fail
                refine (srU8_any p s3 F _ S7.out.rd).mono ?_
                rintro e W9 ⟨rfl, hc, hr⟩
                dsimp only
                have S8 := hid (S7.out.reader hc hr)
                clear hc hr S7
                have dj := S8.out.cell (oc35 _ _)
                have hfz := fun j => S8.out.fz j
                have S9 := hid (S8.out.sLU (pI 1 s3).1)
                go_wp2_with fail
                go_meet
                have h := S9.out
                rw [wl4] at h
                rw [HOE.out, HQ2.out]
                exact h
              | false =>
                have HQ2 := hid (HQ14.out.trans (if_neg (by simp)))
                clear HQ14
                go_wp2_with fail
                go_meet
                have h := S.out
                rw [HL0.out] at h
                rw [HOE.out, HQ2.out]
                exact h
            case rest =>
              have S' := hid hcut
              clear S d32 HQ14 HOE HL0 HO0 hcut
              have S := S'
              clear S'
              go_wp2_with fail
              refine (srU8_any p (q14 true (l, false)).2 F _ S.out.rd).mono ?_
              rintro e W3 ⟨rfl, hc, hr⟩
              dsimp only
              have S2 := hid (S.out.reader hc hr)
              clear hc hr S
              have dj := S2.out.cell (oc36 _ _)
              have hfz := fun j => S2.out.fz j
              go_upto_region 38 with (fail)
              have S' := hid (S2.out.sArch ((pI 1 (q14 true (l, false)).2).1 == 1))
              clear S2 dj hfz
              generalize W3.setCell ⟨ob, 36, none⟩ (.bool ((pI 1 (q14 true (l, false)).2).1 == 1)) = w11 at *
              have S : Hid (RdQ 35 107 (oF true (l, false)) sx w b p ob F (q15 true (l, false)).2 w11) := S'
              clear S'
              obtain ⟨OF, hOF⟩ : ∃ O, O = oF true (l, false) := ⟨_, rfl⟩
              obtain ⟨PSF, hPS⟩ : ∃ x, x = (q15 true (l, false)).2 := ⟨_, rfl⟩
              rw [← hOF, ← hPS] at S
              have HOF := hid hOF; have HPS := hid hPS
              clear hOF hPS
              have HT := hid (HT0.out.below (by rw [← HBE.out]; exact S.out.bel))
              go_wp2_with (refine wpList_load_row rfl 35 _ rfl ob rfl _ _ _ _ S.out.box Tryd.underlying35 rfl (by rw [objCells_size]; exact oSizeO) ?_)
              refine (rlay_any _ sx w11 S.out.m HT.out).mono ?_
              rintro e w12 ⟨hb12, hcase⟩
              have S2 := hid (S.out.below hb12)
              have HRB2 := hid (HRB.out.below (by rw [← HBE.out]; exact S2.out.bel))
              have HLAY := hid hcase
              clear hb12 hcase S HT
              have d1 := S2.out.rd.lackc
              rcases HLAY.out with ⟨hr, rfl⟩ | ⟨hr, a5, n5, c5, rfl, ho5⟩
              · have HR := hid hr
                clear hr HLAY
                dsimp only
                cases hlk : PSF.2 with
                | true =>
                  rw [hlk] at d1
                  clear hlk
                  have HNO := hid (read_not (ref := true) (by rw [← HOF.out]; exact HR.out))
                  go_wp2_with (first | (refine wpList_build_obj rfl 35 _ rfl #[] (by simp [Act.eval]) _ (buildZO _) ?_) | (refine wpList_store_obj rfl 35 _ _ rfl b rfl _ rfl _ _ S2.out.res rfl (by rw [objCells_size]; exact oSizeO) (oc_one _ _) ?_; intro w6 hb6 hc6 hs6; have HB6 := hid hb6; have HC6 := hid hc6; clear hb6 hc6 hs6))
                  refine bodyPost_ret (results_obj_tmp0 rfl _ _ b _ _ _ _ rfl HB6.out Tryd.underlying35 rfl (by rw [objCells_size]; exact oSizeO) _ rfl) rfl ?_
                  exact ⟨by rw [← HBE.out]; exact S2.out.bel.trans (HC6.out.below (fun k hk => by rw [List.mem_singleton.1 hk]; exact Nat.le_refl _) (Nat.le_of_lt (block_lt S2.out.res))), zObj, zObjV, ObjM.zero _, (fun k hk => by simp [zObjV, ObjV.foot, Sl.blk] at hk), .inr ⟨HNO.out, rfl, rfl, rfl⟩⟩
                | false =>
                  rw [hlk] at d1
                  clear hlk
                  have HNO := hid (read_not (ref := true) (by rw [← HOF.out]; exact HR.out))
                  go_wp2_with (first | (refine wpList_build_obj rfl 35 _ rfl #[] (by simp [Act.eval]) _ (buildZO _) ?_) | (refine wpList_store_obj rfl 35 _ _ rfl b rfl _ rfl _ _ S2.out.res rfl (by rw [objCells_size]; exact oSizeO) (oc_one _ _) ?_; intro w6 hb6 hc6 hs6; have HB6 := hid hb6; have HC6 := hid hc6; clear hb6 hc6 hs6))
                  refine bodyPost_ret (results_obj_tmp0 rfl _ _ b _ _ _ _ rfl HB6.out Tryd.underlying35 rfl (by rw [objCells_size]; exact oSizeO) _ rfl) rfl ?_
                  exact ⟨by rw [← HBE.out]; exact S2.out.bel.trans (HC6.out.below (fun k hk => by rw [List.mem_singleton.1 hk]; exact Nat.le_refl _) (Nat.le_of_lt (block_lt S2.out.res))), zObj, zObjV, ObjM.zero _, (fun k hk => by simp [zObjV, ObjV.foot, Sl.blk] at hk), .inr ⟨HNO.out, rfl, rfl, rfl⟩⟩
              · have HR := hid hr
                have HO5 := hid (RdB.of_own ho5)
                clear hr HLAY ho5
                dsimp only
                cases hlk : PSF.2 with
                | true =>
                  have HK := hid hlk
                  rw [hlk] at d1
                  clear hlk
                  have HNO := hid (read_lack (ref := true) (by rw [← HPS.out]; exact HK.out))
                  go_wp2_with (first | (refine wpList_build_obj rfl 35 _ rfl #[] (by simp [Act.eval]) _ (buildZO _) ?_) | (refine wpList_store_obj rfl 35 _ _ rfl b rfl _ rfl _ _ S2.out.res rfl (by rw [objCells_size]; exact oSizeO) (oc_one _ _) ?_; intro w6 hb6 hc6 hs6; have HB6 := hid hb6; have HC6 := hid hc6; clear hb6 hc6 hs6))
                  refine bodyPost_ret (results_obj_tmp0 rfl _ _ b _ _ _ _ rfl HB6.out Tryd.underlying35 rfl (by rw [objCells_size]; exact oSizeO) _ rfl) rfl ?_
                  exact ⟨by rw [← HBE.out]; exact S2.out.bel.trans (HC6.out.below (fun k hk => by rw [List.mem_singleton.1 hk]; exact Nat.le_refl _) (Nat.le_of_lt (block_lt S2.out.res))), zObj, zObjV, ObjM.zero _, (fun k hk => by simp [zObjV, ObjV.foot, Sl.blk] at hk), .inr ⟨HNO.out, rfl, rfl, rfl⟩⟩
                | false =>
                  rw [hlk] at d1
                  clear hlk
                  have kc5 := run_bytes_str (P := Tryd.prog) HO5.out c5 22 9 5 Tryd.underlying22 Tryd.underlying5 Tryd.underlying9
                  have kcb := run_bytes_str (P := Tryd.prog) HRB2.out c 22 9 5 Tryd.underlying22 Tryd.underlying5 Tryd.underlying9
                  by_cases heq : layO OF = l
                  · have HE := hid heq
                    rw [heq] at kc5
                    clear heq
                    go_wp2_with (first | (refine wpList_load_row rfl 35 _ rfl ob rfl _ _ _ _ S2.out.box Tryd.underlying35 rfl (by rw [objCells_size]; exact oSizeO) ?_) | (refine wpList_store_obj rfl 35 _ _ rfl b rfl _ rfl _ _ S2.out.res rfl (by rw [objCells_size]; exact oSizeO) (oc_one _ _) ?_; intro w6 hb6 hc6 hs6; have HB6 := hid hb6; have HC6 := hid hc6; clear hb6 hc6 hs6))
                    refine bodyPost_ret (results_obj_tmp0 rfl _ _ b _ _ _ _ rfl HB6.out Tryd.underlying35 rfl (by rw [objCells_size]; exact oSizeO) _ rfl) rfl ?_
                    exact ⟨by rw [← HBE.out]; exact S2.out.bel.trans (HC6.out.below (fun k hk => by rw [List.mem_singleton.1 hk]; exact Nat.le_refl _) (Nat.le_of_lt (block_lt S2.out.res))), OF, sx, S2.out.m.keep HC6.out (fun k hk hm => by have h1 := S2.out.foot k hk; have h2 := S2.out.ord; have h3 := List.mem_singleton.1 hm; omega), (fun k hk => by have h1 := S2.out.foot k hk; have h2 := S2.out.ord; rw [← HBE.out]; omega), .inl ⟨by rw [HOF.out]; exact read_ok (by rw [← HOF.out]; exact HR.out) (by rw [← HOF.out]; exact HE.out), rfl⟩⟩
                  · have HE : Hid (layO OF ≠ l) := heq
                    have hne : (layO OF == l) = false := beq_eq_false_iff_ne.2 heq
                    have HNO := hid (read_ne (ref := true) (by rw [← HOF.out]; exact HE.out))
                    go_wp2_with (first | (refine wpList_build_obj rfl 35 _ rfl #[] (by simp [Act.eval]) _ (buildZO _) ?_) | (refine wpList_store_obj rfl 35 _ _ rfl b rfl _ rfl _ _ S2.out.res rfl (by rw [objCells_size]; exact oSizeO) (oc_one _ _) ?_; intro w6 hb6 hc6 hs6; have HB6 := hid hb6; have HC6 := hid hc6; clear hb6 hc6 hs6))
                    refine bodyPost_ret (results_obj_tmp0 rfl _ _ b _ _ _ _ rfl HB6.out Tryd.underlying35 rfl (by rw [objCells_size]; exact oSizeO) _ rfl) rfl ?_
                    exact ⟨by rw [← HBE.out]; exact S2.out.bel.trans (HC6.out.below (fun k hk => by rw [List.mem_singleton.1 hk]; exact Nat.le_refl _) (Nat.le_of_lt (block_lt S2.out.res))), zObj, zObjV, ObjM.zero _, (fun k hk => by simp [zObjV, ObjV.foot, Sl.blk] at hk), .inr ⟨HNO.out, rfl, rfl, rfl⟩⟩
end Go.Proofs.YtdlkobmlnpijgaaDoor
