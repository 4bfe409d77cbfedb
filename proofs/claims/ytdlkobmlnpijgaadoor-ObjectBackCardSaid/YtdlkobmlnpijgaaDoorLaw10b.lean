/- ObjectBack: the walk. -/
import Derived.Test.YtdlkobmlnpijgaaDoorObjBent
import Derived.Test.YtdlkobmlnpijgaaDoorKnown10
namespace Go.Proofs.YtdlkobmlnpijgaaDoor
open Go.RowKit
set_option linter.unusedVariables false
set_option linter.unusedSimpArgs false
set_option maxRecDepth 1000000
set_option maxHeartbeats 6400000
theorem objectBack_walk (x : RawD) (hx : x.ok) (l : List RawD) (aL : Option Addr) (nL cL : Nat) (zh : Int) (hz : -9223372036854775808 ≤ zh ∧ zh ≤ 9223372036854775807) (aR : Option Addr) (nR cR : Nat) (lr : List UInt8) (w : World) (hl : ArgSl 4 RawR w (.slice aL nL cL) l) (hr : RdB w aR nR lr) (hnone : aR = none → cR = 0) (hnr : nR ≤ 140737488355328) (hT : UT w) :
    Calls Tryd.prog 6 #[.agg x.cells, .slice aL nL cL, .int .i64 zh, .slice aR nR cR] w fun e w' => e = .returned (.bool true) ∧ Below w.heap.size w w' := by
  have HLA := hid hl; have HT0 := hid hT; have HZ := hid hz; have DR := hid hr
  clear hl hT hz hr
  go_enter Tryd.func6, Tryd.ntmps6
  go_upto_region 1 with (fail)
  have h1 := block_new w (.cells x.cells 41)
  have hb : Below w.heap.size w (w.alloc (.cells x.cells 41)) := (Below.refl _ _).alloc (Nat.le_refl _) _
  have HB := hid (Below.refl w.heap.size w)
  have HB' := hid (HB.out.trans (hb.mono HB.out.size))
  have HLA' := hid (argSl_below HLA.out hb)
  have DR' := hid (DR.out.below hb)
  clear HB HLA DR
  have HB := HB'
  have HLA := HLA'
  have DR := DR'
  clear HB' HLA' DR'
  have BXR := hid h1
  clear h1 hb
  generalize w.alloc (.cells x.cells 41) = W at *
  go_wp2_with (refine wpList_load_row rfl 41 _ rfl w.heap.size rfl _ _ _ _ BXR.out Tryd.underlying41 rfl (by kernel_rfl) ?_)
  refine (bent_any x hx l aL nL cL zh HZ.out _ HLA.out).mono ?_
  rintro e ww ⟨O1, s1, rfl, hm, hf, hb⟩
  dsimp only
  have HB' := hid (HB.out.trans (hb.mono HB.out.size))
  have HLA' := hid (argSl_below HLA.out hb)
  have DR' := hid (DR.out.below hb)
  have BXR' := hid ((hb.block _ (block_lt BXR.out)).trans BXR.out)
  clear HB HLA DR BXR
  have HB := HB'
  have HLA := HLA'
  have DR := DR'
  have BXR := BXR'
  clear HB' HLA' DR' BXR'
  have M1 := hid hm
  clear hm hf hb
  go_upto_region 2 with (first | (refine wpList_alloc_obj rfl 35 rfl _ oZeroO ?_) | (refine wpList_store_obj rfl 35 _ _ rfl _ rfl _ rfl _ _ (block_new _ _) rfl (by rw [objCells_size]; exact oSizeO) (oc_one _ _) ?_; intro w6 hb6 hc6 hs6; have HB6 := hid hb6; have HC6 := hid hc6; clear hb6 hc6 hs6))
  have hb : Below ww.heap.size ww w6 := ((Below.refl _ _).alloc (Nat.le_refl _) _).trans (HC6.out.below (fun k hk => by rw [List.mem_singleton.1 hk]; exact Nat.le_refl _) (by simp))
  have HB' := hid (HB.out.trans (hb.mono HB.out.size))
  have HLA' := hid (argSl_below HLA.out hb)
  have DR' := hid (DR.out.below hb)
  have BXR' := hid ((hb.block _ (block_lt BXR.out)).trans BXR.out)
  have M1' := hid (M1.out.below hb)
  clear HB HLA DR BXR M1
  have HB := HB'
  have HLA := HLA'
  have DR := DR'
  have BXR := BXR'
  have M1 := M1'
  clear HB' HLA' DR' BXR' M1'
  have BX1 := HB6
  have p1LT : Hid (ww.heap.size < w6.heap.size) := block_lt HB6.out
  clear HB6 HC6 hb
  obtain ⟨p1, hp1⟩ : ∃ q, q = ww.heap.size := ⟨_, rfl⟩
  rw [← hp1] at BX1 p1LT ⊢
  have Hp1 := hid hp1
  clear hp1
  clear Hp1 p1LT
  clear BXR HLA
  go_wp2_with (refine wpList_load_row rfl 35 _ rfl p1 rfl _ _ _ _ BX1.out Tryd.underlying35 rfl (by rw [objCells_size]; exact oSizeO) ?_)
  refine (lay10_any O1 _ _ M1.out (HT0.out.below HB.out)).mono ?_
  rintro e ww ⟨hb, hcase⟩
  have HB' := hid (HB.out.trans (hb.mono HB.out.size))
  have DR' := hid (DR.out.below hb)
  have M1' := hid (M1.out.below hb)
  have BX1' := hid ((hb.block _ (block_lt BX1.out)).trans BX1.out)
  clear HB DR M1 BX1
  have HB := HB'
  have DR := DR'
  have M1 := M1'
  have BX1 := BX1'
  clear HB' DR' M1' BX1'
  clear hb
  rcases hcase with ⟨hr, rfl⟩ | ⟨hr, aA, nA, cA, rfl, ho⟩
  · have RA := hid hr
    clear hr
    go_wp2_with (refine wpList_load_row rfl 35 _ rfl p1 rfl _ _ _ _ BX1.out Tryd.underlying35 rfl (by rw [objCells_size]; exact oSizeO) ?_)
    refine (right10_any O1 s1 _ M1.out (HT0.out.below HB.out)).mono ?_
    rintro e ww ⟨rfl, hb⟩
    dsimp only
    rw [RA.out]
    have HB' := hid (HB.out.trans (hb.mono HB.out.size))
    have DR' := hid (DR.out.below hb)
    have M1' := hid (M1.out.below hb)
    have BX1' := hid ((hb.block _ (block_lt BX1.out)).trans BX1.out)
    clear HB DR M1 BX1
    have HB := HB'
    have DR := DR'
    have M1 := M1'
    have BX1 := BX1'
    clear HB' DR' M1' BX1'
    clear hb
    go_wp2_with fail
    refine (read10_any aR nR cR lr _ DR.out hnone hnr (HT0.out.below HB.out)).mono ?_
    rintro e ww ⟨hb, P, sp, hm, hf, hcase⟩
    have HB' := hid (HB.out.trans (hb.mono HB.out.size))
    have DR' := hid (DR.out.below hb)
    have M1' := hid (M1.out.below hb)
    have BX1' := hid ((hb.block _ (block_lt BX1.out)).trans BX1.out)
    clear HB DR M1 BX1
    have HB := HB'
    have DR := DR'
    have M1 := M1'
    have BX1 := BX1'
    clear HB' DR' M1' BX1'
    clear hb hf
    have MP := hid hm
    clear hm
    rcases hcase with ⟨hi, rfl⟩ | ⟨hno, rfl, rfl, rfl⟩
    · have HI := hid hi
      clear hi
      go_upto_region 10 with (first | (refine wpList_alloc_obj rfl 35 rfl _ oZeroO ?_) | (refine wpList_store_obj rfl 35 _ _ rfl _ rfl _ rfl _ _ (block_new _ _) rfl (by rw [objCells_size]; exact oSizeO) (oc_one _ _) ?_; intro w6 hb6 hc6 hs6; have HB6 := hid hb6; have HC6 := hid hc6; clear hb6 hc6 hs6))
      have hb : Below ww.heap.size ww w6 := ((Below.refl _ _).alloc (Nat.le_refl _) _).trans (HC6.out.below (fun k hk => by rw [List.mem_singleton.1 hk]; exact Nat.le_refl _) (by simp))
      have HB' := hid (HB.out.trans (hb.mono HB.out.size))
      have DR' := hid (DR.out.below hb)
      have M1' := hid (M1.out.below hb)
      have BX1' := hid ((hb.block _ (block_lt BX1.out)).trans BX1.out)
      have MP' := hid (MP.out.below hb)
      clear HB DR M1 BX1 MP
      have HB := HB'
      have DR := DR'
      have M1 := M1'
      have BX1 := BX1'
      have MP := MP'
      clear HB' DR' M1' BX1' MP'
      have BP := HB6
      have p3LT : Hid (ww.heap.size < w6.heap.size) := block_lt HB6.out
      clear HB6 HC6 hb
      obtain ⟨p3, hp3⟩ : ∃ q, q = ww.heap.size := ⟨_, rfl⟩
      rw [← hp3] at BP p3LT ⊢
      have Hp3 := hid hp3
      clear hp3
      clear Hp3 p3LT
      go_wp2_with fail
      refine (known10_any _ (HT0.out.below HB.out)).mono ?_
      rintro e ww ⟨rfl, hb⟩
      dsimp only
      have HB' := hid (HB.out.trans (hb.mono HB.out.size))
      have DR' := hid (DR.out.below hb)
      have M1' := hid (M1.out.below hb)
      have BX1' := hid ((hb.block _ (block_lt BX1.out)).trans BX1.out)
      have MP' := hid (MP.out.below hb)
      have BP' := hid ((hb.block _ (block_lt BP.out)).trans BP.out)
      clear HB DR M1 BX1 MP BP
      have HB := HB'
      have DR := DR'
      have M1 := M1'
      have BX1 := BX1'
      have MP := MP'
      have BP := BP'
      clear HB' DR' M1' BX1' MP' BP'
      clear hb
      go_wp2_with (refine wpList_load_row rfl 35 _ rfl p3 rfl _ _ _ _ BP.out Tryd.underlying35 rfl (by rw [objCells_size]; exact oSizeO) ?_)
      refine (lay10_any P _ _ MP.out (HT0.out.below HB.out)).mono ?_
      rintro e ww ⟨hb, hcase⟩
      have HB' := hid (HB.out.trans (hb.mono HB.out.size))
      have DR' := hid (DR.out.below hb)
      have M1' := hid (M1.out.below hb)
      have BX1' := hid ((hb.block _ (block_lt BX1.out)).trans BX1.out)
      have MP' := hid (MP.out.below hb)
      have BP' := hid ((hb.block _ (block_lt BP.out)).trans BP.out)
      clear HB DR M1 BX1 MP BP
      have HB := HB'
      have DR := DR'
      have M1 := M1'
      have BX1 := BX1'
      have MP := MP'
      have BP := BP'
      clear HB' DR' M1' BX1' MP' BP'
      clear hb
      obtain ⟨aA, nA, cA, rfl, ho⟩ : ∃ a n c, e = .returned (.tuple #[.slice a n c, .int .i64 0]) ∧ ww.ownsRow _ _ 1 (.slice a n c) n ((layO P).map B8) := by
        rcases hcase with ⟨h, _⟩ | ⟨_, h⟩
        · rw [HI.out.1] at h; cases h
        · exact h
      clear hcase
      have hda := RdB.of_own ho
      rw [HI.out.2.2] at hda
      clear ho
      have kc1 := run_bytes_str (P := Tryd.prog) hda cA 22 9 5 Tryd.underlying22 Tryd.underlying5 Tryd.underlying9
      have kc2 := run_bytes_str (P := Tryd.prog) DR.out cR 22 9 5 Tryd.underlying22 Tryd.underlying5 Tryd.underlying9
      clear hda
      go_wp2_with fail
      go_ret
      exact ⟨rfl, HB.out⟩
    · clear hno
      go_upto_region 10 with (first | (refine wpList_alloc_obj rfl 35 rfl _ oZeroO ?_) | (refine wpList_store_obj rfl 35 _ _ rfl _ rfl _ rfl _ _ (block_new _ _) rfl (by rw [objCells_size]; exact oSizeO) (oc_one _ _) ?_; intro w6 hb6 hc6 hs6; have HB6 := hid hb6; have HC6 := hid hc6; clear hb6 hc6 hs6))
      have hb : Below ww.heap.size ww w6 := ((Below.refl _ _).alloc (Nat.le_refl _) _).trans (HC6.out.below (fun k hk => by rw [List.mem_singleton.1 hk]; exact Nat.le_refl _) (by simp))
      have HB' := hid (HB.out.trans (hb.mono HB.out.size))
      have DR' := hid (DR.out.below hb)
      have M1' := hid (M1.out.below hb)
      have BX1' := hid ((hb.block _ (block_lt BX1.out)).trans BX1.out)
      have MP' := hid (MP.out.below hb)
      clear HB DR M1 BX1 MP
      have HB := HB'
      have DR := DR'
      have M1 := M1'
      have BX1 := BX1'
      have MP := MP'
      clear HB' DR' M1' BX1' MP'
      have BP := HB6
      have p3LT : Hid (ww.heap.size < w6.heap.size) := block_lt HB6.out
      clear HB6 HC6 hb
      obtain ⟨p3, hp3⟩ : ∃ q, q = ww.heap.size := ⟨_, rfl⟩
      rw [← hp3] at BP p3LT ⊢
      have Hp3 := hid hp3
      clear hp3
      clear Hp3 p3LT
      go_wp2_with fail
      refine (known10_any _ (HT0.out.below HB.out)).mono ?_
      rintro e ww ⟨rfl, hb⟩
      dsimp only
      have HB' := hid (HB.out.trans (hb.mono HB.out.size))
      have DR' := hid (DR.out.below hb)
      have M1' := hid (M1.out.below hb)
      have BX1' := hid ((hb.block _ (block_lt BX1.out)).trans BX1.out)
      have MP' := hid (MP.out.below hb)
      have BP' := hid ((hb.block _ (block_lt BP.out)).trans BP.out)
      clear HB DR M1 BX1 MP BP
      have HB := HB'
      have DR := DR'
      have M1 := M1'
      have BX1 := BX1'
      have MP := MP'
      have BP := BP'
      clear HB' DR' M1' BX1' MP' BP'
      clear hb
      go_wp2_with fail
      refine (known10_any _ (HT0.out.below HB.out)).mono ?_
      rintro e ww ⟨rfl, hb⟩
      dsimp only
      have HB' := hid (HB.out.trans (hb.mono HB.out.size))
      have DR' := hid (DR.out.below hb)
      have M1' := hid (M1.out.below hb)
      have BX1' := hid ((hb.block _ (block_lt BX1.out)).trans BX1.out)
      have MP' := hid (MP.out.below hb)
      have BP' := hid ((hb.block _ (block_lt BP.out)).trans BP.out)
      clear HB DR M1 BX1 MP BP
      have HB := HB'
      have DR := DR'
      have M1 := M1'
      have BX1 := BX1'
      have MP := MP'
      have BP := BP'
      clear HB' DR' M1' BX1' MP' BP'
      clear hb
      go_wp2_with fail
      go_ret
      exact ⟨rfl, HB.out⟩
  · have RA := hid hr; have DA := hid (RdB.of_own ho); have NA := hid (own_slice ho).2.1
    have HN : Hid (nA ≤ 140737488355328) := by
      have h1 := ho.1
      have hz := layO_small hr M1.out.dl
      simp at h1
      show _ ≤ _
      omega
    clear hr ho
    go_wp2_with (refine wpList_load_row rfl 35 _ rfl p1 rfl _ _ _ _ BX1.out Tryd.underlying35 rfl (by rw [objCells_size]; exact oSizeO) ?_)
    refine (right10_any O1 s1 _ M1.out (HT0.out.below HB.out)).mono ?_
    rintro e ww ⟨rfl, hb⟩
    dsimp only
    rw [RA.out]
    have HB' := hid (HB.out.trans (hb.mono HB.out.size))
    have DR' := hid (DR.out.below hb)
    have M1' := hid (M1.out.below hb)
    have BX1' := hid ((hb.block _ (block_lt BX1.out)).trans BX1.out)
    have DA' := hid (DA.out.below hb)
    clear HB DR M1 BX1 DA
    have HB := HB'
    have DR := DR'
    have M1 := M1'
    have BX1 := BX1'
    have DA := DA'
    clear HB' DR' M1' BX1' DA'
    clear hb
    go_wp2_with fail
    refine (read10_any aA nA cA (layO O1) _ DA.out NA.out HN.out (HT0.out.below HB.out)).mono ?_
    rintro e ww ⟨hb, P, sp, hm, hf, hcase⟩
    have HB' := hid (HB.out.trans (hb.mono HB.out.size))
    have DR' := hid (DR.out.below hb)
    have M1' := hid (M1.out.below hb)
    have BX1' := hid ((hb.block _ (block_lt BX1.out)).trans BX1.out)
    have DA' := hid (DA.out.below hb)
    clear HB DR M1 BX1 DA
    have HB := HB'
    have DR := DR'
    have M1 := M1'
    have BX1 := BX1'
    have DA := DA'
    clear HB' DR' M1' BX1' DA'
    clear hb hf
    have MP := hid hm
    clear hm
    obtain ⟨hi, rfl⟩ : IsObj (layO O1) P ∧ e = .returned (.tuple #[.agg (objCells P sp), .int .i64 0]) := by
      rcases hcase with h | ⟨hn, -⟩
      · exact h
      · exact (hn O1 ⟨RA.out, M1.out.dl, rfl⟩).elim
    clear hcase
    obtain rfl := isObj_one hi ⟨RA.out, M1.out.dl, rfl⟩
    clear hi
    go_upto_region 7 with (first | (refine wpList_alloc_obj rfl 35 rfl _ oZeroO ?_) | (refine wpList_store_obj rfl 35 _ _ rfl _ rfl _ rfl _ _ (block_new _ _) rfl (by rw [objCells_size]; exact oSizeO) (oc_one _ _) ?_; intro w6 hb6 hc6 hs6; have HB6 := hid hb6; have HC6 := hid hc6; clear hb6 hc6 hs6))
    have hb : Below ww.heap.size ww w6 := ((Below.refl _ _).alloc (Nat.le_refl _) _).trans (HC6.out.below (fun k hk => by rw [List.mem_singleton.1 hk]; exact Nat.le_refl _) (by simp))
    have HB' := hid (HB.out.trans (hb.mono HB.out.size))
    have DR' := hid (DR.out.below hb)
    have M1' := hid (M1.out.below hb)
    have BX1' := hid ((hb.block _ (block_lt BX1.out)).trans BX1.out)
    have DA' := hid (DA.out.below hb)
    have MP' := hid (MP.out.below hb)
    clear HB DR M1 BX1 DA MP
    have HB := HB'
    have DR := DR'
    have M1 := M1'
    have BX1 := BX1'
    have DA := DA'
    have MP := MP'
    clear HB' DR' M1' BX1' DA' MP'
    have BP := HB6
    have p2LT : Hid (ww.heap.size < w6.heap.size) := block_lt HB6.out
    clear HB6 HC6 hb
    obtain ⟨p2, hp2⟩ : ∃ q, q = ww.heap.size := ⟨_, rfl⟩
    rw [← hp2] at BP p2LT ⊢
    have Hp2 := hid hp2
    clear hp2
    clear Hp2 p2LT
    have HSM := hid ((sameB_iff M1.out.dl M1.out.dl).2 rfl)
    go_wp2_with (first | (refine wpList_load_on' 35 _ rfl (by kernel_rfl) p1 rfl _ _ _ _ BX1.out Tryd.underlying35 rfl (by rw [objCells_size]; exact oSizeO) ?_) | (refine wpList_load_on' 35 _ rfl (by kernel_rfl) p2 rfl _ _ _ _ BP.out Tryd.underlying35 rfl (by rw [objCells_size]; exact oSizeO) ?_))
    refine (same10_any _ _ _ _ _ M1.out MP.out).mono ?_
    rintro e ww ⟨rfl, hb⟩
    dsimp only
    rw [HSM.out]
    have HB' := hid (HB.out.trans (hb.mono HB.out.size))
    have DR' := hid (DR.out.below hb)
    have M1' := hid (M1.out.below hb)
    have BX1' := hid ((hb.block _ (block_lt BX1.out)).trans BX1.out)
    have DA' := hid (DA.out.below hb)
    have MP' := hid (MP.out.below hb)
    have BP' := hid ((hb.block _ (block_lt BP.out)).trans BP.out)
    clear HB DR M1 BX1 DA MP BP
    have HB := HB'
    have DR := DR'
    have M1 := M1'
    have BX1 := BX1'
    have DA := DA'
    have MP := MP'
    have BP := BP'
    clear HB' DR' M1' BX1' DA' MP' BP'
    clear hb
    clear BP MP DA
    go_wp2_with fail
    refine (read10_any aR nR cR lr _ DR.out hnone hnr (HT0.out.below HB.out)).mono ?_
    rintro e ww ⟨hb, P, sp, hm, hf, hcase⟩
    have HB' := hid (HB.out.trans (hb.mono HB.out.size))
    have DR' := hid (DR.out.below hb)
    have M1' := hid (M1.out.below hb)
    have BX1' := hid ((hb.block _ (block_lt BX1.out)).trans BX1.out)
    clear HB DR M1 BX1
    have HB := HB'
    have DR := DR'
    have M1 := M1'
    have BX1 := BX1'
    clear HB' DR' M1' BX1'
    clear hb hf
    have MP := hid hm
    clear hm
    rcases hcase with ⟨hi, rfl⟩ | ⟨hno, rfl, rfl, rfl⟩
    · have HI := hid hi
      clear hi
      go_upto_region 10 with (first | (refine wpList_alloc_obj rfl 35 rfl _ oZeroO ?_) | (refine wpList_store_obj rfl 35 _ _ rfl _ rfl _ rfl _ _ (block_new _ _) rfl (by rw [objCells_size]; exact oSizeO) (oc_one _ _) ?_; intro w6 hb6 hc6 hs6; have HB6 := hid hb6; have HC6 := hid hc6; clear hb6 hc6 hs6))
      have hb : Below ww.heap.size ww w6 := ((Below.refl _ _).alloc (Nat.le_refl _) _).trans (HC6.out.below (fun k hk => by rw [List.mem_singleton.1 hk]; exact Nat.le_refl _) (by simp))
      have HB' := hid (HB.out.trans (hb.mono HB.out.size))
      have DR' := hid (DR.out.below hb)
      have M1' := hid (M1.out.below hb)
      have BX1' := hid ((hb.block _ (block_lt BX1.out)).trans BX1.out)
      have MP' := hid (MP.out.below hb)
      clear HB DR M1 BX1 MP
      have HB := HB'
      have DR := DR'
      have M1 := M1'
      have BX1 := BX1'
      have MP := MP'
      clear HB' DR' M1' BX1' MP'
      have BP := HB6
      have p3LT : Hid (ww.heap.size < w6.heap.size) := block_lt HB6.out
      clear HB6 HC6 hb
      obtain ⟨p3, hp3⟩ : ∃ q, q = ww.heap.size := ⟨_, rfl⟩
      rw [← hp3] at BP p3LT ⊢
      have Hp3 := hid hp3
      clear hp3
      clear Hp3 p3LT
      go_wp2_with fail
      refine (known10_any _ (HT0.out.below HB.out)).mono ?_
      rintro e ww ⟨rfl, hb⟩
      dsimp only
      have HB' := hid (HB.out.trans (hb.mono HB.out.size))
      have DR' := hid (DR.out.below hb)
      have M1' := hid (M1.out.below hb)
      have BX1' := hid ((hb.block _ (block_lt BX1.out)).trans BX1.out)
      have MP' := hid (MP.out.below hb)
      have BP' := hid ((hb.block _ (block_lt BP.out)).trans BP.out)
      clear HB DR M1 BX1 MP BP
      have HB := HB'
      have DR := DR'
      have M1 := M1'
      have BX1 := BX1'
      have MP := MP'
      have BP := BP'
      clear HB' DR' M1' BX1' MP' BP'
      clear hb
      go_wp2_with (refine wpList_load_row rfl 35 _ rfl p3 rfl _ _ _ _ BP.out Tryd.underlying35 rfl (by rw [objCells_size]; exact oSizeO) ?_)
      refine (lay10_any P _ _ MP.out (HT0.out.below HB.out)).mono ?_
      rintro e ww ⟨hb, hcase⟩
      have HB' := hid (HB.out.trans (hb.mono HB.out.size))
      have DR' := hid (DR.out.below hb)
      have M1' := hid (M1.out.below hb)
      have BX1' := hid ((hb.block _ (block_lt BX1.out)).trans BX1.out)
      have MP' := hid (MP.out.below hb)
      have BP' := hid ((hb.block _ (block_lt BP.out)).trans BP.out)
      clear HB DR M1 BX1 MP BP
      have HB := HB'
      have DR := DR'
      have M1 := M1'
      have BX1 := BX1'
      have MP := MP'
      have BP := BP'
      clear HB' DR' M1' BX1' MP' BP'
      clear hb
      obtain ⟨aA, nA, cA, rfl, ho⟩ : ∃ a n c, e = .returned (.tuple #[.slice a n c, .int .i64 0]) ∧ ww.ownsRow _ _ 1 (.slice a n c) n ((layO P).map B8) := by
        rcases hcase with ⟨h, _⟩ | ⟨_, h⟩
        · rw [HI.out.1] at h; cases h
        · exact h
      clear hcase
      have hda := RdB.of_own ho
      rw [HI.out.2.2] at hda
      clear ho
      have kc1 := run_bytes_str (P := Tryd.prog) hda cA 22 9 5 Tryd.underlying22 Tryd.underlying5 Tryd.underlying9
      have kc2 := run_bytes_str (P := Tryd.prog) DR.out cR 22 9 5 Tryd.underlying22 Tryd.underlying5 Tryd.underlying9
      clear hda
      go_wp2_with fail
      go_ret
      exact ⟨rfl, HB.out⟩
    · clear hno
      go_upto_region 10 with (first | (refine wpList_alloc_obj rfl 35 rfl _ oZeroO ?_) | (refine wpList_store_obj rfl 35 _ _ rfl _ rfl _ rfl _ _ (block_new _ _) rfl (by rw [objCells_size]; exact oSizeO) (oc_one _ _) ?_; intro w6 hb6 hc6 hs6; have HB6 := hid hb6; have HC6 := hid hc6; clear hb6 hc6 hs6))
      have hb : Below ww.heap.size ww w6 := ((Below.refl _ _).alloc (Nat.le_refl _) _).trans (HC6.out.below (fun k hk => by rw [List.mem_singleton.1 hk]; exact Nat.le_refl _) (by simp))
      have HB' := hid (HB.out.trans (hb.mono HB.out.size))
      have DR' := hid (DR.out.below hb)
      have M1' := hid (M1.out.below hb)
      have BX1' := hid ((hb.block _ (block_lt BX1.out)).trans BX1.out)
      have MP' := hid (MP.out.below hb)
      clear HB DR M1 BX1 MP
      have HB := HB'
      have DR := DR'
      have M1 := M1'
      have BX1 := BX1'
      have MP := MP'
      clear HB' DR' M1' BX1' MP'
      have BP := HB6
      have p3LT : Hid (ww.heap.size < w6.heap.size) := block_lt HB6.out
      clear HB6 HC6 hb
      obtain ⟨p3, hp3⟩ : ∃ q, q = ww.heap.size := ⟨_, rfl⟩
      rw [← hp3] at BP p3LT ⊢
      have Hp3 := hid hp3
      clear hp3
      clear Hp3 p3LT
      go_wp2_with fail
      refine (known10_any _ (HT0.out.below HB.out)).mono ?_
      rintro e ww ⟨rfl, hb⟩
      dsimp only
      have HB' := hid (HB.out.trans (hb.mono HB.out.size))
      have DR' := hid (DR.out.below hb)
      have M1' := hid (M1.out.below hb)
      have BX1' := hid ((hb.block _ (block_lt BX1.out)).trans BX1.out)
      have MP' := hid (MP.out.below hb)
      have BP' := hid ((hb.block _ (block_lt BP.out)).trans BP.out)
      clear HB DR M1 BX1 MP BP
      have HB := HB'
      have DR := DR'
      have M1 := M1'
      have BX1 := BX1'
      have MP := MP'
      have BP := BP'
      clear HB' DR' M1' BX1' MP' BP'
      clear hb
      go_wp2_with fail
      refine (known10_any _ (HT0.out.below HB.out)).mono ?_
      rintro e ww ⟨rfl, hb⟩
      dsimp only
      have HB' := hid (HB.out.trans (hb.mono HB.out.size))
      have DR' := hid (DR.out.below hb)
      have M1' := hid (M1.out.below hb)
      have BX1' := hid ((hb.block _ (block_lt BX1.out)).trans BX1.out)
      have MP' := hid (MP.out.below hb)
      have BP' := hid ((hb.block _ (block_lt BP.out)).trans BP.out)
      clear HB DR M1 BX1 MP BP
      have HB := HB'
      have DR := DR'
      have M1 := M1'
      have BX1 := BX1'
      have MP := MP'
      have BP := BP'
      clear HB' DR' M1' BX1' MP' BP'
      clear hb
      go_wp2_with fail
      go_ret
      exact ⟨rfl, HB.out⟩
end Go.Proofs.YtdlkobmlnpijgaaDoor
