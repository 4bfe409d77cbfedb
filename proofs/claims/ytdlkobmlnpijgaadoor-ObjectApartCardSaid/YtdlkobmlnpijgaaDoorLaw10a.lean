/- ObjectApart: the walk. -/
import Derived.Test.YtdlkobmlnpijgaaDoorObjBent
import Derived.Test.YtdlkobmlnpijgaaDoorKnown10
namespace Go.Proofs.YtdlkobmlnpijgaaDoor
open Go.RowKit
set_option linter.unusedVariables false
set_option linter.unusedSimpArgs false
set_option maxRecDepth 1000000
set_option maxHeartbeats 6400000
theorem objectApart_walk (x y : RawD) (hx : x.ok) (hy : y.ok) (l k : List RawD) (aL : Option Addr) (nL cL : Nat) (aK : Option Addr) (nK cK : Nat) (zh : Int) (hz : -9223372036854775808 ≤ zh ∧ zh ≤ 9223372036854775807) (near : Bool) (w : World) (hl : ArgSl 4 RawR w (.slice aL nL cL) l) (hk : ArgSl 4 RawR w (.slice aK nK cK) k) (hT : UT w) :
    Calls Tryd.prog 8 #[.agg x.cells, .agg y.cells, .slice aL nL cL, .slice aK nK cK, .int .i64 zh, .bool near] w fun e w' => e = .returned (.bool true) ∧ Below w.heap.size w w' := by
  have HK := hid hk; have HLA := hid hl; have HT0 := hid hT; have HZ := hid hz
  clear hk hl hT hz
  go_enter Tryd.func8, Tryd.ntmps8
  go_upto_region 1 with (fail)
  have h1 : ((w.alloc (.cells x.cells 41)).alloc (.cells y.cells 41)).heap[w.heap.size]? = some (.cells x.cells 41 (0, 0)) := heap_alloc2_old _ _ _
  have h2 : ((w.alloc (.cells x.cells 41)).alloc (.cells y.cells 41)).heap[w.heap.size + 1]? = some (.cells y.cells 41 (0, 0)) := heap_alloc2_new _ _ _
  have hb : Below w.heap.size w ((w.alloc (.cells x.cells 41)).alloc (.cells y.cells 41)) := ((Below.refl _ _).alloc (Nat.le_refl _) _).alloc (by simp) _
  have HB := hid (Below.refl w.heap.size w)
  have HB' := hid (HB.out.trans (hb.mono HB.out.size))
  have HLA' := hid (argSl_below HLA.out hb)
  have HK' := hid (argSl_below HK.out hb)
  clear HB HLA HK
  have HB := HB'
  have HLA := HLA'
  have HK := HK'
  clear HB' HLA' HK'
  have BXR := hid h1; have BYR := hid h2
  clear h1 h2 hb
  generalize (w.alloc (.cells x.cells 41)).alloc (.cells y.cells 41) = W at *
  go_wp2_with (refine wpList_load_row rfl 41 _ rfl w.heap.size rfl _ _ _ _ BXR.out Tryd.underlying41 rfl (by kernel_rfl) ?_)
  refine (object_any x hx l aL nL cL _ HLA.out).mono ?_
  rintro e ww ⟨s1, rfl, hm, hf, hb⟩
  dsimp only
  have HB' := hid (HB.out.trans (hb.mono HB.out.size))
  have HLA' := hid (argSl_below HLA.out hb)
  have HK' := hid (argSl_below HK.out hb)
  have BXR' := hid ((hb.block _ (block_lt BXR.out)).trans BXR.out)
  have BYR' := hid ((hb.block _ (block_lt BYR.out)).trans BYR.out)
  clear HB HLA HK BXR BYR
  have HB := HB'
  have HLA := HLA'
  have HK := HK'
  have BXR := BXR'
  have BYR := BYR'
  clear HB' HLA' HK' BXR' BYR'
  have M1 := hid hm
  clear hm hf hb
  generalize objRaw x l = O1 at *
  have LT1 := hid M1.out.lt
  go_upto_region 2 with (first | (refine wpList_alloc_obj rfl 35 rfl _ oZeroO ?_) | (refine wpList_store_obj rfl 35 _ _ rfl _ rfl _ rfl _ _ (block_new _ _) rfl (by rw [objCells_size]; exact oSizeO) (oc_one _ _) ?_; intro w6 hb6 hc6 hs6; have HB6 := hid hb6; have HC6 := hid hc6; clear hb6 hc6 hs6))
  have hb : Below ww.heap.size ww w6 := ((Below.refl _ _).alloc (Nat.le_refl _) _).trans (HC6.out.below (fun k hk => by rw [List.mem_singleton.1 hk]; exact Nat.le_refl _) (by simp))
  have HB' := hid (HB.out.trans (hb.mono HB.out.size))
  have HLA' := hid (argSl_below HLA.out hb)
  have HK' := hid (argSl_below HK.out hb)
  have BXR' := hid ((hb.block _ (block_lt BXR.out)).trans BXR.out)
  have BYR' := hid ((hb.block _ (block_lt BYR.out)).trans BYR.out)
  have M1' := hid (M1.out.below hb)
  clear HB HLA HK BXR BYR M1
  have HB := HB'
  have HLA := HLA'
  have HK := HK'
  have BXR := BXR'
  have BYR := BYR'
  have M1 := M1'
  clear HB' HLA' HK' BXR' BYR' M1'
  have BX1 := HB6
  have p1LT : Hid (ww.heap.size < w6.heap.size) := block_lt HB6.out
  clear HB6 HC6 hb
  obtain ⟨p1, hp1⟩ : ∃ q, q = ww.heap.size := ⟨_, rfl⟩
  rw [← hp1] at BX1 p1LT ⊢
  have Hp1 := hid hp1
  clear hp1
  have F1 : Hid (∀ k ∈ s1.foot, k < p1) := fun k hk => by have := LT1.out k hk; have := Hp1.out; omega
  clear LT1 Hp1
  go_wp2_with (refine wpList_load_row rfl 41 _ rfl (w.heap.size + 1) rfl _ _ _ _ BYR.out Tryd.underlying41 rfl (by kernel_rfl) ?_)
  refine (object_any y hy k aK nK cK _ HK.out).mono ?_
  rintro e ww ⟨s2, rfl, hm, hf, hb⟩
  dsimp only
  have HB' := hid (HB.out.trans (hb.mono HB.out.size))
  have HLA' := hid (argSl_below HLA.out hb)
  have HK' := hid (argSl_below HK.out hb)
  have BXR' := hid ((hb.block _ (block_lt BXR.out)).trans BXR.out)
  have BYR' := hid ((hb.block _ (block_lt BYR.out)).trans BYR.out)
  have M1' := hid (M1.out.below hb)
  have BX1' := hid ((hb.block _ (block_lt BX1.out)).trans BX1.out)
  clear HB HLA HK BXR BYR M1 BX1
  have HB := HB'
  have HLA := HLA'
  have HK := HK'
  have BXR := BXR'
  have BYR := BYR'
  have M1 := M1'
  have BX1 := BX1'
  clear HB' HLA' HK' BXR' BYR' M1' BX1'
  have M2 := hid hm
  clear hm hf
  have P12 : Hid (p1 < ww.heap.size) := Nat.lt_of_lt_of_le p1LT.out hb.size
  clear hb p1LT
  generalize objRaw y k = O2 at *
  have HBW := hid HB.out.size
  go_upto_if 25 with (first | (refine wpList_alloc_obj rfl 35 rfl _ oZeroO ?_) | (refine wpList_store_obj rfl 35 _ _ rfl _ rfl _ rfl _ _ (block_new _ _) rfl (by rw [objCells_size]; exact oSizeO) (oc_one _ _) ?_; intro w6 hb6 hc6 hs6; have HB6 := hid hb6; have HC6 := hid hc6; clear hb6 hc6 hs6))
  have hb : Below ww.heap.size ww w6 := ((Below.refl _ _).alloc (Nat.le_refl _) _).trans (HC6.out.below (fun k hk => by rw [List.mem_singleton.1 hk]; exact Nat.le_refl _) (by simp))
  have HB' := hid (HB.out.trans (hb.mono HB.out.size))
  have HLA' := hid (argSl_below HLA.out hb)
  have HK' := hid (argSl_below HK.out hb)
  have BXR' := hid ((hb.block _ (block_lt BXR.out)).trans BXR.out)
  have BYR' := hid ((hb.block _ (block_lt BYR.out)).trans BYR.out)
  have M1' := hid (M1.out.below hb)
  have BX1' := hid ((hb.block _ (block_lt BX1.out)).trans BX1.out)
  have M2' := hid (M2.out.below hb)
  clear HB HLA HK BXR BYR M1 BX1 M2
  have HB := HB'
  have HLA := HLA'
  have HK := HK'
  have BXR := BXR'
  have BYR := BYR'
  have M1 := M1'
  have BX1 := BX1'
  have M2 := M2'
  clear HB' HLA' HK' BXR' BYR' M1' BX1' M2'
  have BX2 := HB6
  have p2LT : Hid (ww.heap.size < w6.heap.size) := block_lt HB6.out
  clear HB6 HC6 hb
  obtain ⟨p2, hp2⟩ : ∃ q, q = ww.heap.size := ⟨_, rfl⟩
  rw [← hp2] at BX2 p2LT ⊢
  have Hp2 := hid hp2
  clear hp2
  have PB : Hid (w.heap.size ≤ p2) := by show _ ≤ _; rw [Hp2.out]; exact HBW.out
  have P12' : Hid (p1 < p2) := by show _ < _; rw [Hp2.out]; exact P12.out
  clear P12 Hp2
  have P12 := P12'
  clear P12'
  clear HK BYR
  have P2B : Hid (w.heap.size ≤ p2) := PB.out
  go_cut [] (fun wx => ∃ O s, wx.heap[p2]? = some (.cells (objCells O s) 35 (0, 0)) ∧ wx.heap[p1]? = some (.cells (objCells O1 s1) 35 (0, 0)) ∧ ObjM wx O1 s1 ∧ ObjM wx O s ∧ Below w.heap.size w wx)
  case first =>
    cases near with
    | false =>
      go_wp2_with fail
      go_meet
      exact ⟨O2, s2, BX2.out, BX1.out, M1.out, M2.out, HB.out⟩
    | true =>
      clear M2
      go_wp2_with (refine wpList_load_row rfl 41 _ rfl w.heap.size rfl _ _ _ _ BXR.out Tryd.underlying41 rfl (by kernel_rfl) ?_)
      refine (bent_any x hx l aL nL cL zh HZ.out _ HLA.out).mono ?_
      rintro e ww ⟨O3, s3, rfl, hm, hf, hb⟩
      dsimp only
      have HB' := hid (HB.out.trans (hb.mono HB.out.size))
      have HLA' := hid (argSl_below HLA.out hb)
      have BXR' := hid ((hb.block _ (block_lt BXR.out)).trans BXR.out)
      have M1' := hid (M1.out.below hb)
      have BX1' := hid ((hb.block _ (block_lt BX1.out)).trans BX1.out)
      have BX2' := hid ((hb.block _ (block_lt BX2.out)).trans BX2.out)
      clear HB HLA BXR M1 BX1 BX2
      have HB := HB'
      have HLA := HLA'
      have BXR := BXR'
      have M1 := M1'
      have BX1 := BX1'
      have BX2 := BX2'
      clear HB' HLA' BXR' M1' BX1' BX2'
      have M3 := hid hm
      have F3 : Hid (∀ k ∈ s3.foot, k ≠ p2) := fun k hk => by have h1 := hf k hk; have h2 := p2LT.out; omega
      clear hm hf hb
      go_wp2_with (refine wpList_store_obj rfl 35 _ _ rfl p2 rfl _ rfl _ _ BX2.out rfl (by rw [objCells_size]; exact oSizeO) (oc_one _ _) ?_; intro w6 hb6 hc6 hs6; have HB6 := hid hb6; have HC6 := hid hc6; clear hb6 hc6 hs6)
      go_meet
      exact ⟨O3, s3, HB6.out, (HC6.out.block _ (block_lt BX1.out) (by have := P12.out; simp; omega)).trans BX1.out, M1.out.keep HC6.out (fun k hk hm => by have h1 := F1.out k hk; have h2 := P12.out; have h3 := List.mem_singleton.1 hm; omega), M3.out.keep HC6.out (fun k hk hm => F3.out k hk (List.mem_singleton.1 hm)),
        HB.out.trans (HC6.out.below (fun k hk => by have h3 := List.mem_singleton.1 hk; have h4 := P2B.out; omega) HB.out.size)⟩
  case rest =>
    obtain ⟨O3, s3, hx2, hx1, hm1, hm2, hb⟩ := hcut
    clear HB BX1 BX2 M1 M2 BXR HLA
    have BX1 := hid hx1; have BX2 := hid hx2; have M1 := hid hm1; have M2 := hid hm2; have HB := hid hb
    clear hx1 hx2 hm1 hm2 hb F1
    go_wp2_with (refine wpList_load_row rfl 35 _ rfl p1 rfl _ _ _ _ BX1.out Tryd.underlying35 rfl (by rw [objCells_size]; exact oSizeO) ?_)
    refine (lay10_any O1 _ _ M1.out (HT0.out.below HB.out)).mono ?_
    rintro e ww ⟨hb, hcase⟩
    have BX1' := hid ((hb.block _ (block_lt BX1.out)).trans BX1.out)
    have BX2' := hid ((hb.block _ (block_lt BX2.out)).trans BX2.out)
    have M1' := hid (M1.out.below hb)
    have M2' := hid (M2.out.below hb)
    have HB' := hid (HB.out.trans (hb.mono HB.out.size))
    clear BX1 BX2 M1 M2 HB
    have BX1 := BX1'
    have BX2 := BX2'
    have M1 := M1'
    have M2 := M2'
    have HB := HB'
    clear BX1' BX2' M1' M2' HB'
    clear hb
    rcases hcase with ⟨hr, rfl⟩ | ⟨hr, aA, nA, cA, rfl, ho⟩
    · clear hr
      go_wp2_with (refine wpList_load_row rfl 35 _ rfl p2 rfl _ _ _ _ BX2.out Tryd.underlying35 rfl (by rw [objCells_size]; exact oSizeO) ?_)
      refine (lay10_any O3 _ _ M2.out (HT0.out.below HB.out)).mono ?_
      rintro e ww ⟨hb, hcase⟩
      have BX1' := hid ((hb.block _ (block_lt BX1.out)).trans BX1.out)
      have BX2' := hid ((hb.block _ (block_lt BX2.out)).trans BX2.out)
      have M1' := hid (M1.out.below hb)
      have M2' := hid (M2.out.below hb)
      have HB' := hid (HB.out.trans (hb.mono HB.out.size))
      clear BX1 BX2 M1 M2 HB
      have BX1 := BX1'
      have BX2 := BX2'
      have M1 := M1'
      have M2 := M2'
      have HB := HB'
      clear BX1' BX2' M1' M2' HB'
      clear hb
      rcases hcase with ⟨hr, rfl⟩ | ⟨hr, aB, nB, cB, rfl, ho⟩
      · clear hr
        go_wp2_with fail
        refine (known10_any _ (HT0.out.below HB.out)).mono ?_
        rintro e ww ⟨rfl, hb⟩
        dsimp only
        have BX1' := hid ((hb.block _ (block_lt BX1.out)).trans BX1.out)
        have BX2' := hid ((hb.block _ (block_lt BX2.out)).trans BX2.out)
        have M1' := hid (M1.out.below hb)
        have M2' := hid (M2.out.below hb)
        have HB' := hid (HB.out.trans (hb.mono HB.out.size))
        clear BX1 BX2 M1 M2 HB
        have BX1 := BX1'
        have BX2 := BX2'
        have M1 := M1'
        have M2 := M2'
        have HB := HB'
        clear BX1' BX2' M1' M2' HB'
        clear hb
        go_wp2_with fail
        refine (known10_any _ (HT0.out.below HB.out)).mono ?_
        rintro e ww ⟨rfl, hb⟩
        dsimp only
        have BX1' := hid ((hb.block _ (block_lt BX1.out)).trans BX1.out)
        have BX2' := hid ((hb.block _ (block_lt BX2.out)).trans BX2.out)
        have M1' := hid (M1.out.below hb)
        have M2' := hid (M2.out.below hb)
        have HB' := hid (HB.out.trans (hb.mono HB.out.size))
        clear BX1 BX2 M1 M2 HB
        have BX1 := BX1'
        have BX2 := BX2'
        have M1 := M1'
        have M2 := M2'
        have HB := HB'
        clear BX1' BX2' M1' M2' HB'
        clear hb
        go_wp2_with fail
        go_ret
        exact ⟨rfl, HB.out⟩
      · have RB := hid hr; have DB := hid (RdB.of_own ho)
        clear hr ho
        go_wp2_with fail
        refine (known10_any _ (HT0.out.below HB.out)).mono ?_
        rintro e ww ⟨rfl, hb⟩
        dsimp only
        have BX1' := hid ((hb.block _ (block_lt BX1.out)).trans BX1.out)
        have BX2' := hid ((hb.block _ (block_lt BX2.out)).trans BX2.out)
        have M1' := hid (M1.out.below hb)
        have M2' := hid (M2.out.below hb)
        have HB' := hid (HB.out.trans (hb.mono HB.out.size))
        have DB' := hid (DB.out.below hb)
        clear BX1 BX2 M1 M2 HB DB
        have BX1 := BX1'
        have BX2 := BX2'
        have M1 := M1'
        have M2 := M2'
        have HB := HB'
        have DB := DB'
        clear BX1' BX2' M1' M2' HB' DB'
        clear hb
        go_wp2_with fail
        refine (known10_any _ (HT0.out.below HB.out)).mono ?_
        rintro e ww ⟨rfl, hb⟩
        dsimp only
        have BX1' := hid ((hb.block _ (block_lt BX1.out)).trans BX1.out)
        have BX2' := hid ((hb.block _ (block_lt BX2.out)).trans BX2.out)
        have M1' := hid (M1.out.below hb)
        have M2' := hid (M2.out.below hb)
        have HB' := hid (HB.out.trans (hb.mono HB.out.size))
        have DB' := hid (DB.out.below hb)
        clear BX1 BX2 M1 M2 HB DB
        have BX1 := BX1'
        have BX2 := BX2'
        have M1 := M1'
        have M2 := M2'
        have HB := HB'
        have DB := DB'
        clear BX1' BX2' M1' M2' HB' DB'
        clear hb
        go_wp2_with fail
        go_ret
        exact ⟨rfl, HB.out⟩
    · have RA := hid hr; have DA := hid (RdB.of_own ho)
      clear hr ho
      go_wp2_with (refine wpList_load_row rfl 35 _ rfl p2 rfl _ _ _ _ BX2.out Tryd.underlying35 rfl (by rw [objCells_size]; exact oSizeO) ?_)
      refine (lay10_any O3 _ _ M2.out (HT0.out.below HB.out)).mono ?_
      rintro e ww ⟨hb, hcase⟩
      have BX1' := hid ((hb.block _ (block_lt BX1.out)).trans BX1.out)
      have BX2' := hid ((hb.block _ (block_lt BX2.out)).trans BX2.out)
      have M1' := hid (M1.out.below hb)
      have M2' := hid (M2.out.below hb)
      have HB' := hid (HB.out.trans (hb.mono HB.out.size))
      have DA' := hid (DA.out.below hb)
      clear BX1 BX2 M1 M2 HB DA
      have BX1 := BX1'
      have BX2 := BX2'
      have M1 := M1'
      have M2 := M2'
      have HB := HB'
      have DA := DA'
      clear BX1' BX2' M1' M2' HB' DA'
      clear hb
      rcases hcase with ⟨hr, rfl⟩ | ⟨hr, aB, nB, cB, rfl, ho⟩
      · clear hr
        go_wp2_with fail
        refine (known10_any _ (HT0.out.below HB.out)).mono ?_
        rintro e ww ⟨rfl, hb⟩
        dsimp only
        have BX1' := hid ((hb.block _ (block_lt BX1.out)).trans BX1.out)
        have BX2' := hid ((hb.block _ (block_lt BX2.out)).trans BX2.out)
        have M1' := hid (M1.out.below hb)
        have M2' := hid (M2.out.below hb)
        have HB' := hid (HB.out.trans (hb.mono HB.out.size))
        have DA' := hid (DA.out.below hb)
        clear BX1 BX2 M1 M2 HB DA
        have BX1 := BX1'
        have BX2 := BX2'
        have M1 := M1'
        have M2 := M2'
        have HB := HB'
        have DA := DA'
        clear BX1' BX2' M1' M2' HB' DA'
        clear hb
        go_wp2_with fail
        refine (known10_any _ (HT0.out.below HB.out)).mono ?_
        rintro e ww ⟨rfl, hb⟩
        dsimp only
        have BX1' := hid ((hb.block _ (block_lt BX1.out)).trans BX1.out)
        have BX2' := hid ((hb.block _ (block_lt BX2.out)).trans BX2.out)
        have M1' := hid (M1.out.below hb)
        have M2' := hid (M2.out.below hb)
        have HB' := hid (HB.out.trans (hb.mono HB.out.size))
        have DA' := hid (DA.out.below hb)
        clear BX1 BX2 M1 M2 HB DA
        have BX1 := BX1'
        have BX2 := BX2'
        have M1 := M1'
        have M2 := M2'
        have HB := HB'
        have DA := DA'
        clear BX1' BX2' M1' M2' HB' DA'
        clear hb
        go_wp2_with fail
        go_ret
        exact ⟨rfl, HB.out⟩
      · have RB := hid hr; have DB := hid (RdB.of_own ho)
        clear hr ho
        go_wp2_with fail
        refine (known10_any _ (HT0.out.below HB.out)).mono ?_
        rintro e ww ⟨rfl, hb⟩
        dsimp only
        have BX1' := hid ((hb.block _ (block_lt BX1.out)).trans BX1.out)
        have BX2' := hid ((hb.block _ (block_lt BX2.out)).trans BX2.out)
        have M1' := hid (M1.out.below hb)
        have M2' := hid (M2.out.below hb)
        have HB' := hid (HB.out.trans (hb.mono HB.out.size))
        have DA' := hid (DA.out.below hb)
        have DB' := hid (DB.out.below hb)
        clear BX1 BX2 M1 M2 HB DA DB
        have BX1 := BX1'
        have BX2 := BX2'
        have M1 := M1'
        have M2 := M2'
        have HB := HB'
        have DA := DA'
        have DB := DB'
        clear BX1' BX2' M1' M2' HB' DA' DB'
        clear hb
        cases hsb : sameB O1 O3 with
        | true =>
          have HSB := hid hsb
          clear hsb
          obtain rfl := (sameB_iff M1.out.dl M2.out.dl).1 HSB.out
          go_upto_region 9 with (fail)
          refine wp_region_each 9 [.eq (.slice aA nA cA), .eq (.string ⟨(layO O1).toArray⟩), .eq (.slice aB nB cB), .eq (.string ⟨(layO O1).toArray⟩), .eq (.bool true), .eq (.agg (objCells O1 s1)), .eq (.agg (objCells O1 s3)), .eq (.bool true), .eq (.bool true)] (by kernel_rfl) (by kernel_rfl) (by kernel_rfl) (by kernel_rfl) ?_ ?_
          · all_goals
              refine each_5 ?_ ?_ ?_ ?_ ?_ (each_c ?_ (each_c ?_ (each_c ?_ (each_c ?_ (each_n)))))
              · intro w1 hg Ar seen
                have s15 := seen.sl 15 (.slice aA nA cA)
                refine does_plain rfl fun K Q' hK => ?_
                go_simp; exact hK _ _ (Grow.refl _) rfl
              · intro w1 hg Ar seen
                have e0 := seen.de 0 51
                refine does_plain rfl fun K Q' hK => ?_
                have kc := run_bytes_str (P := Tryd.prog) (DA.out.below hg) cA 22 9 5 Tryd.underlying22 Tryd.underlying5 Tryd.underlying9
                go_simp; exact hK _ _ (Grow.refl _) rfl
              · intro w1 hg Ar seen
                have s17 := seen.sl 17 (.slice aB nB cB)
                refine does_plain rfl fun K Q' hK => ?_
                go_simp; exact hK _ _ (Grow.refl _) rfl
              · intro w1 hg Ar seen
                have e2 := seen.de 2 53
                refine does_plain rfl fun K Q' hK => ?_
                have kc := run_bytes_str (P := Tryd.prog) (DB.out.below hg) cB 22 9 5 Tryd.underlying22 Tryd.underlying5 Tryd.underlying9
                go_simp; exact hK _ _ (Grow.refl _) rfl
              · intro w1 hg Ar seen
                have e1 := seen.de 1 52
                have e3 := seen.de 3 54
                refine does_plain rfl fun K Q' hK => ?_
                go_simp; exact hK _ _ (Grow.refl _) rfl
              · intro w1 hg Ar seen
                have s13 := seen.sl 13 (.pointer (some ⟨p1, 0, none⟩))
                refine does_plain rfl fun K Q' hK => ?_
                refine wp_load_row 35 _ rfl p1 (by simp [Act.eval, s13]) _ _ _ _ ((hg.block _ (block_lt BX1.out)).trans BX1.out) Tryd.underlying35 rfl (by rw [objCells_size]; exact oSizeO) ?_
                exact hK _ _ (Grow.refl _) rfl
              · intro w1 hg Ar seen
                have s14 := seen.sl 14 (.pointer (some ⟨p2, 0, none⟩))
                refine does_plain rfl fun K Q' hK => ?_
                refine wp_load_row 35 _ rfl p2 (by simp [Act.eval, s14]) _ _ _ _ ((hg.block _ (block_lt BX2.out)).trans BX2.out) Tryd.underlying35 rfl (by rw [objCells_size]; exact oSizeO) ?_
                exact hK _ _ (Grow.refl _) rfl
              · intro w1 hg Ar seen
                have e5 := seen.de 5 56
                have e6 := seen.de 6 57
                refine does_plain rfl fun K Q' hK => ?_
                go_simp
                refine (same10_any O1 O1 s1 s3 _ (M1.out.below hg) (M2.out.below hg)).mono ?_
                rintro e u ⟨rfl, hb⟩
                exact hK _ _ hb (congrArg Value.bool HSB.out)
              · intro w1 hg Ar seen
                have e4 := seen.de 4 55
                have e7 := seen.de 7 58
                refine does_plain rfl fun K Q' hK => ?_
                go_simp; exact hK _ _ (Grow.refl _) rfl
          intro w1 hg
          refine upon_w' (js := [0, 1, 2, 3, 4, 5, 6, 7, 8]) (by rfl) ?_
          refine upon_e (some 51) (upon_e (some 52) (upon_e (some 53) (upon_e (some 54) (upon_e (some 55) (upon_e (some 56) (upon_e (some 57) (upon_e (some 58) (upon_e (some 59) (upon_n ?_)))))))))
          have hb := hg
          clear hg
          have HB' := hid (HB.out.trans (hb.mono HB.out.size))
          clear HB hb
          have HB := HB'
          clear HB'
          go_simp
          go_wp2_with fail
          go_ret
          exact ⟨rfl, HB.out⟩
        | false =>
          have HSB := hid hsb
          clear hsb
          have hne : (layO O1 == layO O3) = false := by
            rw [beq_eq_false_iff_ne]
            intro h1
            have h2 := lay_inj RA.out RB.out M1.out.dl M2.out.dl h1
            rw [h2, (sameB_iff M2.out.dl M2.out.dl).2 rfl] at HSB
            exact absurd HSB.out (by decide)
          have HNE := hid hne
          clear hne
          go_upto_region 9 with (fail)
          refine wp_region_each 9 [.eq (.slice aA nA cA), .eq (.string ⟨(layO O1).toArray⟩), .eq (.slice aB nB cB), .eq (.string ⟨(layO O3).toArray⟩), .eq (.bool false), .eq (.agg (objCells O1 s1)), .eq (.agg (objCells O3 s3)), .eq (.bool false), .eq (.bool true)] (by kernel_rfl) (by kernel_rfl) (by kernel_rfl) (by kernel_rfl) ?_ ?_
          · all_goals
              refine each_5 ?_ ?_ ?_ ?_ ?_ (each_c ?_ (each_c ?_ (each_c ?_ (each_c ?_ (each_n)))))
              · intro w1 hg Ar seen
                have s15 := seen.sl 15 (.slice aA nA cA)
                refine does_plain rfl fun K Q' hK => ?_
                go_simp; exact hK _ _ (Grow.refl _) rfl
              · intro w1 hg Ar seen
                have e0 := seen.de 0 51
                refine does_plain rfl fun K Q' hK => ?_
                have kc := run_bytes_str (P := Tryd.prog) (DA.out.below hg) cA 22 9 5 Tryd.underlying22 Tryd.underlying5 Tryd.underlying9
                go_simp; exact hK _ _ (Grow.refl _) rfl
              · intro w1 hg Ar seen
                have s17 := seen.sl 17 (.slice aB nB cB)
                refine does_plain rfl fun K Q' hK => ?_
                go_simp; exact hK _ _ (Grow.refl _) rfl
              · intro w1 hg Ar seen
                have e2 := seen.de 2 53
                refine does_plain rfl fun K Q' hK => ?_
                have kc := run_bytes_str (P := Tryd.prog) (DB.out.below hg) cB 22 9 5 Tryd.underlying22 Tryd.underlying5 Tryd.underlying9
                go_simp; exact hK _ _ (Grow.refl _) rfl
              · intro w1 hg Ar seen
                have e1 := seen.de 1 52
                have e3 := seen.de 3 54
                refine does_plain rfl fun K Q' hK => ?_
                have hn := HNE.out
                go_simp; exact hK _ _ (Grow.refl _) rfl
              · intro w1 hg Ar seen
                have s13 := seen.sl 13 (.pointer (some ⟨p1, 0, none⟩))
                refine does_plain rfl fun K Q' hK => ?_
                refine wp_load_row 35 _ rfl p1 (by simp [Act.eval, s13]) _ _ _ _ ((hg.block _ (block_lt BX1.out)).trans BX1.out) Tryd.underlying35 rfl (by rw [objCells_size]; exact oSizeO) ?_
                exact hK _ _ (Grow.refl _) rfl
              · intro w1 hg Ar seen
                have s14 := seen.sl 14 (.pointer (some ⟨p2, 0, none⟩))
                refine does_plain rfl fun K Q' hK => ?_
                refine wp_load_row 35 _ rfl p2 (by simp [Act.eval, s14]) _ _ _ _ ((hg.block _ (block_lt BX2.out)).trans BX2.out) Tryd.underlying35 rfl (by rw [objCells_size]; exact oSizeO) ?_
                exact hK _ _ (Grow.refl _) rfl
              · intro w1 hg Ar seen
                have e5 := seen.de 5 56
                have e6 := seen.de 6 57
                refine does_plain rfl fun K Q' hK => ?_
                go_simp
                refine (same10_any O1 O3 s1 s3 _ (M1.out.below hg) (M2.out.below hg)).mono ?_
                rintro e u ⟨rfl, hb⟩
                exact hK _ _ hb (congrArg Value.bool HSB.out)
              · intro w1 hg Ar seen
                have e4 := seen.de 4 55
                have e7 := seen.de 7 58
                refine does_plain rfl fun K Q' hK => ?_
                go_simp; exact hK _ _ (Grow.refl _) rfl
          intro w1 hg
          refine upon_w' (js := [0, 1, 2, 3, 4, 5, 6, 7, 8]) (by rfl) ?_
          refine upon_e (some 51) (upon_e (some 52) (upon_e (some 53) (upon_e (some 54) (upon_e (some 55) (upon_e (some 56) (upon_e (some 57) (upon_e (some 58) (upon_e (some 59) (upon_n ?_)))))))))
          have hb := hg
          clear hg
          have HB' := hid (HB.out.trans (hb.mono HB.out.size))
          clear HB hb
          have HB := HB'
          clear HB'
          go_simp
          go_wp2_with fail
          go_ret
          exact ⟨rfl, HB.out⟩
end Go.Proofs.YtdlkobmlnpijgaaDoor
