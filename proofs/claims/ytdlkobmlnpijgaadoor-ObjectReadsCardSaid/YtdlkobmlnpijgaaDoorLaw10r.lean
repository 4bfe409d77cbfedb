/- ObjectReads: the walk. -/
import Derived.Test.YtdlkobmlnpijgaaDoorRefRead
import Derived.Test.YtdlkobmlnpijgaaDoorKnown10
import Derived.Test.YtdlkobmlnpijgaaDoorRaw10
import Derived.Test.YtdlkobmlnpijgaaDoorObjBent
import Derived.Test.YtdlkobmlnpijgaaDoorSame2
namespace Go.Proofs.YtdlkobmlnpijgaaDoor
open Go.RowKit
set_option linter.unusedVariables false
set_option linter.unusedSimpArgs false
set_option maxRecDepth 1000000
set_option maxHeartbeats 6400000
/-- Bytes that may be handed on. -/
structure GoodB (w : World) (a : Option Addr) (n c : Nat) (l : List UInt8) : Prop where
  rd : RdB w a n l
  no : a = none → c = 0
  nc : n ≤ c
  lt : ∀ q off sp, a = some ⟨q, off, sp⟩ → q < w.heap.size
  le : n ≤ 140737488355328
theorem GoodB.below {w w' : World} {a : Option Addr} {n c : Nat} {l : List UInt8} (h : GoodB w a n c l) (hb : Below w.heap.size w w') : GoodB w' a n c l :=
  ⟨h.rd.below hb, h.no, h.nc, fun q off sp e => Nat.lt_of_lt_of_le (h.lt q off sp e) hb.size, h.le⟩
theorem GoodB.own {w : World} {base : Nat} {e : TypeId} {a : Option Addr} {n c : Nat} {l : List UInt8} (h : w.ownsRow base e 1 (.slice a n c) n (l.map B8)) (hn : n ≤ 140737488355328) : GoodB w a n c l := by
  obtain ⟨h1, h2, _⟩ := own_slice h
  refine ⟨RdB.of_own h, h2, h1, fun q off sp hq => ?_, hn⟩
  rcases h.2 with ⟨hv, _⟩ | ⟨g, cap, cur, hv, _, hh, _⟩
  · simp only [Value.slice.injEq] at hv
    rw [hv.1] at hq; cases hq
  · simp only [Value.slice.injEq] at hv
    rw [hv.1] at hq
    cases hq
    exact (Array.getElem?_eq_some_iff.1 hh).1
theorem GoodB.take {w : World} {a : Option Addr} {n c k : Nat} {l : List UInt8} (h : GoodB w a n c l) (hk : k ≤ n) : GoodB w a k c (l.take k) :=
  ⟨h.rd.take hk, h.no, Nat.le_trans hk h.nc, h.lt, Nat.le_trans hk h.le⟩
theorem objectReads_walk (x : RawD) (hx : x.ok) (l : List RawD) (aL : Option Addr) (nL cL : Nat) (aR : Option Addr) (nR cR : Nat) (lr : List UInt8) (zh : Int) (hz : -9223372036854775808 ≤ zh ∧ zh ≤ 9223372036854775807) (za : Int) (hza : -9223372036854775808 ≤ za ∧ za ≤ 9223372036854775807) (by_ : UInt8) (w : World) (hl : ArgSl 4 RawR w (.slice aL nL cL) l) (hr : RdB w aR nR lr) (hnone : aR = none → cR = 0) (hnc : nR ≤ cR) (hnr : nR ≤ 140737488355328) (hT : UT w) :
    Calls Tryd.prog 5 #[.agg x.cells, .slice aL nL cL, .slice aR nR cR, .int .i64 zh, .int .i64 za, .int .u8 by_.toNat] w fun e w' => e = .returned (.bool true) ∧ Below w.heap.size w w' := by
  have HLA := hid hl; have HT0 := hid hT; have DR := hid hr
  have HNO := hid hnone
  clear hl hT hr hnone
  go_enter Tryd.func5, Tryd.ntmps5
  go_upto_region 1 with (fail)
  have h1 := block_new w (.cells x.cells 41)
  have hb : Below w.heap.size w (w.alloc (.cells x.cells 41)) := (Below.refl _ _).alloc (Nat.le_refl _) _
  have HB := hid (Below.refl w.heap.size w)
  have HB' := hid (HB.out.trans (hb.mono HB.out.size))
  have HLA' := hid (argSl_below HLA.out hb)
  have DR' := hid (DR.out.below hb)
  clear HB HLA DR
  have HB := HB'
  have HLA := HLA'
  have DR := DR'
  clear HB' HLA' DR'
  have BXR := hid h1
  clear h1 hb
  generalize w.alloc (.cells x.cells 41) = W at *
  go_wp2_with fail
  refine (few_all aR nR cR lr _ DR.out hnc hnr HNO.out).mono ?_
  rintro e ww ⟨aF, cF, rfl, ho, hb⟩
  dsimp only
  have ho2 := hid ho
  have hsz := HB.out.size
  clear DR
  have HB' := hid (HB.out.trans (hb.mono HB.out.size))
  have HLA' := hid (argSl_below HLA.out hb)
  have BXR' := hid ((hb.block _ (block_lt BXR.out)).trans BXR.out)
  clear HB HLA BXR
  have HB := HB'
  have HLA := HLA'
  have BXR := BXR'
  clear HB' HLA' BXR'
  have GB : Hid (GoodB ww aF nR cF lr ∧ Below w.heap.size w ww) := ⟨GoodB.own ho2.out hnr, HB.out⟩
  clear ho ho2 hb hsz
  go_upto_if 26 with (fail)
  go_cut [13] (fun v wx => ∃ a n c l, v = .slice a n c ∧ GoodB wx a n c l ∧ Below w.heap.size w wx)
  case first =>
    by_cases hh : 0 < zh.tmod 5
    · have hw5 : IntKind.i64.wrap (zh.tmod 5) = zh.tmod 5 := by
        have h1 := Int.lt_tmod_of_pos zh (show (0 : Int) < 5 by omega)
        have h2 := Int.tmod_lt_of_pos zh (show (0 : Int) < 5 by omega)
        exact IntWalk.i64_in _ (by omega)
      go_wp2_with (refine wpList_load_row rfl 41 _ rfl w.heap.size rfl _ _ _ _ BXR.out Tryd.underlying41 rfl (by kernel_rfl) ?_)
      refine (object_any x hx l aL nL cL _ HLA.out).mono ?_
      rintro e ww ⟨s1, rfl, hm, hf, hb⟩
      dsimp only
      have HB' := hid (HB.out.trans (hb.mono HB.out.size))
      have HLA' := hid (argSl_below HLA.out hb)
      have BXR' := hid ((hb.block _ (block_lt BXR.out)).trans BXR.out)
      clear HB HLA BXR
      have HB := HB'
      have HLA := HLA'
      have BXR := BXR'
      clear HB' HLA' BXR'
      have HRO := hid (objRaw_right x l)
      have M1 := hid hm
      clear hm hf hb hw5 hh GB
      generalize objRaw x l = O1 at *
      clear HLA BXR
      go_wp2_with fail
      refine (rlay_any O1 _ _ M1.out (HT0.out.below HB.out)).mono ?_
      rintro e ww ⟨hb, hcase⟩
      obtain ⟨aA, nA, cA, rfl, ho⟩ : ∃ a n c, e = .returned (.tuple #[.slice a n c, .int .i64 0]) ∧ ww.ownsRow _ _ 1 (.slice a n c) n ((layO O1).map B8) := by
        rcases hcase with ⟨h, _⟩ | ⟨_, h⟩
        · rw [HRO.out] at h; cases h
        · exact h
      dsimp only
      have hsm := layO_small HRO.out M1.out.dl
      have HB' := hid (HB.out.trans (hb.mono HB.out.size))
      have M1' := hid (M1.out.below hb)
      clear HB M1
      have HB := HB'
      have M1 := M1'
      clear HB' M1'
      clear hb hcase
      have hnA : nA ≤ 65535 := by have h1 := ho.1; simp at h1; omega
      have HNA := hid hnA
      obtain ⟨hncA, hnoA, _⟩ := own_slice ho
      have DA := hid (RdB.of_own ho)
      clear ho hsm
      generalize layO O1 = lo at *
      clear M1
      clear HRO
      go_wp2_with fail
      obtain ⟨zb, hzb⟩ : ∃ z, z = ww.heap.size := ⟨_, rfl⟩
      have HBS : Hid (w.heap.size ≤ zb) := by show _ ≤ _; rw [hzb]; exact HB.out.size
      refine (few_all aA nA cA lo _ DA.out hncA (by omega) hnoA).mono ?_
      rintro e ww ⟨aD, cD, rfl, ho, hb⟩
      dsimp only
      have HGS := hid hb.size
      rw [← hzb] at HGS ho
      clear hzb
      clear DA
      have HB' := hid (HB.out.trans (hb.mono HB.out.size))
      clear HB
      have HB := HB'
      clear HB'
      clear hnoA hncA
      clear hb
      have HO := hid ho
      clear ho
      go_wp2_with fail
      refine (pick_any zh 4 _ (by omega) (by omega)).mono ?_
      rintro e wz ⟨rfl, rfl⟩
      dsimp only
      have hp0 := pick_lo zh 4 (by omega)
      have hp1 := pick_hi zh 4 (by omega)
      generalize pick zh 4 = z4 at *
      by_cases h4 : z4 = 0
      · subst h4
        by_cases h0 : 0 < nA
        · obtain ⟨_, _, h3g⟩ := own_slice HO.out
          obtain ⟨g, rfl, hg1, hg2⟩ := h3g (by omega)
          have h0i : (0 : Int) < (nA : Int) := by omega
          go_wp2_with fail
          refine (pick_any za nA _ (by omega) (by omega)).mono ?_
          rintro e wz ⟨rfl, rfl⟩
          dsimp only
          have hlo := pick_lo za nA (by omega)
          have hhi := pick_hi za nA (by omega)
          generalize pick za nA = z at *
          obtain ⟨i, rfl⟩ := Int.eq_ofNat_of_zero_le hlo
          have hi : i < nA := by omega
          have hcell := ownB_cell HO.out i hi
          have hfz := HO.out.frozenAt i
          have HS := hid (ownB_set HO.out i (lo.getD i 0 ^^^ by_))
          have HX := hid (bits_xor8 (lo.getD i 0) by_)
          have HCB := hid (HB.out.setCell (p := ⟨g, i, none⟩) (by have := HBS.out; show _ ≤ g; omega) (B8 (lo.getD i 0 ^^^ by_)))
          unfold B8 at hcell
          generalize lo.getD i 0 = xx at *
          go_wp2_with fail
          go_meet
          rw [HX.out]
          exact ⟨_, _, _, _, rfl, GoodB.own HS.out (by have := HNA.out; omega), HCB.out⟩
        · obtain rfl : nA = 0 := by omega
          go_wp2_with fail
          go_meet
          exact ⟨_, _, _, _, rfl, GoodB.own HO.out (by omega), HB.out⟩
      by_cases h5 : z4 = 1
      · subst h5
        have hsl := fun k hk w => run_slice_front (P := Tryd.prog) 22 5 1 Tryd.underlying22 (fun w => by kernel_rfl) aD nA cD k hk w
        have hn1 : (nA : Int) + 1 ≤ 9223372036854775807 := by omega
        go_wp2_with fail
        refine (pick_any za ((nA : Int) + 1) _ (by omega) (by omega)).mono ?_
        rintro e wz ⟨rfl, rfl⟩
        dsimp only
        have hlo := pick_lo za ((nA : Int) + 1) (by omega)
        have hhi := pick_hi za ((nA : Int) + 1) (by omega)
        generalize pick za ((nA : Int) + 1) = z at *
        obtain ⟨i, rfl⟩ := Int.eq_ofNat_of_zero_le hlo
        have hi : i ≤ nA := by omega
        have hncD := (own_slice HO.out).1
        have hsk := fun w => hsl i (by omega) w
        clear hsl
        go_wp2_with fail
        go_meet
        exact ⟨_, _, _, _, rfl, (GoodB.own HO.out (by have := HNA.out; omega)).take hi, HB.out⟩
      by_cases h6 : z4 = 2
      · subst h6
        obtain ⟨i, hi, hz0, hz1, hz2⟩ := info_parts infoB
        go_wp2_with (first | (at_builtin; go_must (refine wpList_append_bytes rfl _ _ 22 rfl _ 5 i _ Tryd.underlying22 hi hz0 hz1 hz2 rfl _ nA lo rfl (((Chg.refl [] _).alloc _).owns HO.out (fun k _ hm => by cases hm)) _ 1 1 [by_] rfl (RdB.new _ [by_] _ _ _ rfl 1 rfl _ rfl) (fun h => by cases h) (by have := HNA.out; omega) (by simp; have := HGS.out; omega) ?_); intro a' c' w3 hown hgw; have HO3 := hid hown; have HG3 := hid hgw; clear hown hgw) | (refine wpList_buildSlice rfl 22 5 1 _ rfl #[.int .u8 by_.toNat] i _ Tryd.underlying22 hi hz0 (by rw [hz1]; decide) (by rw [hz1]; decide) (by rw [hz1]; kernel_rfl) ?_))
        go_meet
        exact ⟨_, _, _, _, rfl, GoodB.own HO3.out (by have := HNA.out; omega), ((HB.out.alloc (Nat.le_trans HBS.out HGS.out) _).grown HG3.out (by simp; have := HBS.out; have := HGS.out; omega) (fun q hq => Nat.le_trans HBS.out (HO.out.lt q hq).1))⟩
      have hz4 : (z4 == 0) = false := beq_eq_false_iff_ne.2 h4
      have hz5 : (z4 == 1) = false := beq_eq_false_iff_ne.2 h5
      have hz6 : (z4 == 2) = false := beq_eq_false_iff_ne.2 h6
      go_wp2_with fail
      go_meet
      exact ⟨_, _, _, _, rfl, GoodB.own HO.out (by have := HNA.out; omega), HB.out⟩
    · have hw5 : IntKind.i64.wrap (zh.tmod 5) = zh.tmod 5 := by
        have h1 := Int.lt_tmod_of_pos zh (show (0 : Int) < 5 by omega)
        have h2 := Int.tmod_lt_of_pos zh (show (0 : Int) < 5 by omega)
        exact IntWalk.i64_in _ (by omega)
      have hh2 : zh.tmod 5 ≤ 0 := by omega
      go_wp2_with fail
      go_meet
      exact ⟨_, _, _, _, rfl, GB.out.1, GB.out.2⟩
  case rest =>
    obtain ⟨ab, nb, cb, lb, rfl, hg, hb⟩ := hcut
    clear HB HLA BXR GB
    have HG := hid hg; have HB := hid hb
    clear hg hb
    go_wp2_with fail
    refine (read10_any ab nb cb lb _ HG.out.rd HG.out.no HG.out.le (HT0.out.below HB.out)).mono ?_
    rintro e ww ⟨hb, P, sp, hm, hf, hcase⟩
    have HB' := hid (HB.out.trans (hb.mono HB.out.size))
    have HG' := hid (HG.out.below hb)
    clear HB HG
    have HB := HB'
    have HG := HG'
    clear HB' HG'
    clear hb hf
    have MP := hid hm
    clear hm
    obtain ⟨ep, rfl, HP⟩ : ∃ ep, e = .returned (.tuple #[.agg (objCells P sp), .int .i64 ep]) ∧ Hid ((IsObj lb P ∧ ep = 0) ∨ ((∀ Q, ¬ IsObj lb Q) ∧ P = zObj ∧ ep = 5)) := by
      rcases hcase with ⟨h1, h2⟩ | ⟨h1, h2, h3, h4⟩
      · exact ⟨0, h2, .inl ⟨h1, rfl⟩⟩
      · exact ⟨5, by rw [h4, h2, h3], .inr ⟨h1, h2, rfl⟩⟩
    clear hcase
    go_upto_region 15 with (first | (refine wpList_alloc_obj rfl 35 rfl _ oZeroO ?_) | (refine wpList_store_obj rfl 35 _ _ rfl _ rfl _ rfl _ _ (block_new _ _) rfl (by rw [objCells_size]; exact oSizeO) (oc_one _ _) ?_; intro w6 hb6 hc6 hs6; have HB6 := hid hb6; have HC6 := hid hc6; clear hb6 hc6 hs6))
    have hb : Below ww.heap.size ww w6 := ((Below.refl _ _).alloc (Nat.le_refl _) _).trans (HC6.out.below (fun k hk => by rw [List.mem_singleton.1 hk]; exact Nat.le_refl _) (by simp))
    have HB' := hid (HB.out.trans (hb.mono HB.out.size))
    have HG' := hid (HG.out.below hb)
    have MP' := hid (MP.out.below hb)
    clear HB HG MP
    have HB := HB'
    have HG := HG'
    have MP := MP'
    clear HB' HG' MP'
    have BP := HB6
    have p1LT : Hid (ww.heap.size < w6.heap.size) := block_lt HB6.out
    clear HB6 HC6 hb
    obtain ⟨p1, hp1⟩ : ∃ q, q = ww.heap.size := ⟨_, rfl⟩
    rw [← hp1] at BP p1LT ⊢
    have Hp1 := hid hp1
    clear hp1
    clear Hp1 p1LT
    go_wp2_with fail
    refine (refread_any ab nb cb lb _ HG.out.rd HG.out.no HG.out.nc HG.out.lt HG.out.le (HT0.out.below HB.out)).mono ?_
    rintro e ww ⟨hb, Q, sq, hm, hf, hcase⟩
    have HB' := hid (HB.out.trans (hb.mono HB.out.size))
    have HG' := hid (HG.out.below hb)
    have MP' := hid (MP.out.below hb)
    have BP' := hid ((hb.block _ (block_lt BP.out)).trans BP.out)
    clear HB HG MP BP
    have HB := HB'
    have HG := HG'
    have MP := MP'
    have BP := BP'
    clear HB' HG' MP' BP'
    clear hb hf
    have MQ := hid hm
    clear hm
    obtain ⟨rfl, rfl⟩ : Q = P ∧ e = .returned (.tuple #[.agg (objCells P sq), .int .i64 ep]) := by
      rcases hcase with ⟨h1, h2⟩ | ⟨h1, h2, h3, h4⟩
      · rcases HP.out with ⟨h5, h6⟩ | ⟨h5, -⟩
        · obtain rfl := isObj_one h1 h5
          exact ⟨rfl, by rw [h2, h6]⟩
        · exact (h5 Q h1).elim
      · rcases HP.out with ⟨h5, h6⟩ | ⟨-, h5, h6⟩
        · exact (h1 P h5).elim
        · subst h5; subst h2; exact ⟨rfl, by rw [h4, h3, h6]⟩
    clear hcase HP
    clear HG
    go_upto_region 16 with (first | (refine wpList_alloc_obj rfl 35 rfl _ oZeroO ?_) | (refine wpList_store_obj rfl 35 _ _ rfl _ rfl _ rfl _ _ (block_new _ _) rfl (by rw [objCells_size]; exact oSizeO) (oc_one _ _) ?_; intro w6 hb6 hc6 hs6; have HB6 := hid hb6; have HC6 := hid hc6; clear hb6 hc6 hs6))
    have hb : Below ww.heap.size ww w6 := ((Below.refl _ _).alloc (Nat.le_refl _) _).trans (HC6.out.below (fun k hk => by rw [List.mem_singleton.1 hk]; exact Nat.le_refl _) (by simp))
    have HB' := hid (HB.out.trans (hb.mono HB.out.size))
    have MP' := hid (MP.out.below hb)
    have BP' := hid ((hb.block _ (block_lt BP.out)).trans BP.out)
    have MQ' := hid (MQ.out.below hb)
    clear HB MP BP MQ
    have HB := HB'
    have MP := MP'
    have BP := BP'
    have MQ := MQ'
    clear HB' MP' BP' MQ'
    have BQ := HB6
    have p2LT : Hid (ww.heap.size < w6.heap.size) := block_lt HB6.out
    clear HB6 HC6 hb
    obtain ⟨p2, hp2⟩ : ∃ q, q = ww.heap.size := ⟨_, rfl⟩
    rw [← hp2] at BQ p2LT ⊢
    have Hp2 := hid hp2
    clear hp2
    clear Hp2 p2LT
    go_wp2_with fail
    refine (known10_any _ (HT0.out.below HB.out)).mono ?_
    rintro e ww ⟨rfl, hb⟩
    dsimp only
    have HB' := hid (HB.out.trans (hb.mono HB.out.size))
    have MP' := hid (MP.out.below hb)
    have BP' := hid ((hb.block _ (block_lt BP.out)).trans BP.out)
    have MQ' := hid (MQ.out.below hb)
    have BQ' := hid ((hb.block _ (block_lt BQ.out)).trans BQ.out)
    clear HB MP BP MQ BQ
    have HB := HB'
    have MP := MP'
    have BP := BP'
    have MQ := MQ'
    have BQ := BQ'
    clear HB' MP' BP' MQ' BQ'
    clear hb
    go_wp2_with (first | (refine wpList_load_on' 35 _ rfl (by kernel_rfl) p1 rfl _ _ _ _ BP.out Tryd.underlying35 rfl (by rw [objCells_size]; exact oSizeO) ?_) | (refine wpList_load_on' 35 _ rfl (by kernel_rfl) p2 rfl _ _ _ _ BQ.out Tryd.underlying35 rfl (by rw [objCells_size]; exact oSizeO) ?_))
    refine (same_any _ _ _ _ MP.out MQ.out).mono ?_
    rintro e ww ⟨rfl, hb⟩
    dsimp only
    have HB' := hid (HB.out.trans (hb.mono HB.out.size))
    have MP' := hid (MP.out.below hb)
    have BP' := hid ((hb.block _ (block_lt BP.out)).trans BP.out)
    have MQ' := hid (MQ.out.below hb)
    have BQ' := hid ((hb.block _ (block_lt BQ.out)).trans BQ.out)
    clear HB MP BP MQ BQ
    have HB := HB'
    have MP := MP'
    have BP := BP'
    have MQ := MQ'
    have BQ := BQ'
    clear HB' MP' BP' MQ' BQ'
    clear hb
    go_wp2_with fail
    go_ret
    exact ⟨rfl, HB.out⟩
end Go.Proofs.YtdlkobmlnpijgaaDoor
