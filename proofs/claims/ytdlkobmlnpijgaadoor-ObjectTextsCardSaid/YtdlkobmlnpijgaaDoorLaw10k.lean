/- ObjectKnown, ObjectTexts: the walks. -/
import Derived.Test.YtdlkobmlnpijgaaDoorKnown10
import Derived.Test.YtdlkobmlnpijgaaDoorHand
import Derived.Test.YtdlkobmlnpijgaaDoorUtTab
import Derived.Deep.DeepCutAuto
import Derived.Deep.CutBlock
namespace Go.Proofs.YtdlkobmlnpijgaaDoor
open Go.RowKit
set_option linter.unusedVariables false
set_option linter.unusedSimpArgs false
set_option maxRecDepth 1000000
set_option maxHeartbeats 6400000
theorem zero_wrong : rightO zObj = false := by kernel_rfl
theorem none_read : (q15 false ([], false)).2.2 = true := by kernel_rfl
theorem none_is : ∀ P, ¬ IsObj [] P := read_lack (ref := false) none_read
/-- A made row, behind a guard that says yes. -/
theorem make_on {P : Program} {w : World} {ops : Array Oper} {rest : List Oper} {o : Oper} {a : Act} {Q : Exit → Act → World → Prop} (l c : Operand) (t : TypeId) (hop : o.op = Op.makeSlice t l c) (hgd : Region.wanted o (yielded ops a.tmps) = true)
    (base : Nat) (e : TypeId) (i : TypeInfo) (z : Value) (size : Nat) (h1 : P.underlying t = some (.slice e)) (h2 : P.info? e = some i) (h3 : i.zero = some z) (h4 : i.size = size)
    (n : Nat) (hl : a.eval l = .int .i64 (n : Int)) (hc : a.eval c = .int .i64 (n : Int)) (b2 : i.bytes * n ≤ 281474976710656) (b3 : n ≤ maxLen) (b4 : base ≤ w.heap.size)
    (hK : ∀ w', w'.ownsRow base e size (.slice (some ⟨w.heap.size, 0, none⟩) n n) n (madeCells z.cells (n * size)).toList → w.grownBy w' none → wpList P ops Q rest (a.put o.dst (.slice (some ⟨w.heap.size, 0, none⟩) n n)) w') :
    wpList P ops Q (o :: rest) a w := by
  refine wpList_step fun K hK' => ?_
  rw [if_pos hgd]
  obtain ⟨w', hrun, r1, r2⟩ := run_make_full (P := P) w base t e i z size h1 h2 h3 h4 .i64 .i64 n b2 b3 b4
  unfold Oper.wp
  simp [execOp, hop, hl, hc, hrun, Result.andThen]
  exact hK' _ _ (hK w' r1 r2)
theorem objectTexts_walk (s0 : ByteArray) (n1 : Int) (hn : -9223372036854775808 ≤ n1 ∧ n1 ≤ 9223372036854775807) (b2 : Bool) (w : World) (hT : UT w) :
    Calls Tryd.prog 7 #[.string s0, .int .i64 n1, .bool b2] w fun e w' => e = .returned (.bool true) ∧ Below w.heap.size w w' := by
  obtain ⟨i, hi, hz0, hz1, hz2⟩ := info_parts infoB
  have HT := hid hT
  clear hT
  generalize hW : w = W
  have hb0 : Below w.heap.size w W := by rw [← hW]; exact Below.refl _ _
  rw [hW] at HT hb0
  have HB := hid hb0
  clear hW hb0
  go_enter Tryd.func7, Tryd.ntmps7
  go_upto_if 7 with (fail)
  go_cut [0] (fun x wx => ∃ s, x = .string s ∧ Below W.heap.size W wx)
  case first =>
    cases b2 with
    | false =>
      go_wp2_with fail
      go_meet
      exact ⟨_, rfl, Below.refl _ _⟩
    | true =>
      go_wp2_with fail
      refine (pick_any n1 12 _ (by omega) (by omega)).mono ?_
      rintro e u ⟨rfl, rfl⟩
      dsimp only
      have hp := pick_lo n1 12 (by omega)
      have hp2 := pick_hi n1 12 (by omega)
      generalize pick n1 12 = z at *
      obtain ⟨k, rfl⟩ := Int.eq_ofNat_of_zero_le hp
      obtain ⟨m, hm⟩ : ∃ m : Nat, m = 110 + k := ⟨_, rfl⟩
      have hs : IntKind.i64.wrap (110 + (k : Int)) = (m : Int) := by rw [IntWalk.i64_in _ (by omega)]; omega
      have hmm : m ≤ 121 := by omega
      clear hm hp hp2
      go_wp2_with (at_make; refine wpList_make_full _ rfl _ _ 22 rfl W.heap.size 5 i _ 1 Tryd.underlying22 hi hz0 hz1 .i64 .i64 _ _ m rfl rfl rfl rfl (by rw [hz2]; omega) (by unfold maxLen; omega) (Nat.le_refl _) ?_; intro w1 hown hg; rw [made_bytes] at hown; have kc := run_bytes_str (P := Tryd.prog) (RdB.of_own hown) m 22 9 5 Tryd.underlying22 Tryd.underlying5 Tryd.underlying9; have HB1 : Hid (Below W.heap.size W w1) := (Below.refl _ _).grown hg (Nat.le_refl _) (fun k h => by cases h); clear hown hg)
      go_meet
      exact ⟨_, rfl, HB1.out⟩
  case rest =>
    obtain ⟨s, rfl, hb⟩ := hcut
    have HT1 := hid (HT.out.below hb)
    have HB1 := hid hb
    clear hb HT HB hi hz0 hz1 hz2
    go_wp2_with fail
    refine (known10_any _ HT1.out).mono ?_
    rintro e w2 ⟨rfl, hb⟩
    dsimp only
    have HT2 := hid (HT1.out.below hb); have HB2 := hid (HB1.out.trans (hb.mono HB1.out.size))
    clear hb HT1 HB1
    go_wp2_with fail
    refine (isText_any s _ HT2.out).mono ?_
    rintro e w3 ⟨rfl, hb⟩
    dsimp only
    have HT3 := hid (HT2.out.below hb); have HB3 := hid (HB2.out.trans (hb.mono HB2.out.size))
    clear hb HT2 HB2
    go_wp2_with fail
    refine (risText_any s _ HT3.out).mono ?_
    rintro e w4 ⟨rfl, hb⟩
    dsimp only
    have HT4 := hid (HT3.out.below hb); have HB4 := hid (HB3.out.trans (hb.mono HB3.out.size))
    clear hb HT3 HB3
    generalize isT s = t1
    go_wp2_with fail
    refine (isCustom_any s _ HT4.out).mono ?_
    rintro e w5 ⟨rfl, hb⟩
    dsimp only
    have HT5 := hid (HT4.out.below hb); have HB5 := hid (HB4.out.trans (hb.mono HB4.out.size))
    clear hb HT4 HB4
    go_wp2_with fail
    refine (risCustom_any s _ HT5.out).mono ?_
    rintro e w6 ⟨rfl, hb⟩
    dsimp only
    have HB6 := hid (HB5.out.trans (hb.mono HB5.out.size))
    clear hb HT5 HB5
    generalize isC s = t2
    go_wp2_with fail
    go_ret
    exact ⟨rfl, HB6.out⟩
theorem objectKnown_walk (w : World) (hT : UT w) : Calls Tryd.prog 3 #[] w fun e w' => e = .returned (.bool true) ∧ Below w.heap.size w w' := by
  obtain ⟨i, hi, hz0, hz1, hz2⟩ := info_parts infoB
  have HT0 := hid hT
  clear hT
  have HB0 := hid (Below.refl w.heap.size w)
  go_enter Tryd.func3, Tryd.ntmps3
  go_wp2_with (refine wpList_build_obj rfl 35 _ rfl #[] (by simp [Act.eval]) _ (buildZO _) ?_)
  refine (lay10_any zObj zObjV w (ObjM.zero w) HT0.out).mono ?_
  rintro e w1 ⟨hb, hcase⟩
  obtain rfl : e = .returned (.tuple #[.slice none 0 0, .int .i64 1]) := by
    rcases hcase with ⟨_, h⟩ | ⟨h, _⟩
    · exact h
    · rw [zero_wrong] at h; cases h
  have HT1 := hid (HT0.out.below hb); have HB1 := hid (HB0.out.trans (hb.mono HB0.out.size))
  clear hb hcase HT0 HB0
  go_wp2_with fail
  refine (read10_any none 0 0 [] w1 (RdB.nil _ _) (fun _ => rfl) (by decide) HT1.out).mono ?_
  rintro e w2 ⟨hb, P, s', hm, hf, hcase⟩
  obtain ⟨rfl, rfl, rfl⟩ : P = zObj ∧ s' = zObjV ∧ e = .returned (.tuple #[.agg (objCells zObj zObjV), .int .i64 5]) := by
    rcases hcase with ⟨h, _⟩ | ⟨_, h⟩
    · exact (none_is _ h).elim
    · exact h
  have HT2 := hid (HT1.out.below hb); have HB2 := hid (HB1.out.trans (hb.mono HB1.out.size))
  clear hb hcase HT1 HB1 hm hf
  go_upto_region 3 with (first | (refine wpList_alloc_obj rfl 35 rfl _ oZeroO ?_) | (refine wpList_store_obj rfl 35 _ _ rfl _ rfl _ rfl _ _ (block_new _ _) rfl (by rw [objCells_size]; exact oSizeO) (oc_one _ _) ?_; intro w9 hb9 hc9 hs9; have HBB := hid hb9; have HCC := hid hc9; clear hb9 hc9 hs9))
  have hb9 : Below w2.heap.size w2 w9 := ((Below.refl _ _).alloc (Nat.le_refl _) _).trans (HCC.out.below (fun k hk => by rw [List.mem_singleton.1 hk]; exact Nat.le_refl _) (by simp))
  have HT3 := hid (HT2.out.below hb9); have HB3 := hid (HB2.out.trans (hb9.mono HB2.out.size))
  clear hb9 HCC HBB HT2 HB2
  go_wp2_with fail
  refine (known10_any _ HT3.out).mono ?_
  rintro e w10 ⟨rfl, hb⟩
  dsimp only
  have HT4 := hid (HT3.out.below hb); have HB4 := hid (HB3.out.trans (hb.mono HB3.out.size))
  clear hb HT3 HB3
  go_wp2_with fail
  refine (isText_any ⟨#[97]⟩ _ HT4.out).mono ?_
  rintro e w14 ⟨rfl, hb⟩
  dsimp only
  rw [show isT ⟨#[97]⟩ = true by kernel_rfl]
  have HT5 := hid (HT4.out.below hb); have HB5 := hid (HB4.out.trans (hb.mono HB4.out.size))
  clear hb HT4 HB4
  go_wp2_with fail
  refine (isText_any ⟨#[]⟩ _ HT5.out).mono ?_
  rintro e w15 ⟨rfl, hb⟩
  dsimp only
  rw [show isT ⟨#[]⟩ = false by kernel_rfl]
  have HT6 := hid (HT5.out.below hb); have HB6 := hid (HB5.out.trans (hb.mono HB5.out.size))
  clear hb HT5 HB5
  go_wp2_with fail
  refine (isText_any ⟨#[255]⟩ _ HT6.out).mono ?_
  rintro e w16 ⟨rfl, hb⟩
  dsimp only
  rw [show isT ⟨#[255]⟩ = false by kernel_rfl]
  have HT7 := hid (HT6.out.below hb); have HB7 := hid (HB6.out.trans (hb.mono HB6.out.size))
  clear hb HT6 HB6
  go_wp2_with fail
  refine (isCustom_any ⟨#[120, 45]⟩ _ HT7.out).mono ?_
  rintro e w17 ⟨rfl, hb⟩
  dsimp only
  rw [show isC ⟨#[120, 45]⟩ = true by kernel_rfl]
  have HT8 := hid (HT7.out.below hb); have HB8 := hid (HB7.out.trans (hb.mono HB7.out.size))
  clear hb HT7 HB7
  go_wp2_with fail
  refine (isCustom_any ⟨#[120, 45, 97]⟩ _ HT8.out).mono ?_
  rintro e w18 ⟨rfl, hb⟩
  dsimp only
  rw [show isC ⟨#[120, 45, 97]⟩ = true by kernel_rfl]
  have HT9 := hid (HT8.out.below hb); have HB9 := hid (HB8.out.trans (hb.mono HB8.out.size))
  clear hb HT8 HB8
  go_wp2_with fail
  refine (isCustom_any ⟨#[121, 45, 97]⟩ _ HT9.out).mono ?_
  rintro e w19 ⟨rfl, hb⟩
  dsimp only
  rw [show isC ⟨#[121, 45, 97]⟩ = false by kernel_rfl]
  have HT10 := hid (HT9.out.below hb); have HB10 := hid (HB9.out.trans (hb.mono HB9.out.size))
  clear hb HT9 HB9
  generalize w19 = W at *
  go_wp2_with (refine make_on _ _ 22 rfl (by kernel_rfl) W.heap.size 5 i _ 1 Tryd.underlying22 hi hz0 hz1 121 rfl rfl (by rw [hz2]; omega) (by unfold maxLen; omega) (Nat.le_refl _) ?_; intro w1 hown hg; rw [made_bytes] at hown; have kc := run_bytes_str (P := Tryd.prog) (RdB.of_own hown) 121 22 9 5 Tryd.underlying22 Tryd.underlying5 Tryd.underlying9; obtain ⟨sx, hsx⟩ : ∃ s : ByteArray, s = ⟨(List.replicate 121 (0 : UInt8)).toArray⟩ := ⟨_, rfl⟩; rw [← hsx] at kc; have HSX := hid hsx; clear hsx; have HBM : Hid (Below W.heap.size W w1) := (Below.refl _ _).grown hg (Nat.le_refl _) (fun k h => by cases h); clear hown hg)
  refine (isText_any sx _ (HT10.out.below HBM.out)).mono ?_
  rintro e w9 ⟨rfl, hb⟩
  dsimp only
  have hlong : isT sx = false := by
    rw [HSX.out]
    exact isT_long (by show 120 < (List.replicate 121 (0 : UInt8)).toArray.size; simp)
  rw [hlong]
  have HB11 := hid ((HB10.out.trans (HBM.out.mono HB10.out.size)).trans (hb.mono (Nat.le_trans HB10.out.size HBM.out.size)))
  clear hb
  go_wp2_with fail
  go_ret
  exact ⟨rfl, HB11.out⟩
end Go.Proofs.YtdlkobmlnpijgaaDoor
