/- TtlvSame's walk. -/
import Derived.Test.YtmpajhacigjloaaDoorTree6
import Derived.Test.YtmpajhacigjloaaDoorTtlS
namespace Go.Proofs.YtmpajhacigjloaaDoor
open Go.RowKit
set_option linter.unusedVariables false
set_option linter.unusedSimpArgs false
set_option maxRecDepth 1000000
set_option maxHeartbeats 3200000
/-- The first kid of a tag: where it stands, or -1. -/
def ixK (T : Int) : List ItV → Int → Int
  | [], _ => -1
  | x :: l, k => if x.tag = T then k else ixK T l (k + 1)
theorem ixK_find (T : Int) : ∀ (l : List ItV) (k : Nat), (l.find? (fun x => x.tag == T) = none → ixK T l k = -1) ∧ (∀ x, l.find? (fun x => x.tag == T) = some x → ∃ j, l[j]? = some x ∧ ixK T l k = ((k + j : Nat) : Int))
  | [], k => ⟨fun _ => rfl, fun x h => by cases h⟩
  | y :: l, k => by
    obtain ⟨h1, h2⟩ := ixK_find T l (k + 1)
    by_cases hy : y.tag = T
    · have e : (y :: l).find? (fun x => x.tag == T) = some y := by simp [hy]
      rw [e]
      refine ⟨fun h => (by cases h), fun x hx => ⟨0, by simpa using hx, ?_⟩⟩
      rw [ixK, if_pos hy]; simp
    · have e : (y :: l).find? (fun x => x.tag == T) = l.find? (fun x => x.tag == T) := by simp [hy]
      rw [e, ixK, if_neg hy]
      refine ⟨h1, fun x hx => ?_⟩
      obtain ⟨j, h3, h4⟩ := h2 x hx
      exact ⟨j + 1, by simpa using h3, by rw [show ((k : Int) + 1) = ((k + 1 : Nat) : Int) by omega, h4]; omega⟩
structure IxSt (T : Int) (v1 : ItV) (w0 : World) (y13 y14 : Value) (wr : World) : Prop where
  ex : ∃ m : Nat, m ≤ v1.kids.length ∧ y14 = .int .i64 ((m : Int) - 1) ∧ y13 = .int .i64 (ixK T (v1.kids.drop m) m) ∧ wr = w0
theorem ttlvSame_walk (aL : Option Addr) (nL cL : Nat) (l : List R6) (aM : Option Addr) (nM cM : Nat) (m : List R6) (zt : Int) (near : Bool) (w : World) (hal : R6Args w aL nL l) (ham : R6Args w aM nM m) (hT : UT w) :
    Calls Tryd.prog 8 #[.slice aL nL cL, .slice aM nM cM, .int .i64 zt, .bool near] w fun e w' => e = .returned (.bool true) ∧ Below w.heap.size w w' := by
  have HAL := hid hal; have HAM := hid ham; have HT := hid hT
  clear hal ham hT
  go_enter Tryd.func8, Tryd.ntmps8
  go_wp2_with fail
  refine (tree_any aL nL cL l 30 0 w (by decide) HAL.out).mono ?_
  rintro e w2 ⟨hb, v1, rfl, hv1, ho1, hf1⟩
  dsimp only
  have HB := hid hb; have HO := hid ho1
  clear hb hv1 ho1 hf1
  go_upto_region 2 with (first | (refine wpList_alloc_obj rfl 29 rfl _ iZero ?_) | (refine wpList_store_obj rfl 29 _ _ rfl w2.heap.size rfl _ rfl _ _ (block_new w2 _) rfl iSize (arr_one v1) ?_; intro w3 hb5 hc5 hs5; have HK := hid hb5; have HC5 := hid hc5; clear hb5 hc5 hs5))
  have hbel : Below w2.heap.size w2 w3 := ((Below.refl _ w2).alloc (Nat.le_refl _) _).trans (HC5.out.below (fun k hk => by rw [List.mem_singleton.1 hk]; exact Nat.le_refl _) (by simp))
  have HB3 := hid (HB.out.trans (Below.mono hbel HB.out.size))
  have HO3 := hid (HO.out.below hbel)
  have HWB := hid HB.out.size
  clear hbel HC5 HB HO
  generalize w2.heap.size = b1 at *
  go_wp2_with fail
  refine (tree_any aM nM cM m 30 0 w3 (by decide) (HAM.out.below HB3.out)).mono ?_
  rintro e w4 ⟨hb, v2, rfl, hv2, ho2, hf2⟩
  dsimp only
  have HB4 := hid (HB3.out.trans (Below.mono hb HB3.out.size)); have HP := hid ho2
  have HO4 := hid (HO3.out.below hb)
  have HK4 := hid ((hb.block _ (block_lt HK.out)).trans HK.out)
  clear hb hv2 ho2 hf2 HB3 HO3 HK HAM
  go_upto_region 3 with (first | (refine wpList_alloc_obj rfl 29 rfl _ iZero ?_) | (refine wpList_store_obj rfl 29 _ _ rfl w4.heap.size rfl _ rfl _ _ (block_new w4 _) rfl iSize (arr_one v2) ?_; intro w5 hb5 hc5 hs5; have HL := hid hb5; have HC5 := hid hc5; clear hb5 hc5 hs5))
  have hbel : Below w4.heap.size w4 w5 := ((Below.refl _ w4).alloc (Nat.le_refl _) _).trans (HC5.out.below (fun k hk => by rw [List.mem_singleton.1 hk]; exact Nat.le_refl _) (by simp))
  have HB5 := hid (HB4.out.trans (Below.mono hbel HB4.out.size))
  have HO5 := hid (HO4.out.below hbel)
  have HP5 := hid (HP.out.below hbel)
  have HK5 := hid ((hbel.block _ (block_lt HK4.out)).trans HK4.out)
  have HBB : Hid (b1 < w4.heap.size) := block_lt HK4.out
  have HWC := hid HB4.out.size
  have HFT : Hid ((∀ k ∈ v1.foot, k < w4.heap.size)) := HO4.out.lt
  clear hbel HC5 HB4 HO4 HP HK4
  generalize w4.heap.size = b2 at *
  go_simp
  go_upto_if 19 with (fail)
  go_cut [19] (fun _ wc => ∃ v2 : ItV, Below w.heap.size w wc ∧ wc.heap[b1]? = some (.cells v1.arr 29 (0, 0)) ∧ wc.heap[b2]? = some (.cells v2.arr 29 (0, 0)) ∧ v1.ok wc ∧ v2.ok wc)
  case first =>
    cases near with
    | false =>
      go_wp2_with fail
      go_meet
      exact ⟨v2, HB5.out, HK5.out, HL.out, HO5.out, HP5.out⟩
    | true =>
      go_wp2_with fail
      refine (tree_any aL nL cL l 30 0 w5 (by decide) (HAL.out.below HB5.out)).mono ?_
      rintro e w6 ⟨hb, v3, rfl, hv3, ho3, hf3⟩
      dsimp only
      have HB6 := hid (HB5.out.trans (Below.mono hb HB5.out.size)); have HQ := hid ho3
      have HO6 := hid (HO5.out.below hb)
      have HK6 := hid ((hb.block _ (block_lt HK5.out)).trans HK5.out)
      have HL6 := hid ((hb.block _ (block_lt HL.out)).trans HL.out)
      have HF3 := hid (show ∀ k ∈ v3.foot, b2 < k from fun k hk => Nat.lt_of_lt_of_le (block_lt HL.out) (hf3 k hk))
      clear hb hv3 ho3 hf3 HB5 HO5 HK5 HL HP5
      go_wp2_with (refine wpList_store_obj rfl 29 _ _ rfl b2 rfl _ rfl _ _ HL6.out rfl iSize (arr_one v3) ?_; intro w7 hb7 hc7 hs7; have HL7 := hid hb7; have HC7 := hid hc7; clear hb7 hc7 hs7)
      go_meet
      refine ⟨v3, HB6.out.trans (HC7.out.below (fun k hk => by rw [List.mem_singleton.1 hk]; exact HWC.out) HB6.out.size), (HC7.out.block _ (block_lt HK6.out) (fun hm => by have := List.mem_singleton.1 hm; have := HBB.out; omega)).trans HK6.out, HL7.out, ItV.ok.keep HC7.out HO6.out (fun k hk hm => by have := HFT.out k hk; have := List.mem_singleton.1 hm; omega), ItV.ok.keep HC7.out HQ.out (fun k hk hm => by have := HF3.out k hk; have := List.mem_singleton.1 hm; omega)⟩
  case rest =>
    obtain ⟨v2, hb, hk1, hk2, ho1, ho2⟩ := hcut
    have HB6 := hid hb; have HK1 := hid hk1; have HK2 := hid hk2; have HO1 := hid ho1; have HO2 := hid ho2
    clear hb hk1 hk2 ho1 ho2 HB5 HK5 HL HO5 HP5 HAL
    have p1 := pick_lo zt 200 (by omega); have p2 := pick_hi zt 200 (by omega)
    have hwt : IntKind.i64.wrap (4325376 + pick zt 200) = 4325376 + pick zt 200 := IntWalk.i64_in _ (by omega)
    go_wp2_with fail
    refine (pick_any zt 200 _ (by omega) (by omega)).mono ?_
    rintro e wz ⟨rfl, rfl⟩
    dsimp only
    go_wp2_with (refine wpList_load_row rfl 29 _ rfl b1 rfl _ _ _ _ HK1.out Tryd.underlying29 rfl iSize ?_)
    clear p1 p2 hwt
    generalize 4325376 + pick zt 200 = T at *
    refine (kid_any v1 T _ HO1.out).mono ?_
    intro e w7 hres
    have HKR : Hid (∃ (v3 : ItV) (ok : Bool), e = .returned (.tuple #[.agg v3.arr, .bool ok]) ∧ v3.ok w7 ∧ Below wc.heap.size wc w7 ∧ ((ok = false ∧ v1.kids.find? (fun x => x.tag == T) = none) ∨ (ok = true ∧ ∃ x, v1.kids.find? (fun x => x.tag == T) = some x ∧ v3.it = x.it))) := by
      unfold KidRes at hres
      cases hf : v1.kids.find? (fun x => x.tag == T) with
      | none =>
        rw [hf] at hres
        obtain ⟨rfl, hb⟩ := hres
        exact ⟨itZ, false, rfl, ItV.ok_iff.2 ⟨SlC.nil _, SlR.nil _ _, fun x hx => by cases hx⟩, hb, .inl ⟨rfl, rfl⟩⟩
      | some x =>
        rw [hf] at hres
        obtain ⟨v', rfl, h1, h2, _, hb⟩ := hres
        exact ⟨v', true, rfl, h2, hb, .inr ⟨rfl, x, rfl, h1⟩⟩
    clear hres
    obtain ⟨v3, ok, rfl, ho3, hb7, hfind⟩ := HKR.out
    dsimp only
    have HFI := hid hfind
    have HB7 := hid (HB6.out.trans (Below.mono hb7 HB6.out.size))
    have HO3' := hid ho3
    have HO1' := hid (HO1.out.below hb7); have HO2' := hid (HO2.out.below hb7)
    have HK1' := hid ((hb7.block _ (block_lt HK1.out)).trans HK1.out)
    have HK2' := hid ((hb7.block _ (block_lt HK2.out)).trans HK2.out)
    clear HKR hfind ho3 hb7 HB6 HO1 HO2 HK1 HK2
    go_upto_region 7 with (first | (refine wpList_alloc_obj rfl 29 rfl _ iZero ?_) | (refine wpList_store_obj rfl 29 _ _ rfl w7.heap.size rfl _ rfl _ _ (block_new w7 _) rfl iSize (arr_one v3) ?_; intro w8 hb5 hc5 hs5; have HK3 := hid hb5; have HC5 := hid hc5; clear hb5 hc5 hs5))
    have hbel : Below w7.heap.size w7 w8 := ((Below.refl _ w7).alloc (Nat.le_refl _) _).trans (HC5.out.below (fun k hk => by rw [List.mem_singleton.1 hk]; exact Nat.le_refl _) (by simp))
    have HBW := hid (HB7.out.trans (Below.mono hbel HB7.out.size))
    have HO1 := hid (HO1'.out.below hbel); have HO2 := hid (HO2'.out.below hbel); have HO3 := hid (HO3'.out.below hbel)
    have HK1 := hid ((hbel.block _ (block_lt HK1'.out)).trans HK1'.out)
    have HK2 := hid ((hbel.block _ (block_lt HK2'.out)).trans HK2'.out)
    clear hbel HC5 HB7 HO1' HO2' HO3' HK1' HK2'
    generalize w7.heap.size = b3 at *
    have hkl := (ItV.ok_iff.1 HO1.out).2.1.klen
    have hnn : v1.ks.n ≤ 1099511627776 := (ItV.ok_iff.1 HO1.out).2.1.sm
    have HKL := hid hkl
    clear hkl
    have d4 := cell_of_block (j := 4) HK1.out (ar4 v1)
    obtain ⟨ka, hka⟩ : ∃ ka, v1.ks.a = ka := ⟨_, rfl⟩
    rw [hka] at d4
    have HKA := hid hka; clear hka
    have hw1 : IntKind.i64.wrap ((v1.ks.n : Int) - 1) = (v1.ks.n : Int) - 1 := IntWalk.i64_in _ (by omega)
    go_simp
    go_wp2_with fail
    go_loopw [13, 14] (fun y13 y14 wr => IxSt T v1 w8 y13 y14 wr) (fun y13 y14 _ => ((intOf y14) + 1).toNat)
    case atStart => exact ⟨⟨v1.kids.length, Nat.le_refl _, by have := HKL.out; rw [this], by rw [List.drop_length]; rfl, rfl⟩⟩
    case round =>
      obtain ⟨q, hq, rfl, rfl, rfl⟩ := hrel.ex
      clear hrel
      cases q with
      | zero =>
        have e0 : (((0 : Nat) : Int) - 1) = -1 := rfl
        rw [e0, List.drop_zero]
        have HFX := hid (ixK_find T v1.kids 0)
        rcases HFI.out with ⟨rfl, hf⟩ | ⟨rfl, x, hf, hx⟩
        · have e1 : ixK T v1.kids ((0 : Nat) : Int) = -1 := HFX.out.1 hf
          rw [e1]
          clear hf e1 HFX HFI
          go_wp2_with fail
          go_upto_region 13 with (fail)
          refine wp_region_each 17 [.eq (.bool false), .eq (.int .i64 (-1)), .eq (.bool false), .eq (.bool false), .eq (.bool false), .eq (.bool false), .eq (.bool false), .eq undef, .eq undef, .eq undef, .eq undef, .eq undef, .eq undef, .eq undef, .eq undef, .eq (.bool false), .eq (.bool false)] (by kernel_rfl) (by kernel_rfl) (by kernel_rfl) (by kernel_rfl) ?_ ?_
          · all_goals
              refine each_5 ?_ ?_ ?_ ?_ ?_ (each_5 ?_ ?_ ?_ ?_ ?_ (each_5 ?_ ?_ ?_ ?_ ?_ (each_c ?_ (each_c ?_ (each_n)))))
              · intro w1 hg Ar seen
                have s12 := seen.sl 12 (.bool false)
                refine does_plain rfl fun K Q' hK => ?_
                go_simp; exact hK _ _ (Grow.refl _) rfl
              · intro w1 hg Ar seen
                have s13 := seen.sl 13 (.int .i64 (-1))
                refine does_plain rfl fun K Q' hK => ?_
                go_simp; exact hK _ _ (Grow.refl _) rfl
              · intro w1 hg Ar seen
                have e1 := seen.de 1 49
                refine does_plain rfl fun K Q' hK => ?_
                go_simp; exact hK _ _ (Grow.refl _) rfl
              · intro w1 hg Ar seen
                have e0 := seen.de 0 48
                have e2 := seen.de 2 50
                refine does_plain rfl fun K Q' hK => ?_
                go_simp; exact hK _ _ (Grow.refl _) rfl
              · intro w1 hg Ar seen
                have e3 := seen.de 3 51
                refine does_plain rfl fun K Q' hK => ?_
                go_simp; exact hK _ _ (Grow.refl _) rfl
              · intro w1 hg Ar seen
                have e4 := seen.de 4 52
                have s12 := seen.sl 12 (.bool false)
                refine does_on rfl (by kernel_rfl) e4 fun K Q' hK => ?_
                clear e4
                go_simp; exact hK _ _ (Grow.refl _) rfl
              · intro w1 hg Ar seen
                have e5 := seen.de 5 53
                have e4 := seen.de 4 52
                refine does_on rfl (by kernel_rfl) e4 fun K Q' hK => ?_
                clear e4
                go_simp; exact hK _ _ (Grow.refl _) rfl
              · intro w1 hg Ar seen
                have e6 := seen.de 6 54
                exact does_off rfl (by kernel_rfl) e6 ne_ft (Grow.refl _) rfl
              · intro w1 hg Ar seen
                have e6 := seen.de 6 54
                exact does_off rfl (by kernel_rfl) e6 ne_ft (Grow.refl _) rfl
              · intro w1 hg Ar seen
                have e6 := seen.de 6 54
                exact does_off rfl (by kernel_rfl) e6 ne_ft (Grow.refl _) rfl
              · intro w1 hg Ar seen
                have e6 := seen.de 6 54
                exact does_off rfl (by kernel_rfl) e6 ne_ft (Grow.refl _) rfl
              · intro w1 hg Ar seen
                have e6 := seen.de 6 54
                exact does_off rfl (by kernel_rfl) e6 ne_ft (Grow.refl _) rfl
              · intro w1 hg Ar seen
                have e6 := seen.de 6 54
                exact does_off rfl (by kernel_rfl) e6 ne_ft (Grow.refl _) rfl
              · intro w1 hg Ar seen
                have e6 := seen.de 6 54
                exact does_off rfl (by kernel_rfl) e6 ne_ft (Grow.refl _) rfl
              · intro w1 hg Ar seen
                have e6 := seen.de 6 54
                exact does_off rfl (by kernel_rfl) e6 ne_ft (Grow.refl _) rfl
              · intro w1 hg Ar seen
                have e6 := seen.de 6 54
                have e14 := seen.de 14 62
                have e4 := seen.de 4 52
                refine does_on rfl (by kernel_rfl) e4 fun K Q' hK => ?_
                clear e4
                go_simp; exact hK _ _ (Grow.refl _) rfl
              · intro w1 hg Ar seen
                have e4 := seen.de 4 52
                have e15 := seen.de 15 63
                refine does_plain rfl fun K Q' hK => ?_
                go_simp; exact hK _ _ (Grow.refl _) rfl
          intro w1 hg
          refine upon_w' (js := [0, 1, 2, 3, 4, 5, 6, 7, 8, 9, 10, 11, 12, 13, 14, 15, 16]) (by rfl) ?_
          refine upon_e (some 48) (upon_e (some 49) (upon_e (some 50) (upon_e (some 51) (upon_e (some 52) (upon_e (some 53) (upon_e (some 54) (upon_e (some 55) (upon_e (some 56) (upon_e (some 57) (upon_e (some 58) (upon_e (some 59) (upon_e (some 60) (upon_e (some 61) (upon_e (some 62) (upon_e (some 63) (upon_e (some 64) (upon_n ?_)))))))))))))))))
          go_simp
          have HG := hid hg
          have HBW2 := hid (HBW.out.trans (Below.mono hg HBW.out.size))
          have HO12 := hid (HO1.out.below hg); have HO22 := hid (HO2.out.below hg)
          have HK12 := hid ((hg.block _ (block_lt HK1.out)).trans HK1.out)
          have HK22 := hid ((hg.block _ (block_lt HK2.out)).trans HK2.out)
          clear hg HG HBW HO1 HO2 HK1 HK2 d4
          have HBW := HBW2; have HO1 := HO12; have HO2 := HO22; have HK1 := HK12; have HK2 := HK22
          clear HBW2 HO12 HO22 HK12 HK22
          go_simp
          go_wp2_with fail
          obtain ⟨SM, hSM⟩ : ∃ SM, SM = sameI v1.it v2.it := ⟨_, rfl⟩
          have HSE := hid hSM.symm
          clear hSM
          go_upto_region 15 with (fail)
          refine wp_region_each 11 [.eq (.bool true), .eq (.bool true), .eq (.agg v1.arr), .eq (.agg v2.arr), .eq (.bool SM), .eq (.agg v1.arr), .eq (.agg v2.arr), .eq (.bool SM), .eq (.bool true), .eq (.bool true), .eq (.bool true)] (by kernel_rfl) (by kernel_rfl) (by kernel_rfl) (by kernel_rfl) ?_ ?_
          · all_goals
              refine each_5 ?_ ?_ ?_ ?_ ?_ (each_5 ?_ ?_ ?_ ?_ ?_ (each_c ?_ (each_n)))
              · intro w1 hg Ar seen
                refine does_plain rfl fun K Q' hK => ?_
                go_simp
                refine (known6_any _ (HT.out.below (HBW.out.trans (Below.mono hg HBW.out.size)))).mono ?_
                rintro e u ⟨rfl, hb⟩
                exact hK _ _ hb rfl
              · intro w1 hg Ar seen
                have e0 := seen.de 0 65
                refine does_plain rfl fun K Q' hK => ?_
                go_simp; exact hK _ _ (Grow.refl _) rfl
              · intro w1 hg Ar seen
                have e1 := seen.de 1 66
                have s9 := seen.sl 9 (.pointer (some ⟨b1, 0, none⟩))
                refine does_on rfl (by kernel_rfl) e1 fun K Q' hK => ?_
                clear e1
                refine wp_load_row 29 _ rfl b1 (by simp [Act.eval, s9]) _ _ _ _ ((hg.block _ (block_lt HK1.out)).trans HK1.out) Tryd.underlying29 rfl iSize ?_
                exact hK _ _ (Grow.refl _) rfl
              · intro w1 hg Ar seen
                have e1 := seen.de 1 66
                have s10 := seen.sl 10 (.pointer (some ⟨b2, 0, none⟩))
                refine does_on rfl (by kernel_rfl) e1 fun K Q' hK => ?_
                clear e1
                refine wp_load_row 29 _ rfl b2 (by simp [Act.eval, s10]) _ _ _ _ ((hg.block _ (block_lt HK2.out)).trans HK2.out) Tryd.underlying29 rfl iSize ?_
                exact hK _ _ (Grow.refl _) rfl
              · intro w1 hg Ar seen
                obtain ⟨v2, e2, h2⟩ := seen.dp 2 67
                rcases h2 with rfl
                have e3 := seen.de 3 68
                obtain ⟨v1, e1, h1⟩ := seen.dp 1 66
                rcases h1 with rfl
                refine does_on rfl (by kernel_rfl) e1 fun K Q' hK => ?_
                clear e1
                go_simp
                refine (same_any v1 v2 _ (HO1.out.below hg) (HO2.out.below hg)).mono ?_
                rintro e u ⟨rfl, hb⟩
                exact hK _ _ hb (congrArg Value.bool HSE.out)
              · intro w1 hg Ar seen
                have e1 := seen.de 1 66
                have s9 := seen.sl 9 (.pointer (some ⟨b1, 0, none⟩))
                refine does_on rfl (by kernel_rfl) e1 fun K Q' hK => ?_
                clear e1
                refine wp_load_row 29 _ rfl b1 (by simp [Act.eval, s9]) _ _ _ _ ((hg.block _ (block_lt HK1.out)).trans HK1.out) Tryd.underlying29 rfl iSize ?_
                exact hK _ _ (Grow.refl _) rfl
              · intro w1 hg Ar seen
                have e1 := seen.de 1 66
                have s10 := seen.sl 10 (.pointer (some ⟨b2, 0, none⟩))
                refine does_on rfl (by kernel_rfl) e1 fun K Q' hK => ?_
                clear e1
                refine wp_load_row 29 _ rfl b2 (by simp [Act.eval, s10]) _ _ _ _ ((hg.block _ (block_lt HK2.out)).trans HK2.out) Tryd.underlying29 rfl iSize ?_
                exact hK _ _ (Grow.refl _) rfl
              · intro w1 hg Ar seen
                have e5 := seen.de 5 70
                have e6 := seen.de 6 71
                obtain ⟨v1, e1, h1⟩ := seen.dp 1 66
                rcases h1 with rfl
                refine does_on rfl (by kernel_rfl) e1 fun K Q' hK => ?_
                clear e1
                go_simp
                refine (same6_any v1 v2 _ (HO1.out.below hg) (HO2.out.below hg)).mono ?_
                rintro e u ⟨rfl, hb⟩
                exact hK _ _ hb (congrArg Value.bool HSE.out)
              · intro w1 hg Ar seen
                have e4 := seen.de 4 69
                have e7 := seen.de 7 72
                have e1 := seen.de 1 66
                refine does_on rfl (by kernel_rfl) e1 fun K Q' hK => ?_
                clear e1
                go_simp; exact hK _ _ (Grow.refl _) rfl
              · intro w1 hg Ar seen
                have e1 := seen.de 1 66
                have e8 := seen.de 8 73
                refine does_plain rfl fun K Q' hK => ?_
                go_simp; exact hK _ _ (Grow.refl _) rfl
              · intro w1 hg Ar seen
                have e9 := seen.de 9 74
                refine does_plain rfl fun K Q' hK => ?_
                go_simp; exact hK _ _ (Grow.refl _) rfl
          intro w1 hg
          refine upon_w' (js := [0, 1, 2, 3, 4, 5, 6, 7, 8, 9, 10]) (by rfl) ?_
          refine upon_e (some 65) (upon_e (some 66) (upon_e (some 67) (upon_e (some 68) (upon_e (some 69) (upon_e (some 70) (upon_e (some 71) (upon_e (some 72) (upon_e (some 73) (upon_e (some 74) (upon_e (some 8) (upon_n ?_)))))))))))
          go_simp
          have HG := hid hg
          clear hg
          go_simp
          go_wp2_with fail
          go_ret
          exact ⟨rfl, HBW.out.trans (Below.mono HG.out HBW.out.size)⟩
        · obtain ⟨j, hj, e1⟩ := HFX.out.2 x hf
          rw [Nat.zero_add] at e1
          have e2 : ixK T v1.kids ((0 : Nat) : Int) = (j : Int) := e1
          rw [e2]
          have hjl : j < v1.ks.n := by have h1 := (List.getElem?_eq_some_iff.1 hj).1; have h2 := HKL.out; omega
          obtain ⟨bx, ox, x2, hax, hx2, hrow⟩ := (ItV.ok_iff.1 HO1.out).2.1.row hjl
          obtain rfl : x2 = x := by rw [hx2] at hj; exact Option.some.inj hj
          have HAX := hid hax
          have HRX := hid hrow
          have HOX := hid ((ItV.ok_iff.1 HO1.out).2.2 x2 (List.mem_of_getElem? hx2))
          have HSM := hid (sameI_yes hx)
          have hjz : (0 : Int) ≤ (j : Int) := by omega
          have hjn : (j : Int) < (v1.ks.n : Int) := by omega
          clear hf e1 e2 HFX HFI hax hrow hx hj hx2
          go_wp2_with fail
          go_upto_region 13 with (fail)
          refine wp_region_each 17 [.eq (.bool true), .eq (.int .i64 (j : Int)), .eq (.bool true), .eq (.bool false), .eq (.bool false), .eq (.bool true), .eq (.bool true), .eq (.agg v3.arr), .eq (.pointer (some ⟨b1, 4, none⟩)), .eq (.slice (some ⟨bx, ox, none⟩) v1.ks.n v1.ks.c), .eq (.int .i64 (j : Int)), .eq (.pointer (some ⟨bx, ox + j * 5, none⟩)), .eq (.agg x2.arr), .eq (.bool true), .eq (.bool false), .eq (.bool false), .eq (.bool false)] (by kernel_rfl) (by kernel_rfl) (by kernel_rfl) (by kernel_rfl) ?_ ?_
          · all_goals
              refine each_5 ?_ ?_ ?_ ?_ ?_ (each_5 ?_ ?_ ?_ ?_ ?_ (each_5 ?_ ?_ ?_ ?_ ?_ (each_c ?_ (each_c ?_ (each_n)))))
              · intro w1 hg Ar seen
                have s12 := seen.sl 12 (.bool true)
                refine does_plain rfl fun K Q' hK => ?_
                go_simp; exact hK _ _ (Grow.refl _) rfl
              · intro w1 hg Ar seen
                have s13 := seen.sl 13 (.int .i64 (j : Int))
                refine does_plain rfl fun K Q' hK => ?_
                go_simp; exact hK _ _ (Grow.refl _) rfl
              · intro w1 hg Ar seen
                have e1 := seen.de 1 49
                refine does_plain rfl fun K Q' hK => ?_
                go_simp; exact hK _ _ (Grow.refl _) rfl
              · intro w1 hg Ar seen
                have e0 := seen.de 0 48
                have e2 := seen.de 2 50
                refine does_plain rfl fun K Q' hK => ?_
                go_simp; exact hK _ _ (Grow.refl _) rfl
              · intro w1 hg Ar seen
                have e3 := seen.de 3 51
                refine does_plain rfl fun K Q' hK => ?_
                go_simp; exact hK _ _ (Grow.refl _) rfl
              · intro w1 hg Ar seen
                have e4 := seen.de 4 52
                have s12 := seen.sl 12 (.bool true)
                refine does_on rfl (by kernel_rfl) e4 fun K Q' hK => ?_
                clear e4
                go_simp; exact hK _ _ (Grow.refl _) rfl
              · intro w1 hg Ar seen
                have e5 := seen.de 5 53
                have e4 := seen.de 4 52
                refine does_on rfl (by kernel_rfl) e4 fun K Q' hK => ?_
                clear e4
                go_simp; exact hK _ _ (Grow.refl _) rfl
              · intro w1 hg Ar seen
                have e6 := seen.de 6 54
                have s11 := seen.sl 11 (.pointer (some ⟨b3, 0, none⟩))
                refine does_on rfl (by kernel_rfl) e6 fun K Q' hK => ?_
                clear e6
                refine wp_load_row 29 _ rfl b3 (by simp [Act.eval, s11]) _ _ _ _ ((hg.block _ (block_lt HK3.out)).trans HK3.out) Tryd.underlying29 rfl iSize ?_
                exact hK _ _ (Grow.refl _) rfl
              · intro w1 hg Ar seen
                have e6 := seen.de 6 54
                have s9 := seen.sl 9 (.pointer (some ⟨b1, 0, none⟩))
                refine does_on rfl (by kernel_rfl) e6 fun K Q' hK => ?_
                clear e6
                go_simp; exact hK _ _ (Grow.refl _) rfl
              · intro w1 hg Ar seen
                have e8 := seen.de 8 56
                have e6 := seen.de 6 54
                refine does_on rfl (by kernel_rfl) e6 fun K Q' hK => ?_
                clear e6
                have hc := cell_of_block (j := 4) ((hg.block _ (block_lt HK1.out)).trans HK1.out) (ar4 v1); rw [HAX.out] at hc
                go_simp; exact hK _ _ (Grow.refl _) rfl
              · intro w1 hg Ar seen
                have e6 := seen.de 6 54
                have s13 := seen.sl 13 (.int .i64 (j : Int))
                refine does_on rfl (by kernel_rfl) e6 fun K Q' hK => ?_
                clear e6
                go_simp; exact hK _ _ (Grow.refl _) rfl
              · intro w1 hg Ar seen
                have e9 := seen.de 9 57
                have e10 := seen.de 10 58
                have e6 := seen.de 6 54
                refine does_on rfl (by kernel_rfl) e6 fun K Q' hK => ?_
                clear e6
                go_simp; exact hK _ _ (Grow.refl _) rfl
              · intro w1 hg Ar seen
                have e11 := seen.de 11 59
                have e6 := seen.de 6 54
                refine does_on rfl (by kernel_rfl) e6 fun K Q' hK => ?_
                clear e6
                refine wp_load_mid 29 _ rfl bx (ox + j * 5) (by simp [Act.eval, e11]) x2.arr.toList _ (range_later hg HRX.out) Tryd.underlying29 rfl iSize ?_
                exact hK _ _ (Grow.refl _) rfl
              · intro w1 hg Ar seen
                have e7 := seen.de 7 55
                have e12 := seen.de 12 60
                have e6 := seen.de 6 54
                refine does_on rfl (by kernel_rfl) e6 fun K Q' hK => ?_
                clear e6
                go_simp
                refine (same6_any v3 x2 _ (HO3.out.below hg) (HOX.out.below hg)).mono ?_
                rintro e u ⟨rfl, hb⟩
                exact hK _ _ hb (congrArg Value.bool HSM.out)
              · intro w1 hg Ar seen
                have e13 := seen.de 13 61
                have e6 := seen.de 6 54
                refine does_on rfl (by kernel_rfl) e6 fun K Q' hK => ?_
                clear e6
                go_simp; exact hK _ _ (Grow.refl _) rfl
              · intro w1 hg Ar seen
                have e6 := seen.de 6 54
                have e14 := seen.de 14 62
                have e4 := seen.de 4 52
                refine does_on rfl (by kernel_rfl) e4 fun K Q' hK => ?_
                clear e4
                go_simp; exact hK _ _ (Grow.refl _) rfl
              · intro w1 hg Ar seen
                have e4 := seen.de 4 52
                have e15 := seen.de 15 63
                refine does_plain rfl fun K Q' hK => ?_
                go_simp; exact hK _ _ (Grow.refl _) rfl
          intro w1 hg
          refine upon_w' (js := [0, 1, 2, 3, 4, 5, 6, 7, 8, 9, 10, 11, 12, 13, 14, 15, 16]) (by rfl) ?_
          refine upon_e (some 48) (upon_e (some 49) (upon_e (some 50) (upon_e (some 51) (upon_e (some 52) (upon_e (some 53) (upon_e (some 54) (upon_e (some 55) (upon_e (some 56) (upon_e (some 57) (upon_e (some 58) (upon_e (some 59) (upon_e (some 60) (upon_e (some 61) (upon_e (some 62) (upon_e (some 63) (upon_e (some 64) (upon_n ?_)))))))))))))))))
          go_simp
          have HG := hid hg
          have HBW2 := hid (HBW.out.trans (Below.mono hg HBW.out.size))
          have HO12 := hid (HO1.out.below hg); have HO22 := hid (HO2.out.below hg)
          have HK12 := hid ((hg.block _ (block_lt HK1.out)).trans HK1.out)
          have HK22 := hid ((hg.block _ (block_lt HK2.out)).trans HK2.out)
          clear hg HG HBW HO1 HO2 HK1 HK2 d4
          have HBW := HBW2; have HO1 := HO12; have HO2 := HO22; have HK1 := HK12; have HK2 := HK22
          clear HBW2 HO12 HO22 HK12 HK22
          go_simp
          go_wp2_with fail
          obtain ⟨SM, hSM⟩ : ∃ SM, SM = sameI v1.it v2.it := ⟨_, rfl⟩
          have HSE := hid hSM.symm
          clear hSM
          go_upto_region 15 with (fail)
          refine wp_region_each 11 [.eq (.bool true), .eq (.bool true), .eq (.agg v1.arr), .eq (.agg v2.arr), .eq (.bool SM), .eq (.agg v1.arr), .eq (.agg v2.arr), .eq (.bool SM), .eq (.bool true), .eq (.bool true), .eq (.bool true)] (by kernel_rfl) (by kernel_rfl) (by kernel_rfl) (by kernel_rfl) ?_ ?_
          · all_goals
              refine each_5 ?_ ?_ ?_ ?_ ?_ (each_5 ?_ ?_ ?_ ?_ ?_ (each_c ?_ (each_n)))
              · intro w1 hg Ar seen
                refine does_plain rfl fun K Q' hK => ?_
                go_simp
                refine (known6_any _ (HT.out.below (HBW.out.trans (Below.mono hg HBW.out.size)))).mono ?_
                rintro e u ⟨rfl, hb⟩
                exact hK _ _ hb rfl
              · intro w1 hg Ar seen
                have e0 := seen.de 0 65
                refine does_plain rfl fun K Q' hK => ?_
                go_simp; exact hK _ _ (Grow.refl _) rfl
              · intro w1 hg Ar seen
                have e1 := seen.de 1 66
                have s9 := seen.sl 9 (.pointer (some ⟨b1, 0, none⟩))
                refine does_on rfl (by kernel_rfl) e1 fun K Q' hK => ?_
                clear e1
                refine wp_load_row 29 _ rfl b1 (by simp [Act.eval, s9]) _ _ _ _ ((hg.block _ (block_lt HK1.out)).trans HK1.out) Tryd.underlying29 rfl iSize ?_
                exact hK _ _ (Grow.refl _) rfl
              · intro w1 hg Ar seen
                have e1 := seen.de 1 66
                have s10 := seen.sl 10 (.pointer (some ⟨b2, 0, none⟩))
                refine does_on rfl (by kernel_rfl) e1 fun K Q' hK => ?_
                clear e1
                refine wp_load_row 29 _ rfl b2 (by simp [Act.eval, s10]) _ _ _ _ ((hg.block _ (block_lt HK2.out)).trans HK2.out) Tryd.underlying29 rfl iSize ?_
                exact hK _ _ (Grow.refl _) rfl
              · intro w1 hg Ar seen
                obtain ⟨v2, e2, h2⟩ := seen.dp 2 67
                rcases h2 with rfl
                have e3 := seen.de 3 68
                obtain ⟨v1, e1, h1⟩ := seen.dp 1 66
                rcases h1 with rfl
                refine does_on rfl (by kernel_rfl) e1 fun K Q' hK => ?_
                clear e1
                go_simp
                refine (same_any v1 v2 _ (HO1.out.below hg) (HO2.out.below hg)).mono ?_
                rintro e u ⟨rfl, hb⟩
                exact hK _ _ hb (congrArg Value.bool HSE.out)
              · intro w1 hg Ar seen
                have e1 := seen.de 1 66
                have s9 := seen.sl 9 (.pointer (some ⟨b1, 0, none⟩))
                refine does_on rfl (by kernel_rfl) e1 fun K Q' hK => ?_
                clear e1
                refine wp_load_row 29 _ rfl b1 (by simp [Act.eval, s9]) _ _ _ _ ((hg.block _ (block_lt HK1.out)).trans HK1.out) Tryd.underlying29 rfl iSize ?_
                exact hK _ _ (Grow.refl _) rfl
              · intro w1 hg Ar seen
                have e1 := seen.de 1 66
                have s10 := seen.sl 10 (.pointer (some ⟨b2, 0, none⟩))
                refine does_on rfl (by kernel_rfl) e1 fun K Q' hK => ?_
                clear e1
                refine wp_load_row 29 _ rfl b2 (by simp [Act.eval, s10]) _ _ _ _ ((hg.block _ (block_lt HK2.out)).trans HK2.out) Tryd.underlying29 rfl iSize ?_
                exact hK _ _ (Grow.refl _) rfl
              · intro w1 hg Ar seen
                have e5 := seen.de 5 70
                have e6 := seen.de 6 71
                obtain ⟨v1, e1, h1⟩ := seen.dp 1 66
                rcases h1 with rfl
                refine does_on rfl (by kernel_rfl) e1 fun K Q' hK => ?_
                clear e1
                go_simp
                refine (same6_any v1 v2 _ (HO1.out.below hg) (HO2.out.below hg)).mono ?_
                rintro e u ⟨rfl, hb⟩
                exact hK _ _ hb (congrArg Value.bool HSE.out)
              · intro w1 hg Ar seen
                have e4 := seen.de 4 69
                have e7 := seen.de 7 72
                have e1 := seen.de 1 66
                refine does_on rfl (by kernel_rfl) e1 fun K Q' hK => ?_
                clear e1
                go_simp; exact hK _ _ (Grow.refl _) rfl
              · intro w1 hg Ar seen
                have e1 := seen.de 1 66
                have e8 := seen.de 8 73
                refine does_plain rfl fun K Q' hK => ?_
                go_simp; exact hK _ _ (Grow.refl _) rfl
              · intro w1 hg Ar seen
                have e9 := seen.de 9 74
                refine does_plain rfl fun K Q' hK => ?_
                go_simp; exact hK _ _ (Grow.refl _) rfl
          intro w1 hg
          refine upon_w' (js := [0, 1, 2, 3, 4, 5, 6, 7, 8, 9, 10]) (by rfl) ?_
          refine upon_e (some 65) (upon_e (some 66) (upon_e (some 67) (upon_e (some 68) (upon_e (some 69) (upon_e (some 70) (upon_e (some 71) (upon_e (some 72) (upon_e (some 73) (upon_e (some 74) (upon_e (some 8) (upon_n ?_)))))))))))
          go_simp
          have HG := hid hg
          clear hg
          go_simp
          go_wp2_with fail
          go_ret
          exact ⟨rfl, HBW.out.trans (Below.mono HG.out HBW.out.size)⟩
      | succ q =>
        have e0 : (((q + 1 : Nat) : Int) - 1) = (q : Int) := by omega
        rw [e0]
        have hql : q < v1.ks.n := by have := HKL.out; omega
        obtain ⟨bx, ox, x, hax, hx, hrow⟩ := (ItV.ok_iff.1 HO1.out).2.1.row hql
        rw [HKA.out] at hax
        subst hax
        have hcell : wr.cell? ⟨bx, ox + q * 5, none⟩ = some (.int .i64 x.tag) := by have h := hrow 0 _ rfl; simpa using h
        have HDR : Hid (ixK T (v1.kids.drop q) (q : Int) = if x.tag = T then (q : Int) else ixK T (v1.kids.drop (q + 1)) ((q + 1 : Nat) : Int)) := by
          have hlt : q < v1.kids.length := by omega
          show _ = _
          rw [List.drop_eq_getElem_cons hlt, show v1.kids[q] = x by rw [List.getElem?_eq_getElem hlt] at hx; exact Option.some.inj hx, ixK]
          rfl
        have hqb : (q : Int) < 1099511627776 := by omega
        have hqn : (q : Int) < (v1.ks.n : Int) := by omega
        have hqz : (0 : Int) ≤ (q : Int) := by omega
        clear hx hrow
        obtain ⟨old, hold⟩ : ∃ old, old = ixK T (v1.kids.drop (q + 1)) ((q + 1 : Nat) : Int) := ⟨_, rfl⟩
        rw [← hold] at HDR ⊢
        clear hold
        have hwq : IntKind.i64.wrap ((q : Int) - 1) = (q : Int) - 1 := IntWalk.i64_in _ (by omega)
        by_cases ht : x.tag = T
        · have htb : (x.tag == T) = true := by simpa using ht
          rw [if_pos ht] at HDR
          clear ht
          go_wp2_with fail
          have HRR : IxSt T v1 wr (.int .i64 (q : Int)) (.int .i64 ((q : Int) - 1)) wr := ⟨⟨q, by omega, rfl, by rw [HDR.out], rfl⟩⟩
          go_roundw
          case rel => first | exact HRR | ((repeat apply Exists.intro); exact HRR) | ((repeat apply Exists.intro); exact ⟨HRR, rfl⟩)
          case measure => (simp [intOf] <;> omega)
        · have htb : (x.tag == T) = false := beq_eq_false_iff_ne.2 ht
          rw [if_neg ht] at HDR
          clear ht
          go_wp2_with fail
          have HRR : IxSt T v1 wr (.int .i64 old) (.int .i64 ((q : Int) - 1)) wr := ⟨⟨q, by omega, rfl, by rw [HDR.out], rfl⟩⟩
          go_roundw
          case rel => first | exact HRR | ((repeat apply Exists.intro); exact HRR) | ((repeat apply Exists.intro); exact ⟨HRR, rfl⟩)
          case measure => (simp [intOf] <;> omega)
end Go.Proofs.YtmpajhacigjloaaDoor
