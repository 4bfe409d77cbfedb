/- locksmithhand.Template. locksmithhand.Payload$1: a kid more. An Ask (raw) as data; what stands while Payload goes on. -/
import Derived.Test.YtbnbofooofedkaaDoorMa
import Derived.Test.YtbnbofooofedkaaDoorHItem
import Derived.Deep.DeepCutAuto
import Derived.Deep.CutBlock
import Derived.Test.YtbnbofooofedkaaDoorRegionB
namespace Go.Proofs.YtbnbofooofedkaaDoor
section
open Go.RowKit
set_option linter.unusedVariables false
set_option linter.unusedSimpArgs false
set_option maxRecDepth 100000
set_option maxHeartbeats 4000000
def nm10 : List ByteArray := [⟨#[78, 97, 109, 101]⟩, ⟨#[65, 99, 116, 105, 118, 97, 116, 105, 111, 110, 32, 68, 97, 116, 101]⟩, ⟨#[65, 99, 116, 105, 118, 97, 116, 105, 111, 110, 32, 68, 97, 116, 101]⟩, ⟨#[68, 101, 97, 99, 116, 105, 118, 97, 116, 105, 111, 110, 32, 68, 97, 116, 101]⟩, ⟨#[85, 115, 97, 103, 101, 32, 76, 105, 109, 105, 116, 115]⟩, ⟨#[120, 45, 97]⟩, ⟨#[80, 114, 111, 99, 101, 115, 115, 32, 83, 116, 97, 114, 116, 32, 68, 97, 116, 101]⟩, ⟨#[80, 114, 111, 116, 101, 99, 116, 32, 83, 116, 111, 112, 32, 68, 97, 116, 101]⟩, ⟨#[76, 105, 110, 107]⟩, ⟨#[83, 116, 97, 116, 101]⟩]
theorem nm10_size (k : Nat) : (nm10.getD k ⟨#[]⟩).size ≤ 20 := by
 match k with
 | 0 => decide
 | 1 => decide
 | 2 => decide
 | 3 => decide
 | 4 => decide
 | 5 => decide
 | 6 => decide
 | 7 => decide
 | 8 => decide
 | 9 => decide
 | k + 10 => rw [List.getD_eq_getElem?_getD, List.getElem?_eq_none (by simp [nm10])]; decide
theorem template_any (alg len : Int) (a : Option Addr) (n cL : Nat) (l0 : List RawD) (lack : Int) (w : World) (hal : ArgSl 4 RawR w (.slice a n cL) l0) :
  Calls Tryd.prog 53 #[.int .i64 alg, .int .i64 len, .slice a n cL, .int .i64 lack] w (LRes (fun k => w.heap.size ≤ k) w) := by
 obtain ⟨i, hi, hz0, hz1, hz2⟩ := info_parts iInfo
 have hnl := (argSl_len hal).2
 have hbu : ∀ w, (Instr.build 97 #[(0, .string ⟨#[78, 97, 109, 101]⟩), (1, .string ⟨#[65, 99, 116, 105, 118, 97, 116, 105, 111, 110, 32, 68, 97, 116, 101]⟩), (2, .string ⟨#[65, 99, 116, 105, 118, 97, 116, 105, 111, 110, 32, 68, 97, 116, 101]⟩), (3, .string ⟨#[68, 101, 97, 99, 116, 105, 118, 97, 116, 105, 111, 110, 32, 68, 97, 116, 101]⟩), (4, .string ⟨#[85, 115, 97, 103, 101, 32, 76, 105, 109, 105, 116, 115]⟩), (5, .string ⟨#[120, 45, 97]⟩), (6, .string ⟨#[80, 114, 111, 99, 101, 115, 115, 32, 83, 116, 97, 114, 116, 32, 68, 97, 116, 101]⟩), (7, .string ⟨#[80, 114, 111, 116, 101, 99, 116, 32, 83, 116, 111, 112, 32, 68, 97, 116, 101]⟩), (8, .string ⟨#[76, 105, 110, 107]⟩), (9, .string ⟨#[83, 116, 97, 116, 101]⟩)]).run Tryd.prog w = .ok (.agg (strsA nm10)) w := fun w => by kernel_rfl
 have HBU := hid hbu
 have HAL := hid hal
 clear hal hbu
 unfold LRes
 generalize hbe : w.heap.size = b at *
 have HBE := hid hbe; clear hbe
 go_enter Tryd.func53, Tryd.ntmps53
 go_upto_region 1 with (refine wpList_alloc_obj rfl 27 rfl _ iZero ?_)
 go_simp
 have hb0 : Below w.heap.size w (w.alloc (.cells itZ.arr 27)) := (Below.refl _ _).alloc (Nat.le_refl _) _
 have hr0 := block_new w (.cells itZ.arr 27)
 have hs0 : (w.alloc (.cells itZ.arr 27)).heap.size = b + 1 := by simp [HBE.out]
 have HAL0 := hid (raws_below HAL.out hb0)
 rw [HBE.out] at hb0 hr0 ⊢
 have HB0 := hid hb0; have HR0 := hid hr0; have HS0 := hid hs0
 clear hb0 hr0 hs0 HAL
 generalize w.alloc (.cells itZ.arr 27) = W at *
 go_wp2_with fail
 refine (handOf_any 4325521 {} _).mono ?_
 rintro e w4 ⟨rfl, hb4⟩
 have HB4 := hid hb4
 have HS4 : Hid (b + 1 ≤ w4.heap.size) := by show _ ≤ _; rw [← HS0.out]; exact hb4.size
 clear hb4
 go_upto_region 2 with (first | (refine wpList_alloc_obj rfl 27 rfl _ iZero ?_) | (refine wpList_store_obj rfl 27 _ _ rfl w4.heap.size rfl (ItV.arr { tag := 4325521, typ := 1 }) rfl _ _ (block_new w4 _) rfl iSize (arr_one _) ?_; intro w6 hb6 hc6 hs6; have HB6 := hid hb6; have HC6 := hid hc6; clear hb6 hc6 hs6))
 have hb6 : Below w4.heap.size w4 w6 := ((Below.refl _ w4).alloc (Nat.le_refl _) _).trans (HC6.out.below (fun k hk => by rw [List.mem_singleton.1 hk]; exact Nat.le_refl _) (by simp))
 have hpo := PObj.start (F := (fun k => b + 1 ≤ k)) (z := b + 1) (OwnIt.nil 27 w4 (b + 1) 0) hb6 HB6.out (fun x hx => by cases hx) (fun x hx => by cases hx) HS4.out (fun k hk => hk) (m := 0) rfl
 have hbw : Below (b + 1) W w6 := (HB4.out.mono (by rw [HS0.out]; omega)).trans (hb6.mono HS4.out)
 clear hb6 HB6 HC6 HB4 HS4
 generalize w4.heap.size = p at *
 have hwl : IntKind.i64.wrap (lack.tmod 11) = lack.tmod 11 := wrap_tmod (by omega) (by omega)
 obtain ⟨m, hm0⟩ : ∃ m : Nat, m = 0 := ⟨_, rfl⟩
 rw [← hm0] at hpo
 go_upto_if 16 with (fail)
 go_cut [] (fun wx => ∃ m c, m ≤ 1 ∧ PObj wx 4325521 (fun k => b + 1 ≤ k) (b + 1) p m c ∧ Below (b + 1) W wx)
 case first =>
  have HP := hid hpo; have HBW := hid hbw
  have HZW : Hid (b + 1 ≤ w6.heap.size) := Nat.le_trans HP.out.lt.2.2.1 (Nat.le_trans (Nat.le_of_lt HP.out.lt.1) HP.out.lt.2.1)
  clear hpo hbw
  by_cases hl : lack.tmod 11 = 1
  ·have hlb : (lack.tmod 11 == 1) = true := by simpa using hl
   go_wp2_with fail
   go_meet
   exact ⟨m, _, by omega, HP.out, HBW.out⟩
  ·have hlb : (lack.tmod 11 == 1) = false := by simpa using hl
   go_upto_region 3 with (fail)
   obtain ⟨s, l, hj, hsn, hown, hnzl, hlol, hpc, hcw, hzp, hloz⟩ := HP.out
   have HJ0 := hid hj; have HSN := hid hsn; have HQ0 := hid (And.intro hpc (And.intro hcw (And.intro hzp (And.intro hloz (And.intro hown (And.intro hnzl hlol))))))
   clear hj hsn hown hnzl hlol hpc hcw hzp hloz HP
   obtain ⟨cw, hcw⟩ : ∃ c, c = w6.heap.size := ⟨_, rfl⟩
   have HCW : Hid (w6.heap.size = cw) := hcw.symm
   clear hcw
   refine wp_region_each 6 [.eq (.pointer (some ⟨p, 4, none⟩)), .eq (.slice s.a s.n s.c), .eq (.int .i64 alg), stKidG cw, stKidG cw, stKidsG cw] (by kernel_rfl) (by kernel_rfl) (by kernel_rfl) (by kernel_rfl) ?_ ?_
   ·all_goals
     refine each_5 ?_ ?_ ?_ ?_ ?_ (each_c ?_ (each_n))
     ·intro w1 hg Ar seen
      have s9 := seen.sl 9 (.pointer (some ⟨p, 0, none⟩))
      refine does_plain rfl fun K Q' hK => ?_
      go_simp; exact hK _ _ (Grow.refl _) rfl
     ·intro w1 hg Ar seen
      have e0 := seen.de 0 17
      refine does_plain rfl fun K Q' hK => ?_
      have hc := cell_of_block (j := 4) ((hg.block _ (block_lt HJ0.out.blk)).trans HJ0.out.blk) (ar4 _)
      go_simp; exact hK _ _ (Grow.refl _) rfl
     ·intro w1 hg Ar seen
      have s0 := seen.sl 0 (.int .i64 alg)
      refine does_plain rfl fun K Q' hK => ?_
      go_simp; exact hK _ _ (Grow.refl _) rfl
     ·intro w1 hg Ar seen
      have e2 := seen.de 2 19
      refine does_plain rfl fun K Q' hK => ?_
      go_simp
      refine (handNum_any _ _ _ _).mono ?_
      rintro e u ⟨rfl, hb⟩
      exact hK _ _ hb ⟨_, rfl, numV_ok _ _ _ _, numV_foot _, by simp, numV_nz _ _ _⟩
     ·intro w1 hg Ar seen
      obtain ⟨v3, e3, h3⟩ := seen.dp 3 20
      refine does_plain rfl fun K Q' hK => ?_
      obtain ⟨x, rfl, hxo, hxf, hxt, hxn⟩ := h3
      go_simp
      refine (set_any _ x (fun k => cw ≤ k) _ (by decide) hxo hxn hxt hxf (fun k hk => by have h1 := HCW.out; have h2 := hg.size; omega)).mono ?_
      rintro e u ⟨v, rfl, hvo, hvn, hvf, hvt, hb⟩
      exact hK _ _ hb ⟨v, rfl, hvo, hvf, hvt, hvn⟩
     ·intro w1 hg Ar seen
      obtain ⟨v4, e4, h4⟩ := seen.dp 4 21
      refine does_plain rfl fun K Q' hK => ?_
      obtain ⟨x4, rfl, ho4, hf4, ht4⟩ := h4
      refine wp_build_itemsP _ 27 1 _ rfl [x4] rfl (by decide) (by decide) (by simp [Act.eval, e4] <;> rfl) (x4.arr) (by simp [itmCells, ItV.cells]) i Tryd.underlying25 hi hz0 hz1 (fill1 x4) ?_
      intro s hn hs
      exact hK _ _ ((Below.refl _ _).alloc (Nat.le_refl _) _) ⟨s, x4, rfl, hn, hs, ho4.below ((Below.refl _ _).alloc (Nat.le_refl _) _), hf4, ht4⟩
   intro w1 hg
   refine upon_w' (js := [0, 1, 2, 3, 4, 5]) (by rfl) ?_
   refine upon_e (some 17) (upon_e (some 18) (upon_e (some 19) (upon_v (some 20) fun v3 h3 => upon_v (some 21) fun v4 h4 => upon_v (some 22) fun v5 h5 => upon_n ?_)))
   have HBG := hid ((HBW.out.trans (hg.mono HZW.out)))
   obtain ⟨s1, y1, rfl, hn1, hs1, hyo, hyf, hyt⟩ := h5
   obtain ⟨a1, n1, c1⟩ := s1
   simp only at hn1
   subst hn1
   have hyap : ∀ k ∈ y1.foot, s.v.ownBlock ≠ some k ∧ k ≠ p := fun k hk => by
    have h1 := hyf k hk; have h2 := HQ0.out.1; have h3 := HCW.out; have h5 := HQ0.out.2.1
    exact ⟨fun he => by have h4 := HQ0.out.2.2.2.2.1 k he; omega, by omega⟩
   have hyF : ∀ k ∈ y1.foot, ((fun k => b + 1 ≤ k) : Nat → Prop) k := fun k hk => by
    have h1 := hyf k hk; have h2 := HQ0.out.1; have h3 := HCW.out; have h4 := HQ0.out.2.2.1; have h5 := HQ0.out.2.1
    exact HQ0.out.2.2.2.1 k (by omega)
   obtain ⟨ys, hys⟩ : ∃ ys, ys = [y1] := ⟨_, rfl⟩
   rw [← hys] at hs1
   have HJ := hid (HJ0.out.below hg)
   have HQ := hid (And.intro HQ0.out.1 (And.intro (Nat.le_trans HQ0.out.2.1 hg.size) HQ0.out.2.2))
   have HYS := hid (And.intro (show ∀ y ∈ ys, y.ok _ from fun y hy => by rw [hys] at hy; rw [List.mem_singleton.1 hy]; exact hyo) (And.intro (show ∀ y ∈ ys, ∀ k ∈ y.foot, s.v.ownBlock ≠ some k ∧ k ≠ p from fun y hy k hk => by rw [hys] at hy; rw [List.mem_singleton.1 hy] at hk; exact hyap k hk) (And.intro (show ∀ y ∈ ys, y.typ ≠ 0 ∧ nz y.it = true from fun y hy => by rw [hys] at hy; rw [List.mem_singleton.1 hy]; exact hyt) (show ∀ y ∈ ys, ∀ k ∈ y.foot, ((fun k => b + 1 ≤ k) : Nat → Prop) k from fun y hy k hk => by rw [hys] at hy; rw [List.mem_singleton.1 hy] at hk; exact hyF k hk))))
   have HS1 := hid hs1
   clear hs1 hyo hyap hyF hyt hg HJ0 HQ0 hys hyf HCW h3 h4
   go_simp
   go_wp2_with (at_builtin; go_must (refine wpList_append_c rfl _ _ 25 rfl (b + 1) 27 i _ 5 72 Tryd.underlying25 hi hz0 hz1 hz2 rfl (by decide) (.slice s.a s.n s.c) s.n _ rfl HJ.out.own.own _ 1 _ (itmCells ys) rfl HS1.out.rd (itm_one ys) HS1.out.no (by have := HSN.out; unfold maxLen; omega) (by have := HSN.out; omega) (by have := HQ.out; omega) ?_); intro a' c' w8 hown hgw hfr; have hpush := PObj.pushed (F := (fun k => b + 1 ≤ k)) HJ.out HQ.out.2.2.2.2.1 HQ.out.2.2.2.2.2.1 HQ.out.2.2.2.2.2.2 HQ.out.1 HQ.out.2.1 HQ.out.2.2.1 HQ.out.2.2.2.1 HYS.out.1 HYS.out.2.1 HYS.out.2.2.1 HYS.out.2.2.2 hown hgw hfr; have hq4 := cell_of_block (j := 4) hpush.1 (ar4 _); have hp8 := hid hpush.1; have hfz : ∀ j, w8.frozen? ⟨p, j, none⟩ = false := (fun j => frozen_of_block hp8.out); have HPN := hid hpush.2; have HBN := hid (HBG.out.trans hpush.2.2.1); clear hown hgw hfr hpush hp8)
   go_meet
   exact ⟨m + 1, _, by omega, HPN.out.1.num (by rw [HSN.out]), HBN.out⟩
 case rest =>
  obtain ⟨m, c, hm, hpo, hbw⟩ := hcut
  clear hm0
  go_upto_if 27 with (fail)
  go_cut [] (fun wx => ∃ m c, m ≤ 2 ∧ PObj wx 4325521 (fun k => b + 1 ≤ k) (b + 1) p m c ∧ Below (b + 1) W wx)
  case first =>
   have HP := hid hpo; have HBW := hid hbw
   have HZW : Hid (b + 1 ≤ wc.heap.size) := Nat.le_trans HP.out.lt.2.2.1 (Nat.le_trans (Nat.le_of_lt HP.out.lt.1) HP.out.lt.2.1)
   clear hpo hbw
   by_cases hl : lack.tmod 11 = 2
   ·have hlb : (lack.tmod 11 == 2) = true := by simpa using hl
    go_wp2_with fail
    go_meet
    exact ⟨m, _, by omega, HP.out, HBW.out⟩
   ·have hlb : (lack.tmod 11 == 2) = false := by simpa using hl
    go_upto_region 5 with (fail)
    obtain ⟨s, l, hj, hsn, hown, hnzl, hlol, hpc, hcw, hzp, hloz⟩ := HP.out
    have HJ0 := hid hj; have HSN := hid hsn; have HQ0 := hid (And.intro hpc (And.intro hcw (And.intro hzp (And.intro hloz (And.intro hown (And.intro hnzl hlol))))))
    clear hj hsn hown hnzl hlol hpc hcw hzp hloz HP
    obtain ⟨cw, hcw⟩ : ∃ c, c = wc.heap.size := ⟨_, rfl⟩
    have HCW : Hid (wc.heap.size = cw) := hcw.symm
    clear hcw
    refine wp_region_each 6 [.eq (.pointer (some ⟨p, 4, none⟩)), .eq (.slice s.a s.n s.c), .eq (.int .i64 len), stKidG cw, stKidG cw, stKidsG cw] (by kernel_rfl) (by kernel_rfl) (by kernel_rfl) (by kernel_rfl) ?_ ?_
    ·all_goals
      refine each_5 ?_ ?_ ?_ ?_ ?_ (each_c ?_ (each_n))
      ·intro w1 hg Ar seen
       have s9 := seen.sl 9 (.pointer (some ⟨p, 0, none⟩))
       refine does_plain rfl fun K Q' hK => ?_
       go_simp; exact hK _ _ (Grow.refl _) rfl
      ·intro w1 hg Ar seen
       have e0 := seen.de 0 28
       refine does_plain rfl fun K Q' hK => ?_
       have hc := cell_of_block (j := 4) ((hg.block _ (block_lt HJ0.out.blk)).trans HJ0.out.blk) (ar4 _)
       go_simp; exact hK _ _ (Grow.refl _) rfl
      ·intro w1 hg Ar seen
       have s1 := seen.sl 1 (.int .i64 len)
       refine does_plain rfl fun K Q' hK => ?_
       go_simp; exact hK _ _ (Grow.refl _) rfl
      ·intro w1 hg Ar seen
       have e2 := seen.de 2 30
       refine does_plain rfl fun K Q' hK => ?_
       go_simp
       refine (handNum_any _ _ _ _).mono ?_
       rintro e u ⟨rfl, hb⟩
       exact hK _ _ hb ⟨_, rfl, numV_ok _ _ _ _, numV_foot _, by simp, numV_nz _ _ _⟩
      ·intro w1 hg Ar seen
       obtain ⟨v3, e3, h3⟩ := seen.dp 3 31
       refine does_plain rfl fun K Q' hK => ?_
       obtain ⟨x, rfl, hxo, hxf, hxt, hxn⟩ := h3
       go_simp
       refine (set_any _ x (fun k => cw ≤ k) _ (by decide) hxo hxn hxt hxf (fun k hk => by have h1 := HCW.out; have h2 := hg.size; omega)).mono ?_
       rintro e u ⟨v, rfl, hvo, hvn, hvf, hvt, hb⟩
       exact hK _ _ hb ⟨v, rfl, hvo, hvf, hvt, hvn⟩
      ·intro w1 hg Ar seen
       obtain ⟨v4, e4, h4⟩ := seen.dp 4 32
       refine does_plain rfl fun K Q' hK => ?_
       obtain ⟨x4, rfl, ho4, hf4, ht4⟩ := h4
       refine wp_build_itemsP _ 27 1 _ rfl [x4] rfl (by decide) (by decide) (by simp [Act.eval, e4] <;> rfl) (x4.arr) (by simp [itmCells, ItV.cells]) i Tryd.underlying25 hi hz0 hz1 (fill1 x4) ?_
       intro s hn hs
       exact hK _ _ ((Below.refl _ _).alloc (Nat.le_refl _) _) ⟨s, x4, rfl, hn, hs, ho4.below ((Below.refl _ _).alloc (Nat.le_refl _) _), hf4, ht4⟩
    intro w1 hg
    refine upon_w' (js := [0, 1, 2, 3, 4, 5]) (by rfl) ?_
    refine upon_e (some 28) (upon_e (some 29) (upon_e (some 30) (upon_v (some 31) fun v3 h3 => upon_v (some 32) fun v4 h4 => upon_v (some 33) fun v5 h5 => upon_n ?_)))
    have HBG := hid ((HBW.out.trans (hg.mono HZW.out)))
    obtain ⟨s1, y1, rfl, hn1, hs1, hyo, hyf, hyt⟩ := h5
    obtain ⟨a1, n1, c1⟩ := s1
    simp only at hn1
    subst hn1
    have hyap : ∀ k ∈ y1.foot, s.v.ownBlock ≠ some k ∧ k ≠ p := fun k hk => by
     have h1 := hyf k hk; have h2 := HQ0.out.1; have h3 := HCW.out; have h5 := HQ0.out.2.1
     exact ⟨fun he => by have h4 := HQ0.out.2.2.2.2.1 k he; omega, by omega⟩
    have hyF : ∀ k ∈ y1.foot, ((fun k => b + 1 ≤ k) : Nat → Prop) k := fun k hk => by
     have h1 := hyf k hk; have h2 := HQ0.out.1; have h3 := HCW.out; have h4 := HQ0.out.2.2.1; have h5 := HQ0.out.2.1
     exact HQ0.out.2.2.2.1 k (by omega)
    obtain ⟨ys, hys⟩ : ∃ ys, ys = [y1] := ⟨_, rfl⟩
    rw [← hys] at hs1
    have HJ := hid (HJ0.out.below hg)
    have HQ := hid (And.intro HQ0.out.1 (And.intro (Nat.le_trans HQ0.out.2.1 hg.size) HQ0.out.2.2))
    have HYS := hid (And.intro (show ∀ y ∈ ys, y.ok _ from fun y hy => by rw [hys] at hy; rw [List.mem_singleton.1 hy]; exact hyo) (And.intro (show ∀ y ∈ ys, ∀ k ∈ y.foot, s.v.ownBlock ≠ some k ∧ k ≠ p from fun y hy k hk => by rw [hys] at hy; rw [List.mem_singleton.1 hy] at hk; exact hyap k hk) (And.intro (show ∀ y ∈ ys, y.typ ≠ 0 ∧ nz y.it = true from fun y hy => by rw [hys] at hy; rw [List.mem_singleton.1 hy]; exact hyt) (show ∀ y ∈ ys, ∀ k ∈ y.foot, ((fun k => b + 1 ≤ k) : Nat → Prop) k from fun y hy k hk => by rw [hys] at hy; rw [List.mem_singleton.1 hy] at hk; exact hyF k hk))))
    have HS1 := hid hs1
    clear hs1 hyo hyap hyF hyt hg HJ0 HQ0 hys hyf HCW h3 h4
    go_simp
    go_wp2_with (at_builtin; go_must (refine wpList_append_c rfl _ _ 25 rfl (b + 1) 27 i _ 5 72 Tryd.underlying25 hi hz0 hz1 hz2 rfl (by decide) (.slice s.a s.n s.c) s.n _ rfl HJ.out.own.own _ 1 _ (itmCells ys) rfl HS1.out.rd (itm_one ys) HS1.out.no (by have := HSN.out; unfold maxLen; omega) (by have := HSN.out; omega) (by have := HQ.out; omega) ?_); intro a' c' w8 hown hgw hfr; have hpush := PObj.pushed (F := (fun k => b + 1 ≤ k)) HJ.out HQ.out.2.2.2.2.1 HQ.out.2.2.2.2.2.1 HQ.out.2.2.2.2.2.2 HQ.out.1 HQ.out.2.1 HQ.out.2.2.1 HQ.out.2.2.2.1 HYS.out.1 HYS.out.2.1 HYS.out.2.2.1 HYS.out.2.2.2 hown hgw hfr; have hq4 := cell_of_block (j := 4) hpush.1 (ar4 _); have hp8 := hid hpush.1; have hfz : ∀ j, w8.frozen? ⟨p, j, none⟩ = false := (fun j => frozen_of_block hp8.out); have HPN := hid hpush.2; have HBN := hid (HBG.out.trans hpush.2.2.1); clear hown hgw hfr hpush hp8)
    go_meet
    exact ⟨m + 1, _, by omega, HPN.out.1.num (by rw [HSN.out]), HBN.out⟩
  case rest =>
   obtain ⟨m, c, hm, hpo, hbw⟩ := hcut
   go_upto_if 38 with (fail)
   go_cut [] (fun wx => ∃ m c, m ≤ 3 ∧ PObj wx 4325521 (fun k => b + 1 ≤ k) (b + 1) p m c ∧ Below (b + 1) W wx)
   case first =>
    have HP := hid hpo; have HBW := hid hbw
    have HZW : Hid (b + 1 ≤ wc.heap.size) := Nat.le_trans HP.out.lt.2.2.1 (Nat.le_trans (Nat.le_of_lt HP.out.lt.1) HP.out.lt.2.1)
    clear hpo hbw
    by_cases hl : lack.tmod 11 = 3
    ·have hlb : (lack.tmod 11 == 3) = true := by simpa using hl
     go_wp2_with fail
     go_meet
     exact ⟨m, _, by omega, HP.out, HBW.out⟩
    ·have hlb : (lack.tmod 11 == 3) = false := by simpa using hl
     go_upto_region 7 with (fail)
     obtain ⟨s, l, hj, hsn, hown, hnzl, hlol, hpc, hcw, hzp, hloz⟩ := HP.out
     have HJ0 := hid hj; have HSN := hid hsn; have HQ0 := hid (And.intro hpc (And.intro hcw (And.intro hzp (And.intro hloz (And.intro hown (And.intro hnzl hlol))))))
     clear hj hsn hown hnzl hlol hpc hcw hzp hloz HP
     obtain ⟨cw, hcw⟩ : ∃ c, c = wc.heap.size := ⟨_, rfl⟩
     have HCW : Hid (wc.heap.size = cw) := hcw.symm
     clear hcw
     refine wp_region_each 9 [.eq (.pointer (some ⟨p, 4, none⟩)), .eq (.slice s.a s.n s.c), .eq (.agg #[.int .i64 396, .int .i64 396, .int .i64 12, .int .i64 384, .int .i64 4, .int .i64 0]), .eq (.int .i64 lack), .eq (.int .i64 (pick lack 6)), .eq (.int .i64 ([396, 396, 12, 384, 4, 0].getD (pickN lack 6) 0)), stKidG cw, stKidG cw, stKidsG cw] (by kernel_rfl) (by kernel_rfl) (by kernel_rfl) (by kernel_rfl) ?_ ?_
     ·all_goals
       refine each_5 ?_ ?_ ?_ ?_ ?_ (each_c ?_ (each_c ?_ (each_c ?_ (each_c ?_ (each_n)))))
       ·intro w1 hg Ar seen
        have s9 := seen.sl 9 (.pointer (some ⟨p, 0, none⟩))
        refine does_plain rfl fun K Q' hK => ?_
        go_simp; exact hK _ _ (Grow.refl _) rfl
       ·intro w1 hg Ar seen
        have e0 := seen.de 0 39
        refine does_plain rfl fun K Q' hK => ?_
        have hc := cell_of_block (j := 4) ((hg.block _ (block_lt HJ0.out.blk)).trans HJ0.out.blk) (ar4 _)
        go_simp; exact hK _ _ (Grow.refl _) rfl
       ·intro w1 hg Ar seen
        refine does_plain rfl fun K Q' hK => ?_
        go_simp; exact hK _ _ (Grow.refl _) rfl
       ·intro w1 hg Ar seen
        have s3 := seen.sl 3 (.int .i64 lack)
        refine does_plain rfl fun K Q' hK => ?_
        go_simp; exact hK _ _ (Grow.refl _) rfl
       ·intro w1 hg Ar seen
        have e3 := seen.de 3 42
        refine does_plain rfl fun K Q' hK => ?_
        go_simp
        refine (pick_any lack 6 _ (by omega) (by omega)).mono ?_
        rintro e u ⟨rfl, rfl⟩
        exact hK _ _ (Grow.refl _) rfl
       ·intro w1 hg Ar seen
        have e2 := seen.de 2 41
        have e4 := seen.de 4 43
        refine does_plain rfl fun K Q' hK => ?_
        refine wp_index_row _ _ rfl Tryd.underlying84 sizeInt' Tryd.underlying3 rfl (intsA [396, 396, 12, 384, 4, 0]) (by simp [Act.eval, e2, intsA]) _ (by simp [Act.eval, e4]) (pickN lack 6) (pickN_eq _ _ (by omega)) _ (pickN_lt _ 6 (by omega)) (intsA_get [396, 396, 12, 384, 4, 0] _ (pickN_lt _ 6 (by omega))) ?_
        exact hK _ _ (Grow.refl _) rfl
       ·intro w1 hg Ar seen
        have e5 := seen.de 5 44
        refine does_plain rfl fun K Q' hK => ?_
        go_simp
        refine (handNum_any _ _ _ _).mono ?_
        rintro e u ⟨rfl, hb⟩
        exact hK _ _ hb ⟨_, rfl, numV_ok _ _ _ _, numV_foot _, by simp, numV_nz _ _ _⟩
       ·intro w1 hg Ar seen
        obtain ⟨v6, e6, h6⟩ := seen.dp 6 45
        refine does_plain rfl fun K Q' hK => ?_
        obtain ⟨x, rfl, hxo, hxf, hxt, hxn⟩ := h6
        go_simp
        refine (set_any _ x (fun k => cw ≤ k) _ (by decide) hxo hxn hxt hxf (fun k hk => by have h1 := HCW.out; have h2 := hg.size; omega)).mono ?_
        rintro e u ⟨v, rfl, hvo, hvn, hvf, hvt, hb⟩
        exact hK _ _ hb ⟨v, rfl, hvo, hvf, hvt, hvn⟩
       ·intro w1 hg Ar seen
        obtain ⟨v7, e7, h7⟩ := seen.dp 7 46
        refine does_plain rfl fun K Q' hK => ?_
        obtain ⟨x4, rfl, ho4, hf4, ht4⟩ := h7
        refine wp_build_itemsP _ 27 1 _ rfl [x4] rfl (by decide) (by decide) (by simp [Act.eval, e7] <;> rfl) (x4.arr) (by simp [itmCells, ItV.cells]) i Tryd.underlying25 hi hz0 hz1 (fill1 x4) ?_
        intro s hn hs
        exact hK _ _ ((Below.refl _ _).alloc (Nat.le_refl _) _) ⟨s, x4, rfl, hn, hs, ho4.below ((Below.refl _ _).alloc (Nat.le_refl _) _), hf4, ht4⟩
     intro w1 hg
     refine upon_w' (js := [0, 1, 2, 3, 4, 5, 6, 7, 8]) (by rfl) ?_
     refine upon_e (some 39) (upon_e (some 40) (upon_e (some 41) (upon_e (some 42) (upon_e (some 43) (upon_e (some 44) (upon_v (some 45) fun v6 h6 => upon_v (some 46) fun v7 h7 => upon_v (some 47) fun v8 h8 => upon_n ?_))))))
     have HBG := hid ((HBW.out.trans (hg.mono HZW.out)))
     obtain ⟨s1, y1, rfl, hn1, hs1, hyo, hyf, hyt⟩ := h8
     obtain ⟨a1, n1, c1⟩ := s1
     simp only at hn1
     subst hn1
     have hyap : ∀ k ∈ y1.foot, s.v.ownBlock ≠ some k ∧ k ≠ p := fun k hk => by
      have h1 := hyf k hk; have h2 := HQ0.out.1; have h3 := HCW.out; have h5 := HQ0.out.2.1
      exact ⟨fun he => by have h4 := HQ0.out.2.2.2.2.1 k he; omega, by omega⟩
     have hyF : ∀ k ∈ y1.foot, ((fun k => b + 1 ≤ k) : Nat → Prop) k := fun k hk => by
      have h1 := hyf k hk; have h2 := HQ0.out.1; have h3 := HCW.out; have h4 := HQ0.out.2.2.1; have h5 := HQ0.out.2.1
      exact HQ0.out.2.2.2.1 k (by omega)
     obtain ⟨ys, hys⟩ : ∃ ys, ys = [y1] := ⟨_, rfl⟩
     rw [← hys] at hs1
     have HJ := hid (HJ0.out.below hg)
     have HQ := hid (And.intro HQ0.out.1 (And.intro (Nat.le_trans HQ0.out.2.1 hg.size) HQ0.out.2.2))
     have HYS := hid (And.intro (show ∀ y ∈ ys, y.ok _ from fun y hy => by rw [hys] at hy; rw [List.mem_singleton.1 hy]; exact hyo) (And.intro (show ∀ y ∈ ys, ∀ k ∈ y.foot, s.v.ownBlock ≠ some k ∧ k ≠ p from fun y hy k hk => by rw [hys] at hy; rw [List.mem_singleton.1 hy] at hk; exact hyap k hk) (And.intro (show ∀ y ∈ ys, y.typ ≠ 0 ∧ nz y.it = true from fun y hy => by rw [hys] at hy; rw [List.mem_singleton.1 hy]; exact hyt) (show ∀ y ∈ ys, ∀ k ∈ y.foot, ((fun k => b + 1 ≤ k) : Nat → Prop) k from fun y hy k hk => by rw [hys] at hy; rw [List.mem_singleton.1 hy] at hk; exact hyF k hk))))
     have HS1 := hid hs1
     clear hs1 hyo hyap hyF hyt hg HJ0 HQ0 hys hyf HCW h6 h7
     go_simp
     go_wp2_with (at_builtin; go_must (refine wpList_append_c rfl _ _ 25 rfl (b + 1) 27 i _ 5 72 Tryd.underlying25 hi hz0 hz1 hz2 rfl (by decide) (.slice s.a s.n s.c) s.n _ rfl HJ.out.own.own _ 1 _ (itmCells ys) rfl HS1.out.rd (itm_one ys) HS1.out.no (by have := HSN.out; unfold maxLen; omega) (by have := HSN.out; omega) (by have := HQ.out; omega) ?_); intro a' c' w8 hown hgw hfr; have hpush := PObj.pushed (F := (fun k => b + 1 ≤ k)) HJ.out HQ.out.2.2.2.2.1 HQ.out.2.2.2.2.2.1 HQ.out.2.2.2.2.2.2 HQ.out.1 HQ.out.2.1 HQ.out.2.2.1 HQ.out.2.2.2.1 HYS.out.1 HYS.out.2.1 HYS.out.2.2.1 HYS.out.2.2.2 hown hgw hfr; have hq4 := cell_of_block (j := 4) hpush.1 (ar4 _); have hp8 := hid hpush.1; have hfz : ∀ j, w8.frozen? ⟨p, j, none⟩ = false := (fun j => frozen_of_block hp8.out); have HPN := hid hpush.2; have HBN := hid (HBG.out.trans hpush.2.2.1); clear hown hgw hfr hpush hp8)
     go_meet
     exact ⟨m + 1, _, by omega, HPN.out.1.num (by rw [HSN.out]), HBN.out⟩
   case rest =>
    obtain ⟨m, c, hm, hpo, hbw⟩ := hcut
    have hn0 : (0 : Int) ≤ (n : Int) := by omega
    go_wp2_with fail
    go_loopw [10] (fun u wr => ∃ (k m c : Nat), k ≤ n ∧ k ≤ 4 ∧ m ≤ 3 + k ∧ u = .int .i64 (k : Int) ∧ PObj wr 4325521 (fun k => b + 1 ≤ k) (b + 1) p m c ∧ Below (b + 1) W wr) (fun u _ => 4 - (intOf u).toNat)
    case atStart => exact ⟨0, m, c, Nat.zero_le _, Nat.zero_le _, by omega, rfl, hpo, hbw⟩
    case round =>
     clear hpo hbw hm
     obtain ⟨k, m, c, hkn, hk4, hm, rfl, hpo, hbw⟩ := hrel
     have HP := hid hpo; have HBW := hid hbw
     have HZW : Hid (b + 1 ≤ wr.heap.size) := Nat.le_trans HP.out.lt.2.2.1 (Nat.le_trans (Nat.le_of_lt HP.out.lt.1) HP.out.lt.2.1)
     clear hpo hbw
     have FIN := hid (HP.out.fin (by omega))
     by_cases hlt : k < n
     ·by_cases hlt4 : k < 4
      ·clear FIN
       have HALR := hid (raws_below HAL0.out (by rw [HS0.out]; exact HBW.out))
       obtain ⟨by_, oy, y, hay, hy, hyok, c0, c1, c2, c3⟩ := raw_get HALR.out hlt
       subst hay
       have HRG := hid (raw_range c0 c1 c2 c3)
       have HYOK := hid hyok
       clear c0 c1 c2 c3 hy hyok HALR
       go_upto_region 12 with (first | (refine wpList_load_mid rfl 75 _ rfl by_ (oy + k * 4) rfl y.cells.toList _ HRG.out Tryd.underlying75 rfl rawSz ?_; simp only [Array.toArray_toList]) | (refine wpList_alloc_obj rfl 75 rfl _ rawZero ?_) | (refine wpList_store_obj rfl 75 _ _ rfl wr.heap.size rfl y.cells rfl _ _ (block_new wr _) rfl rawSz (raw_one y) ?_; intro w2 hb2 hc2 hs2; have HY := hid hb2; have HC2 := hid hc2; clear hb2 hc2 hs2))
       have hb2 : Below wr.heap.size wr w2 := ((Below.refl _ wr).alloc (Nat.le_refl _) _).trans (HC2.out.below (fun k hk => by rw [List.mem_singleton.1 hk]; exact Nat.le_refl _) (by simp))
       have HP2 := hid (HP.out.below hb2)
       have HBW2 := hid (HBW.out.trans (hb2.mono HZW.out))
       have HZW2 : Hid (b + 1 ≤ w2.heap.size) := Nat.le_trans HZW.out hb2.size
       clear hb2 HC2 HRG HP HBW HZW
       have HP := HP2; have HBW := HBW2; have HZW := HZW2
       clear HP2 HBW2 HZW2
       generalize wr.heap.size = q at *
       have y0 := cell_of_block (j := 0) (v := .int .i64 y.kind) HY.out rfl
       have HPK : Hid (pick y.kind 10 = (pickN y.kind 10 : Int)) := pickN_eq _ 10 (by omega)
       have HLK : Hid (pickN y.kind 10 < 10) := pickN_lt _ 10 (by omega)
       have HGK := hid (strsA_get nm10 (pickN y.kind 10) (by simpa [nm10] using HLK.out))
       have HNM := hid (nm10_size (pickN y.kind 10))
       generalize nm10.getD (pickN y.kind 10) ⟨#[]⟩ = nm at *
       refine wp_region_lit ?_
       refine wpList_build_obj rfl 97 _ rfl #[(0, .string ⟨#[78, 97, 109, 101]⟩), (1, .string ⟨#[65, 99, 116, 105, 118, 97, 116, 105, 111, 110, 32, 68, 97, 116, 101]⟩), (2, .string ⟨#[65, 99, 116, 105, 118, 97, 116, 105, 111, 110, 32, 68, 97, 116, 101]⟩), (3, .string ⟨#[68, 101, 97, 99, 116, 105, 118, 97, 116, 105, 111, 110, 32, 68, 97, 116, 101]⟩), (4, .string ⟨#[85, 115, 97, 103, 101, 32, 76, 105, 109, 105, 116, 115]⟩), (5, .string ⟨#[120, 45, 97]⟩), (6, .string ⟨#[80, 114, 111, 99, 101, 115, 115, 32, 83, 116, 97, 114, 116, 32, 68, 97, 116, 101]⟩), (7, .string ⟨#[80, 114, 111, 116, 101, 99, 116, 32, 83, 116, 111, 112, 32, 68, 97, 116, 101]⟩), (8, .string ⟨#[76, 105, 110, 107]⟩), (9, .string ⟨#[83, 116, 97, 116, 101]⟩)] (by kernel_rfl) _ (HBU.out _) ?_
       generalize strsA nm10 = SA at *
       go_simp
       go_wp2_with fail
       refine (pick_any y.kind 10 _ (by omega) (by omega)).mono ?_
       rintro e u ⟨rfl, rfl⟩
       rw [HPK.out]
       go_upto_region 13 with (refine wpList_index_row rfl _ _ rfl Tryd.underlying97 sizeStr Tryd.underlying9 rfl SA rfl _ rfl (pickN y.kind 10) rfl _ HLK.out HGK.out ?_)
       clear y0
       obtain ⟨s, l, hj, hsn, hown, hnzl, hlol, hpc, hcw, hzp, hloz⟩ := HP.out
       have HJ0 := hid hj; have HSN := hid hsn; have HQ0 := hid (And.intro hpc (And.intro hcw (And.intro hzp (And.intro hloz (And.intro hown (And.intro hnzl hlol))))))
       clear hj hsn hown hnzl hlol hpc hcw hzp hloz HP
       obtain ⟨cw, hcw⟩ : ∃ c, c = w2.heap.size := ⟨_, rfl⟩
       have HCW : Hid (w2.heap.size = cw) := hcw.symm
       clear hcw
       refine wp_region_each 8 [.eq (.pointer (some ⟨p, 4, none⟩)), .eq (.slice s.a s.n s.c), .eq (.string nm), .eq (.string nm), .eq (.agg y.cells), stKidG cw, stKidG cw, stKidsG cw] (by kernel_rfl) (by kernel_rfl) (by kernel_rfl) (by kernel_rfl) ?_ ?_
       ·all_goals
         refine each_5 ?_ ?_ ?_ ?_ ?_ (each_c ?_ (each_c ?_ (each_c ?_ (each_n))))
         ·intro w1 hg Ar seen
          have s9 := seen.sl 9 (.pointer (some ⟨p, 0, none⟩))
          refine does_plain rfl fun K Q' hK => ?_
          go_simp; exact hK _ _ (Grow.refl _) rfl
         ·intro w1 hg Ar seen
          have e0 := seen.de 0 69
          refine does_plain rfl fun K Q' hK => ?_
          have hc := cell_of_block (j := 4) ((hg.block _ (block_lt HJ0.out.blk)).trans HJ0.out.blk) (ar4 _)
          go_simp; exact hK _ _ (Grow.refl _) rfl
         ·intro w1 hg Ar seen
          have s12 := seen.sl 12 (.string nm)
          refine does_plain rfl fun K Q' hK => ?_
          go_simp; exact hK _ _ (Grow.refl _) rfl
         ·intro w1 hg Ar seen
          have s12 := seen.sl 12 (.string nm)
          refine does_plain rfl fun K Q' hK => ?_
          go_simp; exact hK _ _ (Grow.refl _) rfl
         ·intro w1 hg Ar seen
          have s11 := seen.sl 11 (.pointer (some ⟨q, 0, none⟩))
          refine does_plain rfl fun K Q' hK => ?_
          refine wp_load_row 75 _ rfl q (by simp [Act.eval, s11]) _ _ _ _ ((hg.block _ (block_lt HY.out)).trans HY.out) Tryd.underlying75 rfl rawSzA ?_
          exact hK _ _ (Grow.refl _) rfl
         ·intro w1 hg Ar seen
          have e3 := seen.de 3 72
          have e4 := seen.de 4 73
          refine does_plain rfl fun K Q' hK => ?_
          go_simp
          refine (value_any nm y HYOK.out _).mono ?_
          rintro e u ⟨v, rfl, hvo, hvn, hb, hvf, hvt⟩
          exact hK _ _ hb ⟨v, rfl, hvo, (fun k hk => by have h0 := hvf k hk; have h1 := HCW.out; have h2 := hg.size; omega), hvt, hvn⟩
         ·intro w1 hg Ar seen
          obtain ⟨v2, e2, h2⟩ := seen.dp 2 71
          rcases h2 with rfl
          obtain ⟨v5, e5, h5⟩ := seen.dp 5 74
          refine does_plain rfl fun K Q' hK => ?_
          obtain ⟨x, rfl, hxo, hxf, hxt, hxn⟩ := h5
          go_simp
          refine (set_any _ x (fun k => cw ≤ k) _ (by have := HNM.out; omega) hxo hxn hxt hxf (fun k hk => by have h1 := HCW.out; have h2 := hg.size; omega)).mono ?_
          rintro e u ⟨v, rfl, hvo, hvn, hvf, hvt, hb⟩
          exact hK _ _ hb ⟨v, rfl, hvo, hvf, hvt, hvn⟩
         ·intro w1 hg Ar seen
          obtain ⟨v6, e6, h6⟩ := seen.dp 6 75
          refine does_plain rfl fun K Q' hK => ?_
          obtain ⟨x4, rfl, ho4, hf4, ht4⟩ := h6
          refine wp_build_itemsP _ 27 1 _ rfl [x4] rfl (by decide) (by decide) (by simp [Act.eval, e6] <;> rfl) (x4.arr) (by simp [itmCells, ItV.cells]) i Tryd.underlying25 hi hz0 hz1 (fill1 x4) ?_
          intro s hn hs
          exact hK _ _ ((Below.refl _ _).alloc (Nat.le_refl _) _) ⟨s, x4, rfl, hn, hs, ho4.below ((Below.refl _ _).alloc (Nat.le_refl _) _), hf4, ht4⟩
       intro w1 hg
       refine upon_w' (js := [0, 1, 2, 3, 4, 5, 6, 7]) (by rfl) ?_
       refine upon_e (some 69) (upon_e (some 70) (upon_e (some 71) (upon_e (some 72) (upon_e (some 73) (upon_v (some 74) fun v5 h5 => upon_v (some 75) fun v6 h6 => upon_v (some 76) fun v7 h7 => upon_n ?_)))))
       have HBG := hid ((HBW.out.trans (hg.mono HZW.out)))
       obtain ⟨s1, y1, rfl, hn1, hs1, hyo, hyf, hyt⟩ := h7
       obtain ⟨a1, n1, c1⟩ := s1
       simp only at hn1
       subst hn1
       have hyap : ∀ k ∈ y1.foot, s.v.ownBlock ≠ some k ∧ k ≠ p := fun k hk => by
        have h1 := hyf k hk; have h2 := HQ0.out.1; have h3 := HCW.out; have h5 := HQ0.out.2.1
        exact ⟨fun he => by have h4 := HQ0.out.2.2.2.2.1 k he; omega, by omega⟩
       have hyF : ∀ k ∈ y1.foot, ((fun k => b + 1 ≤ k) : Nat → Prop) k := fun k hk => by
        have h1 := hyf k hk; have h2 := HQ0.out.1; have h3 := HCW.out; have h4 := HQ0.out.2.2.1; have h5 := HQ0.out.2.1
        exact HQ0.out.2.2.2.1 k (by omega)
       obtain ⟨ys, hys⟩ : ∃ ys, ys = [y1] := ⟨_, rfl⟩
       rw [← hys] at hs1
       have HJ := hid (HJ0.out.below hg)
       have HQ := hid (And.intro HQ0.out.1 (And.intro (Nat.le_trans HQ0.out.2.1 hg.size) HQ0.out.2.2))
       have HYS := hid (And.intro (show ∀ y ∈ ys, y.ok _ from fun y hy => by rw [hys] at hy; rw [List.mem_singleton.1 hy]; exact hyo) (And.intro (show ∀ y ∈ ys, ∀ k ∈ y.foot, s.v.ownBlock ≠ some k ∧ k ≠ p from fun y hy k hk => by rw [hys] at hy; rw [List.mem_singleton.1 hy] at hk; exact hyap k hk) (And.intro (show ∀ y ∈ ys, y.typ ≠ 0 ∧ nz y.it = true from fun y hy => by rw [hys] at hy; rw [List.mem_singleton.1 hy]; exact hyt) (show ∀ y ∈ ys, ∀ k ∈ y.foot, ((fun k => b + 1 ≤ k) : Nat → Prop) k from fun y hy k hk => by rw [hys] at hy; rw [List.mem_singleton.1 hy] at hk; exact hyF k hk))))
       have HS1 := hid hs1
       clear hs1 hyo hyap hyF hyt hg HJ0 HQ0 hys hyf HCW h5 h6
       go_simp
       go_wp2_with (at_builtin; go_must (refine wpList_append_c rfl _ _ 25 rfl (b + 1) 27 i _ 5 72 Tryd.underlying25 hi hz0 hz1 hz2 rfl (by decide) (.slice s.a s.n s.c) s.n _ rfl HJ.out.own.own _ 1 _ (itmCells ys) rfl HS1.out.rd (itm_one ys) HS1.out.no (by have := HSN.out; unfold maxLen; omega) (by have := HSN.out; omega) (by have := HQ.out; omega) ?_); intro a' c' w8 hown hgw hfr; have hpush := PObj.pushed (F := (fun k => b + 1 ≤ k)) HJ.out HQ.out.2.2.2.2.1 HQ.out.2.2.2.2.2.1 HQ.out.2.2.2.2.2.2 HQ.out.1 HQ.out.2.1 HQ.out.2.2.1 HQ.out.2.2.2.1 HYS.out.1 HYS.out.2.1 HYS.out.2.2.1 HYS.out.2.2.2 hown hgw hfr; have hq4 := cell_of_block (j := 4) hpush.1 (ar4 _); have hp8 := hid hpush.1; have hfz : ∀ j, w8.frozen? ⟨p, j, none⟩ = false := (fun j => frozen_of_block hp8.out); have HPN := hid hpush.2; have HBN := hid (HBG.out.trans hpush.2.2.1); clear hown hgw hfr hpush hp8)
       have hmk : s.n + 1 ≤ 3 + (k + 1) := by have h0 : s.n = m := HSN.out; omega
       have HK : Hid (∃ (k' m' c9 : Nat), k' = k + 1 ∧ m' ≤ 3 + k' ∧ PObj (w8.setCell ⟨p, 4, none⟩ (.slice a' (s.n + 1) c')) 4325521 (fun k => b + 1 ≤ k) (b + 1) p m' c9) := ⟨k + 1, _, _, rfl, hmk, HPN.out.1⟩
       obtain ⟨k', m', c'', rfl, hm', hp'⟩ := HK.out
       have HQP := hid hp'
       clear HK hp'
       go_roundw
       case rel =>
        first
         | exact ⟨k + 1, m', c'', by omega, by omega, hm', rfl, HQP.out, HBN.out⟩
         | exact ⟨k + 1, m', c'', by omega, by omega, hm', by go_num, HQP.out, HBN.out⟩
       case measure => simp [intOf]; omega
      ·obtain rfl : k = 4 := by omega
       obtain ⟨v9, hv9, hpv9⟩ := FIN.out
       have HV9 := hid hv9; have HPV := hid hpv9
       clear hv9 hpv9
       have HRR : Hid (wr.heap[b]? = some (.cells itZ.arr 27 (0, 0))) := (HBW.out.block b (by omega)).trans HR0.out
       go_wp2_with (first | (refine wpList_load_row rfl 27 _ rfl p rfl _ _ _ _ HV9.out Tryd.underlying27 rfl iSize ?_) | (refine wpList_store_obj rfl 27 _ _ rfl b rfl v9.arr rfl _ _ HRR.out rfl iSize (arr_one _) ?_; intro w10 hb10 hc10 hs10; have HB10 := hid hb10; have HC10 := hid hc10; clear hb10 hc10 hs10))
       refine bodyPost_ret (results_cell_row rfl _ _ b _ _ _ _ rfl HB10.out Tryd.underlying27 rfl iSize) rfl ?_
       exact ⟨v9, rfl, ItV.ok.keep HC10.out HPV.out.ok (fun k hk hm => by have h1 := HPV.out.foot k hk; have h2 := List.mem_singleton.1 hm; omega), HPV.out.nz, (fun k hk => by have h1 := HPV.out.foot k hk; omega), (by rw [HPV.out.typ]; decide), (HB0.out.trans (HBW.out.mono (by omega))).trans (HC10.out.below (fun k hk => by rw [List.mem_singleton.1 hk]; exact Nat.le_refl _) (by have := HZW.out; omega))⟩
     ·obtain rfl : k = n := by omega
      obtain ⟨v9, hv9, hpv9⟩ := FIN.out
      have HV9 := hid hv9; have HPV := hid hpv9
      clear hv9 hpv9
      have HRR : Hid (wr.heap[b]? = some (.cells itZ.arr 27 (0, 0))) := (HBW.out.block b (by omega)).trans HR0.out
      go_wp2_with (first | (refine wpList_load_row rfl 27 _ rfl p rfl _ _ _ _ HV9.out Tryd.underlying27 rfl iSize ?_) | (refine wpList_store_obj rfl 27 _ _ rfl b rfl v9.arr rfl _ _ HRR.out rfl iSize (arr_one _) ?_; intro w10 hb10 hc10 hs10; have HB10 := hid hb10; have HC10 := hid hc10; clear hb10 hc10 hs10))
      refine bodyPost_ret (results_cell_row rfl _ _ b _ _ _ _ rfl HB10.out Tryd.underlying27 rfl iSize) rfl ?_
      exact ⟨v9, rfl, ItV.ok.keep HC10.out HPV.out.ok (fun k hk hm => by have h1 := HPV.out.foot k hk; have h2 := List.mem_singleton.1 hm; omega), HPV.out.nz, (fun k hk => by have h1 := HPV.out.foot k hk; omega), (by rw [HPV.out.typ]; decide), (HB0.out.trans (HBW.out.mono (by omega))).trans (HC10.out.below (fun k hk => by rw [List.mem_singleton.1 hk]; exact Nat.le_refl _) (by have := HZW.out; omega))⟩
end
section
open Go.RowKit
set_option linter.unusedVariables false
set_option linter.unusedSimpArgs false
set_option maxRecDepth 100000
set_option maxHeartbeats 4000000
theorem grownBy_chg {w w8 w9 : World} {row : Option Nat} {g : Nat} (hg : w.grownBy w8 row) (hc : Chg [g] w8 w9) (hr : row = some g ∨ w.heap.size ≤ g) : w.grownBy w9 row :=
 ⟨hc.os.trans hg.os, hc.tape.trans hg.tape, hc.output.trans hg.output, Nat.le_trans hg.size hc.size, fun k hk hne => (hc.block k (Nat.lt_of_lt_of_le hk hg.size) (fun hm => by
  have := List.mem_singleton.1 hm
  subst this
  rcases hr with h | h
  ·exact hne h.symm
  ·omega)).trans (hg.block k hk hne)⟩
/-- The row and the item's block are as they shall be: whatever the order was. -/
theorem PObj.made2 {w1 W' : World} {tag : Int} {F : Nat → Prop} {z p c : Nat} {s : Sl} {l l2 : List ItV} {a : Option Addr} {n cc : Nat} (h : OwnObj 27 w1 z p tag s l) (h6 : p < c) (h7 : c ≤ w1.heap.size) (h8 : z ≤ p) (h9 : ∀ k, z ≤ k → F k)
  (key : ∀ x ∈ l2, x.ok w1 ∧ (∀ k ∈ x.foot, s.v.ownBlock ≠ some k) ∧ p ∉ x.footN ∧ (x.typ ≠ 0 ∧ nz x.it = true) ∧ ∀ k ∈ x.foot, F k)
  (hc : Chg (p :: s.v.ownBlock.toList) w1 W') (hp : W'.heap[p]? = some (.cells (ItV.arr { tag := tag, typ := 1, ks := ⟨a, n, cc⟩, kids := l2 }) 27 (0, 0))) (ho : W'.ownsRow z 27 5 (.slice a n cc) n (itmCells l2))
  (hf : (Value.slice a n cc).ownBlock = s.v.ownBlock ∨ ∀ k, (Value.slice a n cc).ownBlock = some k → w1.heap.size ≤ k) : PObj W' tag F z p n W'.heap.size ∧ Below z w1 W' ∧ Kept w1 W' := by
 have hmem : ∀ k, k ∈ s.v.ownBlock.toList → s.v.ownBlock = some k := fun k hk => by
  cases hv : s.v.ownBlock with
  | none => rw [hv] at hk; cases hk
  | some y => rw [hv] at hk; simp at hk; rw [hk]
 have hz1 : ∀ k ∈ p :: s.v.ownBlock.toList, z ≤ k := fun k hk => by
  rcases List.mem_cons.1 hk with h' | h'
  ·omega
  ·exact (h.own.own.lt k (hmem k h')).1
 have hbel := hc.below hz1 (by omega)
 refine ⟨⟨⟨a, n, cc⟩, l2, ⟨hp, ⟨ho, fun x hx => ItV.ok.keepN hc (key x hx).1 (fun k hk hm => ?_), fun x hx k hk he => ?_, fun _ _ _ _ => Nat.zero_le _⟩, fun k hk => ?_, fun x hx => (key x hx).2.2.1⟩, rfl, fun k hk => (ho.lt k hk).2, fun x hx => (key x hx).2.2.2.1, fun x hx => (key x hx).2.2.2.2, block_lt hp, Nat.le_refl _, h8, h9⟩, hbel, fun q C T f hq ht => ?_⟩
 ·rcases List.mem_cons.1 hm with h' | h'
  ·subst h'; exact (key x hx).2.2.1 hk
  ·exact (key x hx).2.1 k (footN_sub x k hk) (hmem k h')
 ·rcases hf with h' | h'
  ·exact (key x hx).2.1 k hk (h' ▸ he)
  ·have h1 := h' k he
   have h2 := (key x hx).1.lt k hk
   omega
 ·rcases hf with h' | h'
  ·exact h.out k (h' ▸ hk)
  ·have := h' k hk; omega
 ·refine (hc.block q (block_lt hq) (fun hm => ?_)).trans hq
  rcases List.mem_cons.1 hm with h' | h'
  ·subst h'
   rw [h.blk] at hq
   simp at hq
   exact ht hq.2.1.symm
  ·have hv := hmem q h'
   rcases h.own.own.2 with ⟨hv', _⟩ | ⟨g, cap, cur, hv', _, hh, _⟩
   ·rw [show s.v = Value.slice s.a s.n s.c from rfl, hv'] at hv; simp [Value.ownBlock] at hv
   ·rw [show s.v = Value.slice s.a s.n s.c from rfl, hv'] at hv
    simp [Value.ownBlock] at hv
    subst hv
    rw [hh] at hq
    simp at hq
    exact ht hq.2.1.symm
theorem PObj.made {w1 W' : World} {tag : Int} {F : Nat → Prop} {z p c : Nat} {s : Sl} {l ys : List ItV} {a : Option Addr} {n cc : Nat} (h : OwnObj 27 w1 z p tag s l) (h4 : ∀ x ∈ l, x.typ ≠ 0 ∧ nz x.it = true) (h5 : ∀ x ∈ l, ∀ k ∈ x.foot, F k) (h6 : p < c) (h7 : c ≤ w1.heap.size) (h8 : z ≤ p) (h9 : ∀ k, z ≤ k → F k)
  (hy : ∀ y ∈ ys, y.ok w1) (hap : ∀ y ∈ ys, (∀ k ∈ y.foot, s.v.ownBlock ≠ some k) ∧ p ∉ y.footN) (hyt : ∀ y ∈ ys, y.typ ≠ 0 ∧ nz y.it = true) (hyl : ∀ y ∈ ys, ∀ k ∈ y.foot, F k)
  (hc : Chg (p :: s.v.ownBlock.toList) w1 W') (hp : W'.heap[p]? = some (.cells (ItV.arr { tag := tag, typ := 1, ks := ⟨a, n, cc⟩, kids := l ++ ys }) 27 (0, 0))) (ho : W'.ownsRow z 27 5 (.slice a n cc) n (itmCells (l ++ ys)))
  (hf : (Value.slice a n cc).ownBlock = s.v.ownBlock ∨ ∀ k, (Value.slice a n cc).ownBlock = some k → w1.heap.size ≤ k) : PObj W' tag F z p n W'.heap.size ∧ Below z w1 W' ∧ Kept w1 W' :=
 PObj.made2 h h6 h7 h8 h9 (fun x hx => by
  rcases List.mem_append.1 hx with h' | h'
  ·exact ⟨h.own.ok x h', h.own.apart x h', h.feet x h', h4 x h', h5 x h'⟩
  ·exact ⟨hy x h', (hap x h').1, (hap x h').2, hyt x h', hyl x h'⟩) hc hp ho hf
/-- A kid is set to one without data and kids. -/
theorem PObj.setKid {w w' : World} {tag : Int} {F : Nat → Prop} {z p c g n cc k : Nat} {l : List ItV} {y : ItV} (h : OwnObj 27 w z p tag ⟨some ⟨g, 0, none⟩, n, cc⟩ l) (h4 : ∀ x ∈ l, x.typ ≠ 0 ∧ nz x.it = true) (h5 : ∀ x ∈ l, ∀ k ∈ x.foot, F k) (h6 : p < c) (h7 : c ≤ w.heap.size) (h8 : z ≤ p) (h9 : ∀ k, z ≤ k → F k)
  (hy : y.ok w) (hyf : y.foot = []) (hyt : y.typ ≠ 0 ∧ nz y.it = true) (ho : w'.ownsRow z 27 5 (.slice (some ⟨g, 0, none⟩) n cc) n (itmCells (l.set k y))) (hc : Chg [g] w w') : PObj w' tag F z p n w'.heap.size ∧ Below z w w' ∧ Kept w w' := by
 have hgp : g ≠ p := h.out g rfl
 refine PObj.made2 (l2 := l.set k y) h h6 h7 h8 h9 (fun x hx => ?_) (hc.mono (fun q hq => by rw [List.mem_singleton.1 hq]; exact List.mem_cons_of_mem _ (by simp [Sl.v, Value.ownBlock]))) ((hc.block p (block_lt h.blk) (fun hm => hgp (List.mem_singleton.1 hm).symm)).trans h.blk) ho (.inl rfl)
 rcases List.mem_or_eq_of_mem_set hx with h' | h'
 ·exact ⟨h.own.ok x h', h.own.apart x h', h.feet x h', h4 x h', h5 x h'⟩
 ·subst h'
  exact ⟨hy, (fun k hk => by rw [hyf] at hk; cases hk), (fun hm => by have := footN_sub x p hm; rw [hyf] at this; cases this), hyt, fun k hk => by rw [hyf] at hk; cases hk⟩
theorem add_any (x : ItV) (tag : Int) (F : Nat → Prop) (z p m c : Nat) (w : World) (h : PObj w tag F z p m c) (hx : x.ok w) (hf : ∀ k ∈ x.foot, c ≤ k) (ht : x.typ ≠ 0) (hn : nz x.it = true) (hm : m ≤ 1000) :
  Calls Tryd.prog 49 #[.agg x.arr, .pointer (some ⟨p, 0, none⟩)] w fun e w' => e = .returned (.tuple #[]) ∧ PObj w' tag F z p (m + 1) w'.heap.size ∧ Below z w w' ∧ Kept w w' := by
 obtain ⟨i, hi, hz0, hz1, hz2⟩ := info_parts iInfo
 have HX := hid hx; have HF := hid hf; have HT := hid ht; have HN := hid hn; have HP0 := hid h
 clear h hx hf ht hn
 generalize hbe : w.heap.size = b at *
 have HBE := hid hbe; clear hbe
 go_enter Tryd.func49, Tryd.ntmps49
 go_upto_region 1 with (fail)
 have hb0 : Below w.heap.size w (w.alloc (.cells x.arr 27)) := (Below.refl _ _).alloc (Nat.le_refl _) _
 have HR0 := hid (block_new w (.cells x.arr 27))
 have HP := hid (HP0.out.below hb0)
 have HXW := hid (HX.out.below hb0)
 have HB0 := hid hb0
 have HK0 := hid (Kept.of_below hb0)
 have HZ0 : Hid (z ≤ w.heap.size) := Nat.le_trans HP0.out.lt.2.2.1 (Nat.le_trans (Nat.le_of_lt HP0.out.lt.1) HP0.out.lt.2.1)
 clear hb0 HP0 HX
 rw [HBE.out] at HR0 ⊢
 generalize w.alloc (.cells x.arr 27) = W at *
 obtain ⟨s, l, hj, hsn, hown, hnzl, hlol, hpc, hcw, hzp, hloz⟩ := HP.out
 have HJ0 := hid hj; have HSN := hid hsn; have HQ0 := hid (And.intro hpc (And.intro hcw (And.intro hzp (And.intro hloz (And.intro hown (And.intro hnzl hlol))))))
 clear hj hsn hown hnzl hlol hpc hcw hzp hloz HP
 refine wp_region_eachA 5 #[true, true, true, true, true, false, false, false, false, false] [.eq (.pointer (some ⟨p, 4, none⟩)), .eq (.slice s.a s.n s.c), .eq (.agg x.arr), .eq (.int .i64 (s.n : Int)), stZero 27] (by kernel_rfl) (by kernel_rfl) (by kernel_rfl) (by kernel_rfl) (by kernel_rfl) ?_ ?_
 ·all_goals
   refine each_5 ?_ ?_ ?_ ?_ ?_ (each_n)
   ·intro w1 hg Ar seen
    have s1 := seen.sl 1 (.pointer (some ⟨p, 0, none⟩))
    refine does_plain rfl fun K Q' hK => ?_
    go_simp; exact hK _ _ (Grow.refl _) rfl
   ·intro w1 hg Ar seen
    have e0 := seen.de 0 3
    refine does_plain rfl fun K Q' hK => ?_
    have hc := cell_of_block (j := 4) ((hg.block _ (block_lt HJ0.out.blk)).trans HJ0.out.blk) (ar4 _)
    go_simp; exact hK _ _ (Grow.refl _) rfl
   ·intro w1 hg Ar seen
    have s2 := seen.sl 2 (.pointer (some ⟨b, 0, none⟩))
    refine does_plain rfl fun K Q' hK => ?_
    refine wp_load_row 27 _ rfl b (by simp [Act.eval, s2]) _ _ _ _ ((hg.block _ (block_lt HR0.out)).trans HR0.out) Tryd.underlying27 rfl iSize ?_
    exact hK _ _ (Grow.refl _) rfl
   ·intro w1 hg Ar seen
    have e1 := seen.de 1 4
    refine does_plain rfl fun K Q' hK => ?_
    go_simp; exact hK _ _ (Grow.refl _) rfl
   ·intro w1 hg Ar seen
    refine does_plain rfl fun K Q' hK => ?_
    refine wp_build_item _ 27 _ rfl itZ rfl i Tryd.underlying25 hi hz0 hz1 ?_
    exact hK _ _ ((Below.refl _ _).alloc (Nat.le_refl _) _) ⟨_, rfl, block_new _ _⟩
 intro w1 hg
 refine upon_w' (js := [0, 1, 2, 3, 4]) (by rfl) ?_
 refine upon_e (some 3) (upon_e (some 4) (upon_e (some 5) (upon_e (some 6) (upon_v (some 7) fun v4 h4 => upon_n ?_))))
 go_simp
 obtain ⟨q, rfl, hq⟩ := h4
 have HPB := hid hq
 have HJ := hid (HJ0.out.below hg)
 have HQ := hid (And.intro HQ0.out.1 (And.intro (Nat.le_trans HQ0.out.2.1 hg.size) HQ0.out.2.2))
 have HXG := hid (HXW.out.below hg)
 have HBG := hid (HB0.out.trans (hg.mono HB0.out.size))
 have HKG := hid (HK0.out.trans (Kept.of_below hg))
 clear hq hg HXW HJ0 HQ0 HB0 HK0 HR0
 go_simp
 refine wpAny_ready (rs := [5]) (by kernel_rfl) (by simp) ?_
 refine AllReady.cons rfl (fun K hK => ?_) AllReady.nil
 refine step_append_c rfl _ _ 25 rfl z 27 i _ 5 72 Tryd.underlying25 hi hz0 hz1 hz2 rfl (by decide) (.slice s.a s.n s.c) s.n _ rfl HJ.out.own.own _ 1 _ itZ.arr.toList rfl (RdC.of_block HPB.out) (by have := itm_one [itZ]; simpa [itmCells, ItV.cells] using this) (fun hx => by cases hx) (by have := HSN.out; unfold maxLen; omega) (by have := HSN.out; omega) (by have := HQ.out; omega) ?_
 intro a' c' w7 hown hgw hfr
 obtain ⟨g, rfl, hgb, hgl⟩ := (own_slice hown).2.2 (by omega)
 have HO7 := hid hown
 have HF7 := hid hfr
 have HC7 : Hid (Chg s.v.ownBlock.toList w1 w7) := (Chg.refl _ w1).grown hgw (fun k hk => .inl (by rw [hk]; simp))
 have HGP : Hid (g ≠ p) := by
  rcases hfr with h' | h'
  ·exact HJ.out.out g (by rw [← h']; rfl)
  ·have := h' g rfl
   have := HQ.out
   show g ≠ p; omega
 clear hown hgw hfr hgb hgl
 refine hK _ _ ?_
 clear hK K
 go_simp
 refine wpAny_take (i := 6) (v := .pointer (some ⟨g, s.n * 5, none⟩)) rfl (by kernel_rfl) (by kernel_rfl) (by kernel_rfl) (fun _ _ _ h => h) (Or.inl ⟨by rfl, by intro w; go_simp; try (intro hx; exfalso; omega)⟩) ?_
 refine wpAny_take (i := 8) (v := .pointer (some ⟨p, 4, none⟩)) rfl (by kernel_rfl) (by kernel_rfl) (by kernel_rfl) (fun _ _ _ h => h) (Or.inl ⟨by rfl, by intro w; go_simp; try (intro hx; exfalso; omega)⟩) ?_
 have HCM : Hid (Chg (p :: s.v.ownBlock.toList) w1 w7) := HC7.out.mono (fun q hq => List.mem_cons_of_mem _ hq)
 have HFR : Hid (Fresh (p :: s.v.ownBlock.toList) [g] w1) := fun q hq => by
  rw [List.mem_singleton.1 hq]
  rcases HF7.out with h' | h'
  ·left; exact List.mem_cons_of_mem _ (by rw [← show _ = s.v.ownBlock from h']; simp [Value.ownBlock])
  ·right; exact h' g rfl
 have HP7 : Hid (w7.heap[p]? = some (.cells (ItV.arr { tag := tag, typ := 1, ks := s, kids := l }) 27 (0, 0))) := (HC7.out.block p (block_lt HJ.out.blk) (fun hm => by
  cases hv : s.v.ownBlock with
  | none => rw [hv] at hm; cases hm
  | some y => rw [hv] at hm; simp at hm; exact HJ.out.out y hv hm.symm)).trans HJ.out.blk
 have HXL : Hid ((itmCells l).length = s.n * 5) := by show _ = _; rw [itm_len, HJ.out.own.len]
 have HAPP : Hid (itmCells (l ++ [x]) = itmCells l ++ x.cells) := by show _ = _; rw [itm_app]; simp [itmCells]
 have FINH : Hid (∀ w9, Chg (p :: s.v.ownBlock.toList) w1 w9 → w9.heap[p]? = some (.cells (ItV.arr { tag := tag, typ := 1, ks := ⟨some ⟨g, 0, none⟩, s.n + 1, c'⟩, kids := l ++ [x] }) 27 (0, 0)) → w9.ownsRow z 27 5 (.slice (some ⟨g, 0, none⟩) (s.n + 1) c') (s.n + 1) (itmCells (l ++ [x])) →
   PObj w9 tag F z p (m + 1) w9.heap.size ∧ Below z w w9 ∧ Kept w w9) := fun w9 h1 h2 h3 => by
  have hb := block_lt HJ.out.blk
  have hm := PObj.made (F := F) (c := c) HJ.out HQ.out.2.2.2.2.2.1 HQ.out.2.2.2.2.2.2 HQ.out.1 HQ.out.2.1 HQ.out.2.2.1 HQ.out.2.2.2.1 (ys := [x]) (fun y hy => by rw [List.mem_singleton.1 hy]; exact HXG.out)
   (fun y hy => by rw [List.mem_singleton.1 hy]; exact ⟨fun k hk he => by have h5 := HF.out k hk; have := HQ.out.2.2.2.2.1 k he; omega, fun hm => by have h5 := HF.out p (footN_sub x p hm); have := HQ.out.1; omega⟩)
   (fun y hy => by rw [List.mem_singleton.1 hy]; exact ⟨HT.out, HN.out⟩) (fun y hy k hk => by rw [List.mem_singleton.1 hy] at hk; have h5 := HF.out k hk; have h6 := HQ.out.1; have h7 := HQ.out.2.2.1; exact HQ.out.2.2.2.1 k (by omega)) h1 h2 h3 HF7.out
  exact ⟨hm.1.num (by rw [HSN.out]), (HBG.out.mono (by have := HZ0.out; have := HBE.out; omega)).trans hm.2.1, HKG.out.trans hm.2.2⟩
 clear HQ HF HT HN HBG HKG HXG
 refine wpAny_ready (rs := [7, 9]) (by kernel_rfl) (by simp) ?_
 refine AllReady.cons rfl (fun K hK => ?_) (AllReady.cons rfl (fun K hK => ?_) AllReady.nil)
 ·first | rw [if_pos (by rfl)] | skip
  refine wp_store_item 27 _ _ rfl g (s.n * 5) rfl x rfl HO7.out rfl HXL.out rfl iSize (arr_one x) ?_
  intro w8 hown8 hc8 hs8
  have HO8 := hid hown8; have HC8 := hid hc8
  have HP8 : Hid (w8.heap[p]? = some (.cells (ItV.arr { tag := tag, typ := 1, ks := s, kids := l }) 27 (0, 0))) := (hc8.block p (block_lt HP7.out) (fun hm => HGP.out (List.mem_singleton.1 hm).symm)).trans HP7.out
  have hco := cell_of_block (j := 4) HP8.out (ar4 _)
  have hfz : ∀ j, w8.frozen? ⟨p, j, none⟩ = false := fun j => frozen_of_block HP8.out
  clear hown8 hc8 hs8
  refine hK _ _ ?_
  clear hK K
  refine wpAny_ready (rs := [9]) (by kernel_rfl) (by simp) ?_
  refine AllReady.cons rfl (fun K hK => ?_) AllReady.nil
  go_simp
  refine hK _ _ ?_
  clear hK K hco hfz
  refine wpAny_done (by kernel_rfl) ?_ _
  have hset : Chg [p] w8 (w8.setCell ⟨p, 4, none⟩ (.slice (some ⟨g, 0, none⟩) (s.n + 1) c')) := (Chg.refl _ w8).setCell (.inl (by simp)) _
  have H9 := hid (FINH.out _ ((HCM.out.trans HC8.out HFR.out).trans hset (fun q hq => by rw [List.mem_singleton.1 hq]; exact .inl (by simp))) (block_setCell HP8.out _)
   (by rw [HAPP.out]; exact hset.owns HO8.out (fun q hq hm => by have hq2 : some g = some q := hq; cases hq2; exact HGP.out (List.mem_singleton.1 hm))))
  clear hset
  go_wp2_with fail
  go_end0
  exact ⟨rfl, H9.out⟩
 ·have hco := cell_of_block (j := 4) HP7.out (ar4 _)
  have hfz : ∀ j, w7.frozen? ⟨p, j, none⟩ = false := fun j => frozen_of_block HP7.out
  go_simp
  refine hK _ _ ?_
  clear hK K hco hfz
  have hset : Chg [p] w7 (w7.setCell ⟨p, 4, none⟩ (.slice (some ⟨g, 0, none⟩) (s.n + 1) c')) := (Chg.refl _ w7).setCell (.inl (by simp)) _
  have HO8 := hid (hset.owns HO7.out (fun q hq hm => by have hq2 : some g = some q := hq; cases hq2; exact HGP.out (List.mem_singleton.1 hm)))
  have HP8 : Hid ((w7.setCell ⟨p, 4, none⟩ (.slice (some ⟨g, 0, none⟩) (s.n + 1) c')).heap[p]? = some (.cells (ItV.arr { tag := tag, typ := 1, ks := ⟨some ⟨g, 0, none⟩, s.n + 1, c'⟩, kids := l ++ [x] }) 27 (0, 0))) := block_setCell HP7.out _
  have HCS := hid (HCM.out.trans hset (fun q hq => by rw [List.mem_singleton.1 hq]; exact .inl (by simp)))
  clear hset
  generalize w7.setCell ⟨p, 4, none⟩ (.slice (some ⟨g, 0, none⟩) (s.n + 1) c') = w8 at *
  refine wpAny_ready (rs := [7]) (by kernel_rfl) (by simp) ?_
  refine AllReady.cons rfl (fun K hK => ?_) AllReady.nil
  first | rw [if_pos (by rfl)] | skip
  refine wp_store_item 27 _ _ rfl g (s.n * 5) rfl x rfl HO8.out rfl HXL.out rfl iSize (arr_one x) ?_
  intro w9 hown9 hc9 hs9
  refine hK _ _ ?_
  clear hK K
  refine wpAny_done (by kernel_rfl) ?_ _
  have H9 := hid (FINH.out w9 (HCS.out.trans hc9 HFR.out) ((hc9.block p (block_lt HP8.out) (fun hm => HGP.out (List.mem_singleton.1 hm).symm)).trans HP8.out) (by rw [HAPP.out]; exact hown9))
  clear hown9 hc9 hs9
  go_wp2_with fail
  go_end0
  exact ⟨rfl, H9.out⟩
end
section
open Go.RowKit
set_option linter.unusedVariables false
set_option linter.unusedSimpArgs false
set_option maxRecDepth 100000
set_option maxHeartbeats 4000000
structure AskD where
 op : Int := 0
 a : Int := 0
 b : Int := 0
 c : Int := 0
 la : Option Addr := none
 ln : Nat := 0
 lc : Nat := 0
 l : List RawD := []
 ba : Option Addr := none
 bn : Nat := 0
 bc : Nat := 0
 bs : List UInt8 := []
instance : Inhabited AskD := ⟨{}⟩
def AskD.arr (x : AskD) : Array Value := #[.int .i64 x.op, .int .i64 x.a, .int .i64 x.b, .int .i64 x.c, .slice x.la x.ln x.lc, .slice x.ba x.bn x.bc]
def AskD.cells (x : AskD) : List Value := x.arr.toList
structure AskD.ok (w : World) (x : AskD) : Prop where
 op : -9223372036854775808 ≤ x.op ∧ x.op ≤ 9223372036854775807
 a : -9223372036854775808 ≤ x.a ∧ x.a ≤ 9223372036854775807
 b : -9223372036854775808 ≤ x.b ∧ x.b ≤ 9223372036854775807
 c : -9223372036854775808 ≤ x.c ∧ x.c ≤ 9223372036854775807
 l : ArgSl 4 RawR w (.slice x.la x.ln x.lc) x.l
 rd : RdB w x.ba x.bn x.bs
 nc : x.bn ≤ x.bc
 sm : x.bc ≤ 140737488355328
 no : x.ba = none → x.bc = 0
theorem AskD.ok.below {w w' : World} {x : AskD} (h : x.ok w) (hb : Below w.heap.size w w') : x.ok w' :=
 ⟨h.1, h.2, h.3, h.4, raws_below h.5 hb, h.6.below hb, h.7, h.8, h.9⟩
structure PS (x : AskD) (w : World) (b p m c : Nat) (W : World) : Prop where
 box : W.heap[b]? = some (.cells x.arr 63 (0, 0))
 res : W.heap[b + 1]? = some (.cells itZ.arr 27 (0, 0))
 obj : PObj W 4325497 (fun k => b + 2 ≤ k) (b + 2) p m c
 bel : Below b w W
 sz : w.heap.size = b
section
variable {x : AskD} {w W W' : World} {b p m c m' c' : Nat}
theorem PS.step (h : PS x w b p m c W) (ho : PObj W' 4325497 (fun k => b + 2 ≤ k) (b + 2) p m' c') (hb : Below (b + 2) W W') : PS x w b p m' c' W' :=
 ⟨(hb.block _ (by omega)).trans h.box, (hb.block _ (by omega)).trans h.res, ho, h.bel.trans (hb.mono (by omega)), h.sz⟩
theorem PS.lt (h : PS x w b p m c W) : b + 2 ≤ p ∧ p < c ∧ c ≤ W.heap.size := ⟨h.obj.lt.2.2.1, h.obj.lt.1, h.obj.lt.2.1⟩
theorem PS.grow (h : PS x w b p m c W) (hg : Grow W W') : PS x w b p m c W' := h.step (h.obj.below hg) (Below.mono hg (by have := h.lt; omega))
theorem PS.mark (h : PS x w b p m c W) : PS x w b p m W.heap.size W := ⟨h.1, h.2, h.3.mark, h.4, h.5⟩
theorem PS.cx (h : PS x w b p m c W) (j : Nat) {v : Value} (hv : x.arr[j]? = some v) : W.cell? ⟨b, j, none⟩ = some v := cell_of_block h.box hv
theorem PS.old (h : PS x w b p m c W) : Below w.heap.size w W := by rw [h.sz]; exact h.bel
theorem PS.add {y : ItV} (h : PS x w b p m c W) (hy : y.ok W) (hf : ∀ k ∈ y.foot, c ≤ k) (ht : y.typ ≠ 0) (hn : nz y.it = true) (hm : m ≤ 1000) {pr : Nat} {r : RawD} (hr : W.heap[pr]? = some (.cells r.cells 75 (0, 0))) :
  Calls Tryd.prog 49 #[.agg y.arr, .pointer (some ⟨p, 0, none⟩)] W fun e w' => e = .returned (.tuple #[]) ∧ PS x w b p (m + 1) w'.heap.size w' ∧ w'.heap[pr]? = some (.cells r.cells 75 (0, 0)) :=
 (add_any y 4325497 _ _ p m c W h.obj hy hf ht hn hm).mono fun e w' ⟨h1, h2, h3, h4⟩ => ⟨h1, h.step h2 h3, h4 _ _ _ _ hr (by decide)⟩
theorem PS.add0 {y : ItV} (h : PS x w b p m c W) (hy : y.ok W) (hf : ∀ k ∈ y.foot, c ≤ k) (ht : y.typ ≠ 0) (hn : nz y.it = true) (hm : m ≤ 1000) :
  Calls Tryd.prog 49 #[.agg y.arr, .pointer (some ⟨p, 0, none⟩)] W fun e w' => e = .returned (.tuple #[]) ∧ PS x w b p (m + 1) w'.heap.size w' :=
 (add_any y 4325497 _ _ p m c W h.obj hy hf ht hn hm).mono fun e w' ⟨h1, h2, h3, h4⟩ => ⟨h1, h.step h2 h3⟩
end
/-- Block n of a text. -/
def findBlockP (n : Nat) : Code → Option Code
 | .loop c => findBlockP n c
 | .seq a b => match findBlockP n a with
  | some c => some c
  | none => findBlockP n b
 | .block m c => if m = n then some (.block m c) else findBlockP n c
 | .scope c => findBlockP n c
 | .cond _ a b => match findBlockP n a with
  | some c => some c
  | none => findBlockP n b
 | _ => none
noncomputable def paySw : Code := (Tryd.f34.body.bind (findBlockP 0)).getD .skip
end
end Go.Proofs.YtbnbofooofedkaaDoor
