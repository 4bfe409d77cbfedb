/- locksmithref15.Parse: its walk. -/
import Derived.Test.YtbnbofooofedkaaDoorPay12
namespace Go.Proofs.YtbnbofooofedkaaDoor
open Go.RowKit
set_option linter.unusedVariables false
set_option linter.unusedSimpArgs false
set_option maxRecDepth 100000
set_option maxHeartbeats 3200000
def stEmpty (T : TypeId) (B : Nat) : St Grow := ⟨fun v w => ∃ g, v = .slice (some ⟨g, 0, none⟩) 0 0 ∧ w.heap[g]? = some (.cells #[] T (0, 0)) ∧ B ≤ g, fun v w w' h hg => let ⟨g, e, h0, h1⟩ := h; ⟨g, e, (hg.block _ (block_lt h0)).trans h0, h1⟩⟩
def stRow (T : TypeId) (B n : Nat) (xs : List Value) : St Grow := ⟨fun v w => ∃ a c, v = .slice a n c ∧ w.ownsRow B T 5 (.slice a n c) n xs, fun v w w' h hg => let ⟨a, c, e, h1⟩ := h; ⟨a, c, e, (Chg.of_below hg []).owns h1 (fun k _ hm => by cases hm)⟩⟩
def stItemR (x : ItV) (T : TypeId) : St Grow := ⟨fun v w => ∃ p, v = .slice (some ⟨p, 0, none⟩) 1 1 ∧ w.heap[p]? = some (.cells x.arr T (0, 0)), fun v w w' h hg => let ⟨p, e, h0⟩ := h; ⟨p, e, (hg.block _ (block_lt h0)).trans h0⟩⟩
/-- What the reference's Parse answers: its items may be shared. -/
def ParsedR (F : Nat → Prop) (T1 T : TypeId) (r : Except Int (List (List Itm))) (w : World) (e : Ending) (w' : World) : Prop :=
 match r with
 | .error c => e = .returned (.tuple #[.slice none 0 0, .int .i64 c]) ∧ Below w.heap.size w w'
 | .ok rows => ∃ (so : Sl) (sls : List Sl) (rv : List (List ItV)), e = .returned (.tuple #[.slice so.a so.n so.c, .int .i64 0]) ∧ Rows2 T1 T w' w.heap.size 0 so sls rv ∧ rv.map (fun l => l.map ItV.it) = rows ∧ (∀ sl ∈ sls, sl.n ≤ 1099511627776) ∧ Below w.heap.size w w' ∧ ∀ lr ∈ rv, ∀ x ∈ lr, ∀ k ∈ x.foot, F k
theorem refParse_any (v : ItV) (s : Sl) (l : List Fld) (w : World) (hv : v.ok w) (hs : SlR w s 4 (fldCells l)) (F : Nat → Prop) (hF : ∀ k ∈ v.foot, F k) :
  Calls Tryd.prog 26 #[.agg v.arr, .slice s.a s.n s.c] w (ParsedR F 25 27 (parseV l v.it) w) := by
 obtain ⟨i, hi, hz0, hz1, hz2⟩ := info_parts iInfo
 obtain ⟨i1, hi1, hy0, hy1, hy2⟩ := info_parts rInfo
 have hsn := hs.sm
 have hkn := (ItV.ok_iff.1 hv).2.1.sm
 have HFL := hid hs.flen
 have HKL := hid (ItV.ok_iff.1 hv).2.1.klen
 have HV := hid hv; have HS := hid hs; have HFF := hid hF
 clear hv hs hF
 generalize hbe : w.heap.size = b
 have HBE := hid hbe; clear hbe
 go_enter Tryd.func26, Tryd.ntmps26
 go_upto_region 1 with (fail)
 go_simp
 have hbw : Below w.heap.size w (w.alloc (.cells v.arr 27)) := (Below.refl _ _).alloc (Nat.le_refl _) _
 have hb0 := block_new w (.cells v.arr 27)
 have hsz : (w.alloc (.cells v.arr 27)).heap.size = w.heap.size + 1 := by simp
 have HV0 := hid (HV.out.below hbw)
 have HS0 := hid (HS.out.below hbw)
 have HLT := hid HV.out.lt
 have HSL := hid HS.out.lt
 rw [HBE.out] at hbw hb0 hsz HLT HSL ⊢
 have HBW := hid hbw; have HB0 := hid hb0; have HSZ := hid hsz
 clear hbw hb0 hsz HV HS
 generalize w.alloc (.cells v.arr 27) = W at *
 have hc1 := cell_of_block (j := 1) HB0.out (ar1 v)
 obtain ⟨ka, hka⟩ : ∃ ka, v.ks.a = ka := ⟨_, rfl⟩
 have HKA := hid hka; clear hka
 obtain ⟨sa, hsa⟩ : ∃ sa, s.a = sa := ⟨_, rfl⟩
 rw [hsa]
 have HSA := hid hsa; clear hsa
 by_cases ht : v.typ = 1
 ·rw [ht] at hc1
  have HT := hid ht; clear ht
  go_upto_region 5 with (at_make; go_must (refine wpList_make_full _ rfl _ _ 48 rfl b 25 i1 _ 1 Tryd.underlying48 hi1 hy0 hy1 .i64 .i64 _ _ s.n rfl rfl rfl rfl (by rw [hy2]; omega) (by unfold maxLen; omega) (by rw [HSZ.out]; omega) ?_); go_loud (intro w1 hown hg; have HOWN := hid hown; have HG := hid hg; clear hown hg))
  have hb1 : Below W.heap.size W w1 := (Below.refl _ _).grown HG.out (Nat.le_refl _) (fun k h => by cases h)
  have ho1 := HOWN.out
  rw [made_slices, HSZ.out] at ho1
  have HR0 : Hid (Rows2 25 27 w1 b 0 ⟨some ⟨b + 1, 0, none⟩, s.n, s.n⟩ (List.replicate s.n {}) (List.replicate s.n [])) := Rows2.start (by decide) ho1
  have HV1 := hid (HV0.out.below hb1); have HS1 := hid (HS0.out.below hb1)
  have HB1 := hid ((hb1.block _ (by rw [HSZ.out]; omega)).trans HB0.out)
  have HBW1 := hid (HBW.out.trans (hb1.mono (by rw [HSZ.out]; omega)))
  have HPK : Hid (parseKids l (v.it.kids.take 0) = .ok (0, (List.replicate s.n ([] : List ItV)).map (fun l => l.map ItV.it))) := by
   show _ = _
   rw [List.take_zero, List.map_replicate, ← HFL.out]; rfl
  rw [HSZ.out]
  clear hb1 ho1 HOWN HG HV0 HS0 HB0 HBW hc1 HSZ
  go_wp2_with fail
  go_loopw [7, 8] (fun u y wr => ∃ (k at_ : Nat) (sls : List Sl) (rows : List (List ItV)), k ≤ v.ks.n ∧ y = .int .i64 k ∧ u = .int .i64 at_ ∧ at_ ≤ s.n ∧ parseKids l (v.it.kids.take k) = .ok (at_, rows.map (fun l => l.map ItV.it)) ∧ (∀ sl ∈ sls, sl.n ≤ k) ∧ (∀ lr ∈ rows, ∀ x ∈ lr, ∀ q ∈ x.foot, F q) ∧ Rows2 25 27 wr b 0 ⟨some ⟨b + 1, 0, none⟩, s.n, s.n⟩ sls rows ∧ Below b w wr ∧ b + 2 ≤ wr.heap.size ∧ v.ok wr ∧ SlR wr s 4 (fldCells l) ∧ wr.heap[b]? = some (.cells v.arr 27 (0, 0))) (fun _ y _ => v.ks.n - (intOf y).toNat)
  case atStart => exact ⟨0, 0, _, _, Nat.zero_le _, rfl, rfl, Nat.zero_le _, HPK.out, fun sl h => by rw [List.eq_of_mem_replicate h]; exact Nat.le_refl _, fun lr h => by rw [List.eq_of_mem_replicate h]; simp, HR0.out, HBW1.out, (HR0.out.own.lt (b + 1) rfl).2, HV1.out, HS1.out, HB1.out⟩
  case round =>
   clear HR0 HV1 HS1 HB1 HBW1 HPK
   obtain ⟨k, at_, sls, rows, hk, rfl, rfl, hat, hpk, hsk, hrk, hr, hb, hzz, hv, hs, hbb⟩ := hrel
   have HRK := hid hrk
   clear hrk
   have HRW := hid hr; have B := hid hb; have HV := hid hv; have HS := hid hs; have HPK := hid hpk; have HSK := hid hsk
   have HZZ := hid hzz; have HBB := hid hbb
   clear hr hb hv hs hpk hsk hzz hbb
   have hc4 := cell_of_block (j := 4) HBB.out (ar4 v)
   rw [HKA.out] at hc4
   by_cases hlt : k < v.ks.n
   ·obtain ⟨bx, ox, x, hax, hx, hrow⟩ := (ItV.ok_iff.1 HV.out).2.1.row hlt
    rw [HKA.out] at hax
    subst hax
    have HX := hid ((ItV.ok_iff.1 HV.out).2.2 x (List.mem_of_getElem? hx))
    have HXF : Hid (∀ q ∈ x.foot, q < b) := fun q hq => HLT.out q (ItV.mem_foot.2 (.inr (.inr ⟨x, List.mem_of_getElem? hx, hq⟩)))
    have HXF2 : Hid (∀ q ∈ x.foot, F q) := fun q hq => HFF.out q (ItV.mem_foot.2 (.inr (.inr ⟨x, List.mem_of_getElem? hx, hq⟩)))
    have HXK : Hid (v.it.kids[k]? = some x.it) := by show _ = _; rw [it_kids, List.getElem?_map, hx]; rfl
    have HR := hid hrow
    clear hx hrow
    go_upto_block 2 with (first | (refine wpList_load_mid rfl 27 _ rfl bx (ox + k * 5) rfl x.arr.toList _ HR.out Tryd.underlying27 rfl iSize ?_; simp only [Array.toArray_toList]) | (refine wpList_alloc_obj rfl 27 rfl _ iZero ?_) | (refine wpList_store_obj rfl 27 _ _ rfl wr.heap.size rfl _ rfl _ _ (block_new wr _) rfl iSize (arr_one x) ?_; intro w5 hb5 hc5 hs5; have HB5 := hid hb5; have HC5 := hid hc5; have HS5 := hid hs5; clear hb5 hc5 hs5))
    clear hc4
    have hbel : Below wr.heap.size wr w5 := ((Below.refl _ wr).alloc (Nat.le_refl _) _).trans (HC5.out.below (fun k hk => by rw [List.mem_singleton.1 hk]; exact Nat.le_refl _) (by simp))
    have HB := hid (B.out.trans (hbel.mono (by have := HZZ.out; omega))); have HRW5 := hid (HRW.out.below hbel); have HV5 := hid (HV.out.below hbel); have HX5 := hid (HX.out.below hbel); have HS5' := hid (HS.out.below hbel)
    have HZ5 := hid (Nat.le_trans HZZ.out hbel.size); have HBB5 := hid ((hbel.block _ (by have := HZZ.out; omega)).trans HBB.out)
    clear hbel HC5 HS5 HR B HRW HV HX HS HZZ HBB
    generalize wr.heap.size = c at *
    have HBX := HB5
    go_simp
    go_cut [7] (fun u wx => ∃ a2 : Nat, u = .int .i64 a2 ∧ a2 ≤ s.n ∧ (a2 < s.n → placeN l at_ x.tag = some a2) ∧ (a2 = s.n → placeN l at_ x.tag = none) ∧ Below w5.heap.size w5 wx)
    case first =>
     go_wp2_with fail
     go_loopw [7] (fun u wr => ∃ a2 : Nat, u = .int .i64 a2 ∧ a2 ≤ s.n ∧ placeN l at_ x.tag = placeN l a2 x.tag ∧ Below w5.heap.size w5 wr) (fun u _ => s.n - (intOf u).toNat)
     case atStart => exact ⟨at_, rfl, hat, rfl, Below.refl _ _⟩
     case round =>
      obtain ⟨a2, rfl, ha2, hpl, hb⟩ := hrel
      have BW := hid hb; have HPL := hid hpl
      have HBX := hid ((hb.block _ (block_lt HB5.out)).trans HB5.out)
      clear hb hpl
      by_cases hq : a2 < s.n
      ·obtain ⟨bf, off, f, haf, hf, hfr⟩ := (HS5'.out.below BW.out).fld hq
       rw [HSA.out] at haf
       subst haf
       have hc := range_cell hfr 0 (v := .int .i64 f.tag) rfl
       rw [Nat.add_zero] at hc
       have CF := hid hc
       rcases place_step (tag := x.tag) hf with ⟨h1, h2⟩ | ⟨h1, h2⟩
       ·have H2 := hid h2
        have hte : f.tag = x.tag := by simpa using h1
        clear h1 h2 hf hfr hc
        rw [hte] at CF
        go_upto_region 9 with (fail)
        refine wp_region_each 14 [.eq (.int .i64 (a2 : Int)), .eq (.slice (some ⟨bf, off, none⟩) s.n s.c), .eq (.int .i64 (s.n : Int)), .eq (.bool true), .eq (.bool true), .eq (.slice (some ⟨bf, off, none⟩) s.n s.c), .eq (.int .i64 (a2 : Int)), .eq (.pointer (some ⟨bf, off + a2 * 4, none⟩)), .eq (.pointer (some ⟨bf, off + a2 * 4, none⟩)), .eq (.int .i64 x.tag), .eq (.pointer (some ⟨c, 0, none⟩)), .eq (.int .i64 x.tag), .eq (.bool false), .eq (.bool false)] (by kernel_rfl) (by kernel_rfl) (by kernel_rfl) (by kernel_rfl) ?_ ?_
        ·as_aux_lemma =>
          refine each_5 ?_ ?_ ?_ ?_ ?_ (each_5 ?_ ?_ ?_ ?_ ?_ (each_c ?_ (each_c ?_ (each_c ?_ (each_c ?_ (each_n))))))
          ·intro w1 hg Ar seen
           have s7 := seen.sl 7 (.int .i64 (a2 : Int))
           refine does_plain rfl fun K Q' hK => ?_
           go_simp; exact hK _ _ (Grow.refl _) rfl
          ·intro w1 hg Ar seen
           have s1 := seen.sl 1 (.slice (some ⟨bf, off, none⟩) s.n s.c)
           refine does_plain rfl fun K Q' hK => ?_
           go_simp; exact hK _ _ (Grow.refl _) rfl
          ·intro w1 hg Ar seen
           have e1 := seen.de 1 30
           refine does_plain rfl fun K Q' hK => ?_
           go_simp; exact hK _ _ (Grow.refl _) rfl
          ·intro w1 hg Ar seen
           have e0 := seen.de 0 29
           have e2 := seen.de 2 31
           refine does_plain rfl fun K Q' hK => ?_
           go_simp; exact hK _ _ (Grow.refl _) rfl
          ·intro w1 hg Ar seen
           have e3 := seen.de 3 32
           refine does_plain rfl fun K Q' hK => ?_
           go_simp; exact hK _ _ (Grow.refl _) rfl
          ·intro w1 hg Ar seen
           have e4 := seen.de 4 33
           have s1 := seen.sl 1 (.slice (some ⟨bf, off, none⟩) s.n s.c)
           refine does_on rfl (by kernel_rfl) e4 fun K Q' hK => ?_
           clear e4
           go_simp; exact hK _ _ (Grow.refl _) rfl
          ·intro w1 hg Ar seen
           have e4 := seen.de 4 33
           have s7 := seen.sl 7 (.int .i64 (a2 : Int))
           refine does_on rfl (by kernel_rfl) e4 fun K Q' hK => ?_
           clear e4
           go_simp; exact hK _ _ (Grow.refl _) rfl
          ·intro w1 hg Ar seen
           have e5 := seen.de 5 34
           have e6 := seen.de 6 35
           have e4 := seen.de 4 33
           refine does_on rfl (by kernel_rfl) e4 fun K Q' hK => ?_
           clear e4
           go_simp; exact hK _ _ (Grow.refl _) rfl
          ·intro w1 hg Ar seen
           have e7 := seen.de 7 36
           have e4 := seen.de 4 33
           refine does_on rfl (by kernel_rfl) e4 fun K Q' hK => ?_
           clear e4
           go_simp; exact hK _ _ (Grow.refl _) rfl
          ·intro w1 hg Ar seen
           have e8 := seen.de 8 37
           have e4 := seen.de 4 33
           refine does_on rfl (by kernel_rfl) e4 fun K Q' hK => ?_
           clear e4
           have hc := cell_later hg CF.out
           go_simp; exact hK _ _ (Grow.refl _) rfl
          ·intro w1 hg Ar seen
           have e4 := seen.de 4 33
           have s9 := seen.sl 9 (.pointer (some ⟨c, 0, none⟩))
           refine does_on rfl (by kernel_rfl) e4 fun K Q' hK => ?_
           clear e4
           go_simp; exact hK _ _ (Grow.refl _) rfl
          ·intro w1 hg Ar seen
           have e10 := seen.de 10 39
           have e4 := seen.de 4 33
           refine does_on rfl (by kernel_rfl) e4 fun K Q' hK => ?_
           clear e4
           have hc := cell_of_block (j := 0) ((hg.block _ (block_lt HBX.out)).trans HBX.out) (ar0 x)
           go_simp; exact hK _ _ (Grow.refl _) rfl
          ·intro w1 hg Ar seen
           have e9 := seen.de 9 38
           have e11 := seen.de 11 40
           have e4 := seen.de 4 33
           refine does_on rfl (by kernel_rfl) e4 fun K Q' hK => ?_
           clear e4
           go_simp; exact hK _ _ (Grow.refl _) rfl
          ·intro w1 hg Ar seen
           have e4 := seen.de 4 33
           have e12 := seen.de 12 41
           refine does_plain rfl fun K Q' hK => ?_
           go_simp; exact hK _ _ (Grow.refl _) rfl
        intro w1 hg
        refine upon_w' (js := [0, 1, 2, 3, 4, 5, 6, 7, 8, 9, 10, 11, 12, 13]) (by rfl) ?_
        refine upon_e (some 29) (upon_e (some 30) (upon_e (some 31) (upon_e (some 32) (upon_e (some 33) (upon_e (some 34) (upon_e (some 35) (upon_e (some 36) (upon_e (some 37) (upon_e (some 38) (upon_e (some 39) (upon_e (some 40) (upon_e (some 41) (upon_e (some 42) (upon_n ?_))))))))))))))
        go_simp
        go_simp
        have BG := hid (grow_on BW.out hg)
        clear hg hte
        go_wp2_with fail
        go_meet
        exact ⟨a2, rfl, by omega, fun _ => HPL.out.trans H2.out, fun h => by omega, BG.out⟩
       ·have H2 := hid h2
        clear h2 hf hfr hc
        go_upto_region 9 with (fail)
        refine wp_region_each 14 [.eq (.int .i64 (a2 : Int)), .eq (.slice (some ⟨bf, off, none⟩) s.n s.c), .eq (.int .i64 (s.n : Int)), .eq (.bool true), .eq (.bool true), .eq (.slice (some ⟨bf, off, none⟩) s.n s.c), .eq (.int .i64 (a2 : Int)), .eq (.pointer (some ⟨bf, off + a2 * 4, none⟩)), .eq (.pointer (some ⟨bf, off + a2 * 4, none⟩)), .eq (.int .i64 f.tag), .eq (.pointer (some ⟨c, 0, none⟩)), .eq (.int .i64 x.tag), .eq (.bool true), .eq (.bool true)] (by kernel_rfl) (by kernel_rfl) (by kernel_rfl) (by kernel_rfl) ?_ ?_
        ·as_aux_lemma =>
          refine each_5 ?_ ?_ ?_ ?_ ?_ (each_5 ?_ ?_ ?_ ?_ ?_ (each_c ?_ (each_c ?_ (each_c ?_ (each_c ?_ (each_n))))))
          ·intro w1 hg Ar seen
           have s7 := seen.sl 7 (.int .i64 (a2 : Int))
           refine does_plain rfl fun K Q' hK => ?_
           go_simp; exact hK _ _ (Grow.refl _) rfl
          ·intro w1 hg Ar seen
           have s1 := seen.sl 1 (.slice (some ⟨bf, off, none⟩) s.n s.c)
           refine does_plain rfl fun K Q' hK => ?_
           go_simp; exact hK _ _ (Grow.refl _) rfl
          ·intro w1 hg Ar seen
           have e1 := seen.de 1 30
           refine does_plain rfl fun K Q' hK => ?_
           go_simp; exact hK _ _ (Grow.refl _) rfl
          ·intro w1 hg Ar seen
           have e0 := seen.de 0 29
           have e2 := seen.de 2 31
           refine does_plain rfl fun K Q' hK => ?_
           go_simp; exact hK _ _ (Grow.refl _) rfl
          ·intro w1 hg Ar seen
           have e3 := seen.de 3 32
           refine does_plain rfl fun K Q' hK => ?_
           go_simp; exact hK _ _ (Grow.refl _) rfl
          ·intro w1 hg Ar seen
           have e4 := seen.de 4 33
           have s1 := seen.sl 1 (.slice (some ⟨bf, off, none⟩) s.n s.c)
           refine does_on rfl (by kernel_rfl) e4 fun K Q' hK => ?_
           clear e4
           go_simp; exact hK _ _ (Grow.refl _) rfl
          ·intro w1 hg Ar seen
           have e4 := seen.de 4 33
           have s7 := seen.sl 7 (.int .i64 (a2 : Int))
           refine does_on rfl (by kernel_rfl) e4 fun K Q' hK => ?_
           clear e4
           go_simp; exact hK _ _ (Grow.refl _) rfl
          ·intro w1 hg Ar seen
           have e5 := seen.de 5 34
           have e6 := seen.de 6 35
           have e4 := seen.de 4 33
           refine does_on rfl (by kernel_rfl) e4 fun K Q' hK => ?_
           clear e4
           go_simp; exact hK _ _ (Grow.refl _) rfl
          ·intro w1 hg Ar seen
           have e7 := seen.de 7 36
           have e4 := seen.de 4 33
           refine does_on rfl (by kernel_rfl) e4 fun K Q' hK => ?_
           clear e4
           go_simp; exact hK _ _ (Grow.refl _) rfl
          ·intro w1 hg Ar seen
           have e8 := seen.de 8 37
           have e4 := seen.de 4 33
           refine does_on rfl (by kernel_rfl) e4 fun K Q' hK => ?_
           clear e4
           have hc := cell_later hg CF.out
           go_simp; exact hK _ _ (Grow.refl _) rfl
          ·intro w1 hg Ar seen
           have e4 := seen.de 4 33
           have s9 := seen.sl 9 (.pointer (some ⟨c, 0, none⟩))
           refine does_on rfl (by kernel_rfl) e4 fun K Q' hK => ?_
           clear e4
           go_simp; exact hK _ _ (Grow.refl _) rfl
          ·intro w1 hg Ar seen
           have e10 := seen.de 10 39
           have e4 := seen.de 4 33
           refine does_on rfl (by kernel_rfl) e4 fun K Q' hK => ?_
           clear e4
           have hc := cell_of_block (j := 0) ((hg.block _ (block_lt HBX.out)).trans HBX.out) (ar0 x)
           go_simp; exact hK _ _ (Grow.refl _) rfl
          ·intro w1 hg Ar seen
           have e9 := seen.de 9 38
           have e11 := seen.de 11 40
           have e4 := seen.de 4 33
           refine does_on rfl (by kernel_rfl) e4 fun K Q' hK => ?_
           clear e4
           have hb : (f.tag != x.tag) = true := by simp [bne, h1]
           go_simp; exact hK _ _ (Grow.refl _) rfl
          ·intro w1 hg Ar seen
           have e4 := seen.de 4 33
           have e12 := seen.de 12 41
           refine does_plain rfl fun K Q' hK => ?_
           go_simp; exact hK _ _ (Grow.refl _) rfl
        intro w1 hg
        refine upon_w' (js := [0, 1, 2, 3, 4, 5, 6, 7, 8, 9, 10, 11, 12, 13]) (by rfl) ?_
        refine upon_e (some 29) (upon_e (some 30) (upon_e (some 31) (upon_e (some 32) (upon_e (some 33) (upon_e (some 34) (upon_e (some 35) (upon_e (some 36) (upon_e (some 37) (upon_e (some 38) (upon_e (some 39) (upon_e (some 40) (upon_e (some 41) (upon_e (some 42) (upon_n ?_))))))))))))))
        go_simp
        go_simp
        have BG := hid (grow_on BW.out hg)
        clear hg h1
        go_wp2_with fail
        go_roundw
        case rel =>
         first
          | exact ⟨a2 + 1, by go_num, by omega, HPL.out.trans H2.out, BG.out⟩
          | ((repeat apply Exists.intro); exact ⟨⟨a2 + 1, by go_num, by omega, HPL.out.trans H2.out, BG.out⟩, rfl⟩)
        case measure => simp [intOf]; omega
      ·have H2 := hid (place_end (l := l) (k := a2) (tag := x.tag) (by rw [HFL.out]; omega))
       have hq' : s.n ≤ a2 := by omega
       go_upto_region 9 with (fail)
       refine wp_region_each 14 [.eq (.int .i64 (a2 : Int)), .eq (.slice sa s.n s.c), .eq (.int .i64 (s.n : Int)), .eq (.bool false), .eq (.bool false), .eq undef, .eq undef, .eq undef, .eq undef, .eq undef, .eq undef, .eq undef, .eq undef, .eq (.bool false)] (by kernel_rfl) (by kernel_rfl) (by kernel_rfl) (by kernel_rfl) ?_ ?_
       ·as_aux_lemma =>
         refine each_5 ?_ ?_ ?_ ?_ ?_ (each_5 ?_ ?_ ?_ ?_ ?_ (each_c ?_ (each_c ?_ (each_c ?_ (each_c ?_ (each_n))))))
         ·intro w1 hg Ar seen
          have s7 := seen.sl 7 (.int .i64 (a2 : Int))
          refine does_plain rfl fun K Q' hK => ?_
          go_simp; exact hK _ _ (Grow.refl _) rfl
         ·intro w1 hg Ar seen
          have s1 := seen.sl 1 (.slice sa s.n s.c)
          refine does_plain rfl fun K Q' hK => ?_
          go_simp; exact hK _ _ (Grow.refl _) rfl
         ·intro w1 hg Ar seen
          have e1 := seen.de 1 30
          refine does_plain rfl fun K Q' hK => ?_
          go_simp; exact hK _ _ (Grow.refl _) rfl
         ·intro w1 hg Ar seen
          have e0 := seen.de 0 29
          have e2 := seen.de 2 31
          refine does_plain rfl fun K Q' hK => ?_
          go_simp; exact hK _ _ (Grow.refl _) rfl
         ·intro w1 hg Ar seen
          have e3 := seen.de 3 32
          refine does_plain rfl fun K Q' hK => ?_
          go_simp; exact hK _ _ (Grow.refl _) rfl
         ·intro w1 hg Ar seen
          have e4 := seen.de 4 33
          exact does_off rfl (by kernel_rfl) e4 ne_ft (Grow.refl _) rfl
         ·intro w1 hg Ar seen
          have e4 := seen.de 4 33
          exact does_off rfl (by kernel_rfl) e4 ne_ft (Grow.refl _) rfl
         ·intro w1 hg Ar seen
          have e4 := seen.de 4 33
          exact does_off rfl (by kernel_rfl) e4 ne_ft (Grow.refl _) rfl
         ·intro w1 hg Ar seen
          have e4 := seen.de 4 33
          exact does_off rfl (by kernel_rfl) e4 ne_ft (Grow.refl _) rfl
         ·intro w1 hg Ar seen
          have e4 := seen.de 4 33
          exact does_off rfl (by kernel_rfl) e4 ne_ft (Grow.refl _) rfl
         ·intro w1 hg Ar seen
          have e4 := seen.de 4 33
          exact does_off rfl (by kernel_rfl) e4 ne_ft (Grow.refl _) rfl
         ·intro w1 hg Ar seen
          have e4 := seen.de 4 33
          exact does_off rfl (by kernel_rfl) e4 ne_ft (Grow.refl _) rfl
         ·intro w1 hg Ar seen
          have e4 := seen.de 4 33
          exact does_off rfl (by kernel_rfl) e4 ne_ft (Grow.refl _) rfl
         ·intro w1 hg Ar seen
          have e4 := seen.de 4 33
          have e12 := seen.de 12 41
          refine does_plain rfl fun K Q' hK => ?_
          go_simp; exact hK _ _ (Grow.refl _) rfl
       intro w1 hg
       refine upon_w' (js := [0, 1, 2, 3, 4, 5, 6, 7, 8, 9, 10, 11, 12, 13]) (by rfl) ?_
       refine upon_e (some 29) (upon_e (some 30) (upon_e (some 31) (upon_e (some 32) (upon_e (some 33) (upon_e (some 34) (upon_e (some 35) (upon_e (some 36) (upon_e (some 37) (upon_e (some 38) (upon_e (some 39) (upon_e (some 40) (upon_e (some 41) (upon_e (some 42) (upon_n ?_))))))))))))))
       go_simp
       go_simp
       have BG := hid (grow_on BW.out hg)
       clear hg
       go_wp2_with fail
       go_meet
       exact ⟨a2, rfl, ha2, fun h => by omega, fun _ => HPL.out.trans H2.out, BG.out⟩
    case rest =>
     obtain ⟨a2, rfl, ha2, hpy, hpn, hb⟩ := hcut
     have HPY := hid hpy; have HPN := hid hpn
     have HB' := hid (HB.out.trans (hb.mono (by have := HZ5.out; omega))); have HRW' := hid (HRW5.out.below hb); have HV' := hid (HV5.out.below hb); have HX' := hid (HX5.out.below hb); have HS' := hid (HS5'.out.below hb)
     have HZ' := hid (Nat.le_trans HZ5.out hb.size); have HBX' := hid ((hb.block _ (block_lt HB5.out)).trans HB5.out)
     have HBB' := hid ((hb.block _ (by have := HZ5.out; omega)).trans HBB5.out)
     clear hb hpy hpn HB HRW5 HV5 HX5 HS5' HZ5 HB5 HBX HBB5
     have HB := HB'; have HRW5 := HRW'; have HV5 := HV'; have HX5 := HX'; have HS5' := HS'; have HZ5 := HZ'; have HB5 := HBX'; have HBB5 := HBB'
     clear HB' HRW' HV' HX' HS' HZ' HBX' HBB'
     by_cases hq : a2 < s.n
     ·have hp := HPY.out hq
      have HP := hid hp
      clear hp HPY HPN
      obtain ⟨bf, off, f, haf, hf, hfr⟩ := HS5'.out.fld hq
      rw [HSA.out] at haf
      subst haf
      have hsll := HRW5.out.slen
      simp only at hsll
      obtain ⟨sl, hsl⟩ : ∃ sl, sls[a2]? = some sl := ⟨sls[a2]'(by omega), List.getElem?_eq_getElem _⟩
      obtain ⟨lj, hlj⟩ : ∃ lj, rows[a2]? = some lj := ⟨rows[a2]'(by have := HRW5.out.len; omega), List.getElem?_eq_getElem _⟩
      have HSLJ := hid hsl; have HLJ := hid hlj
      have hsn40 : sl.n ≤ 1099511627776 := by have := HSK.out sl (List.mem_of_getElem? hsl); omega
      have hsnk : sl.n ≤ k := HSK.out sl (List.mem_of_getElem? hsl)
      have HOJ := hid (HRW5.out.each a2 sl lj hsl hlj)
      have hco : wc.cell? ⟨b + 1, a2, none⟩ = some (.slice sl.a sl.n sl.c) := by rw [HRW5.out.own.cellAt a2 (by simp; omega), List.getElem?_map, hsl]; rfl
      have HFD : Hid (l.getD a2 default = f) := by show _ = _; rw [List.getD_eq_getElem?_getD, hf]; rfl
      have HRJ : Hid ((rows.map (fun l => l.map ItV.it)).getD a2 [] = lj.map ItV.it ∧ ((rows.map (fun l => l.map ItV.it)).getD a2 []).length = sl.n) := by
       have h1 : (rows.map (fun l => l.map ItV.it)).getD a2 [] = lj.map ItV.it := by rw [List.getD_eq_getElem?_getD, List.getElem?_map, hlj]; rfl
       exact ⟨h1, by rw [h1, List.length_map, HOJ.out.len]⟩
      have hm3 := range_cell hfr 3 (v := .bool f.many) rfl
      have hf1 := range_cell hfr 1 (v := .int .i64 f.typ) rfl
      have hx1 := cell_of_block (j := 1) HB5.out (ar1 x)
      clear hsl hlj hf hfr hsll
      have HSTEP : Hid (parseKids l (v.it.kids.take (k + 1)) = parseStep l (at_, rows.map (fun l => l.map ItV.it)) x.it) := kids_take HPK.out HXK.out
      have HST2 : Hid (parseStep l (at_, rows.map (fun l => l.map ItV.it)) x.it = if sl.n ≠ 0 ∧ f.many = false then .error 4 else if x.typ ≠ f.typ then .error 7 else .ok (a2, (rows.map (fun l => l.map ItV.it)).set a2 (lj.map ItV.it ++ [x.it]))) := by
       show _ = _
       unfold parseStep
       simp only [it_tag, HP.out, it_typ, HFD.out, HRJ.out.1, HRJ.out.2]
       rw [← HOJ.out.len, List.length_map]
      clear HPK
      have hne0 : ((a2 : Int) == (s.n : Int)) = false := by simp; omega
      by_cases hbad : sl.n ≠ 0 ∧ f.many = false
      ·have HE : Hid (parseV l v.it = .error 4) := parse_err (k := k + 1) ((it_typ v).trans HT.out) (by rw [HSTEP.out, HST2.out, if_pos hbad])
       have hpos : 0 < sl.n := by omega
       rw [hbad.2] at hm3
       clear hbad hx1 hf1
       go_wp2_with fail
       go_ret2
       unfold ParsedR
       rw [HE.out]
       exact ⟨rfl, by rw [HBE.out]; exact HB.out⟩
      ·have hok : sl.n ≤ 0 ∨ (0 < sl.n ∧ f.many = true) := by
        rcases Nat.eq_zero_or_pos sl.n with h | h
        ·left; omega
        ·right; refine ⟨h, ?_⟩
         cases hmm : f.many with
         | true => rfl
         | false => exact absurd ⟨by omega, hmm⟩ hbad
       rw [if_neg hbad] at HST2
       clear hbad
       rcases hok with hle | ⟨hpos, hmany⟩
       all_goals
        try rw [hmany] at hm3
        try clear hmany
        go_upto_region 13 with (fail)
        clear hm3 hco hne0
        by_cases hty : x.typ = f.typ
        ·have hst2 := HST2.out
         rw [if_neg (by simp [hty])] at hst2
         have HST3 := hid hst2
         clear hst2 HST2
         rw [← hty] at hf1
         clear hty
         go_quiet (fail)
         have hd : Below wc.heap.size wc (wc.drewN nq) := Go.below_drewN (Below.refl _ _) _
         have HRW6 := hid (HRW5.out.below hd); have HV6 := hid (HV5.out.below hd); have HS6 := hid (HS5'.out.below hd); have HX6 := hid (HX5.out.below hd)
         have HB6 := hid (HB.out.trans (hd.mono (by have := HZ5.out; omega)))
         have HBX6 := hid ((hd.block _ (block_lt HB5.out)).trans HB5.out)
         have HBB6 := hid ((hd.block _ (by have := HZ5.out; omega)).trans HBB5.out)
         have HZ6 := hid (Nat.le_trans HZ5.out hd.size)
         clear hd HRW5 HV5 HS5' HX5 HB HB5 HOJ hf1 hx1 HZ5 HBB5
         generalize wc.drewN nq = w6 at *
         obtain ⟨z, hz⟩ : ∃ z, w6.heap.size = z := ⟨_, rfl⟩
         have HZ := hid hz; clear hz
         have HCO := hid (show w6.cell? ⟨b + 1, a2, none⟩ = some (.slice sl.a sl.n sl.c) by rw [HRW6.out.own.cellAt a2 (by have := HRW6.out.slen; simp at this ⊢; omega), List.getElem?_map, HSLJ.out]; rfl)
         have HOJ6 := hid (HRW6.out.each a2 sl lj HSLJ.out HLJ.out)
         go_upto_region 15 with (fail)
         refine wp_region_any (by kernel_rfl) ?_
         try (change wpAny _ _ _ _ _ _ _ (World.drew _))
         refine wpAny_take (i := 0) (v := .slice (some ⟨b + 1, 0, none⟩) s.n s.n) rfl (by kernel_rfl) (by kernel_rfl) (by kernel_rfl) (fun _ _ _ h => h) (Or.inl ⟨by rfl, by intro w; go_simp; try rfl⟩) ?_
         refine wpAny_take (i := 1) (v := .int .i64 (a2 : Int)) rfl (by kernel_rfl) (by kernel_rfl) (by kernel_rfl) (fun _ _ _ h => h) (Or.inl ⟨by rfl, by intro w; go_simp; try rfl⟩) ?_
         go_simp
         refine wpAny_eachA (w0 := w6) 10 #[true, true, false, false, false, false, false, false, false, false, false, false, false] #[true, true, true, true, true, true, true, true, true, true, false, false, false] [0, 1] [.eq (.slice (some ⟨b + 1, 0, none⟩) s.n s.n), .eq (.int .i64 (a2 : Int)), stEmpty 27 z, .eq (.slice (some ⟨b + 1, 0, none⟩) s.n s.n), .eq (.int .i64 (a2 : Int)), .eq (.pointer (some ⟨b + 1, a2, none⟩)), .eq (.slice sl.a sl.n sl.c), stRow 27 z sl.n (itmCells lj), .eq (.agg x.arr), stItemR x 27] (by kernel_rfl) (by kernel_rfl) (by kernel_rfl) (by kernel_rfl) ((Grow.refl _).drew) (by kernel_rfl) (by decide) (by kernel_rfl) (by kernel_rfl) (by kernel_rfl) ⟨(by change _ = _; kernel_rfl), (by change _ = _; kernel_rfl), trivial⟩ ?_ ?_
         ·as_aux_lemma =>
           refine each_5 ?_ ?_ ?_ ?_ ?_ (each_5 ?_ ?_ ?_ ?_ ?_ (each_n))
           ·intro w1 hg Ar seen
            have s6 := seen.sl 6 (.slice (some ⟨b + 1, 0, none⟩) s.n s.n)
            refine does_plain rfl fun K Q' hK => ?_
            go_simp; exact hK _ _ (Grow.refl _) rfl
           ·intro w1 hg Ar seen
            have s7 := seen.sl 7 (.int .i64 (a2 : Int))
            refine does_plain rfl fun K Q' hK => ?_
            go_simp; exact hK _ _ (Grow.refl _) rfl
           ·intro w1 hg Ar seen
            refine does_plain rfl fun K Q' hK => ?_
            go_simp
            exact hK _ _ ((Below.refl _ _).alloc (Nat.le_refl _) _) ⟨_, rfl, block_new _ _, by have := hg.size; have := HZ.out; omega⟩
           ·intro w1 hg Ar seen
            have s6 := seen.sl 6 (.slice (some ⟨b + 1, 0, none⟩) s.n s.n)
            refine does_plain rfl fun K Q' hK => ?_
            go_simp; exact hK _ _ (Grow.refl _) rfl
           ·intro w1 hg Ar seen
            have s7 := seen.sl 7 (.int .i64 (a2 : Int))
            refine does_plain rfl fun K Q' hK => ?_
            go_simp; exact hK _ _ (Grow.refl _) rfl
           ·intro w1 hg Ar seen
            have e3 := seen.de 3 76
            have e4 := seen.de 4 77
            refine does_plain rfl fun K Q' hK => ?_
            go_simp; exact hK _ _ (Grow.refl _) rfl
           ·intro w1 hg Ar seen
            have e5 := seen.de 5 78
            refine does_plain rfl fun K Q' hK => ?_
            have hc := cell_later hg HCO.out
            go_simp; exact hK _ _ (Grow.refl _) rfl
           ·intro w1 hg Ar seen
            obtain ⟨v2, e2, h2⟩ := seen.dp 2 75
            have e6 := seen.de 6 79
            refine does_plain rfl fun K Q' hK => ?_
            obtain ⟨g, rfl, hgc, hgb⟩ := h2
            refine wp_append_empty _ _ 25 rfl z 27 i _ 5 72 Tryd.underlying25 hi hz0 hz1 hz2 rfl (by decide) g (by simp [Act.eval, e2]) hgc hgb sl.a sl.n sl.c (itmCells lj) (by simp [Act.eval, e6]) ((HOJ6.out.sl hsn40).below hg).rd (itm_one lj) ((HOJ6.out.sl hsn40).no) (by unfold maxLen; omega) (by omega) ?_
            intro a' c' w' hown hb
            exact hK _ _ hb ⟨a', c', rfl, hown⟩
           ·intro w1 hg Ar seen
            have s9 := seen.sl 9 (.pointer (some ⟨c, 0, none⟩))
            refine does_plain rfl fun K Q' hK => ?_
            refine wp_load_row 27 _ rfl c (by simp [Act.eval, s9]) _ _ _ _ ((hg.block _ (block_lt HBX6.out)).trans HBX6.out) Tryd.underlying27 rfl iSize ?_
            exact hK _ _ (Grow.refl _) rfl
           ·intro w1 hg Ar seen
            have e8 := seen.de 8 81
            refine does_plain rfl fun K Q' hK => ?_
            refine wp_build_item _ 27 _ rfl x (by simp [Act.eval, e8]) i Tryd.underlying25 hi hz0 hz1 ?_
            exact hK _ _ ((Below.refl _ _).alloc (Nat.le_refl _) _) ⟨_, rfl, block_new _ _⟩
         intro w1 hg
         refine upon_w' (js := [0, 1, 2, 3, 4, 5, 6, 7, 8, 9]) (by rfl) ?_
         refine upon_e (some 73) (upon_e (some 74) (upon_v (some 75) fun v2 h2 => upon_e (some 76) (upon_e (some 77) (upon_e (some 78) (upon_e (some 79) (upon_v (some 80) fun v7 h7 => upon_e (some 81) (upon_v (some 82) fun v9 h9 => upon_n ?_)))))))
         go_simp
         clear h2
         obtain ⟨a7, c7, rfl, ho7⟩ := h7
         obtain ⟨p, rfl, hp⟩ := h9
         have HPB := hid hp; have HO7 := hid ho7; have HGG := hid hg
         have HGZ : Hid (z ≤ w1.heap.size) := by show _ ≤ _; rw [← HZ.out]; exact hg.size
         have HBZ : Hid (b + 2 ≤ z) := by show _ ≤ _; rw [← HZ.out]; exact HZ6.out
         clear hp ho7 hg
         refine wpAny_ready (rs := [10]) (by kernel_rfl) (by simp) ?_
         refine AllReady.cons rfl (fun K hK => ?_) AllReady.nil
         refine step_append_c rfl _ _ 25 rfl z 27 i _ 5 72 Tryd.underlying25 hi hz0 hz1 hz2 rfl (by decide) (.slice a7 sl.n c7) sl.n _ rfl HO7.out _ 1 _ x.arr.toList rfl (RdC.of_block HPB.out) (by have := itm_one [x]; simpa [itmCells, ItV.cells] using this) (fun hx => by cases hx) (by unfold maxLen; omega) (by omega) HGZ.out ?_
         intro a3 c3 w7 hown hgw hfr
         have hb67 : Below w6.heap.size w6 w7 := Below.trans (B := w6.heap.size) HGG.out ((Below.refl w6.heap.size w1).grown hgw (by rw [HZ.out]; exact HGZ.out) (fun q hq => by rw [HZ.out]; exact (HO7.out.lt q hq).1))
         have HB67 := hid hb67; have HO3 := hid hown
         have HOO : Hid (w7.ownsRow b 25 1 (.slice (some ⟨b + 1, 0, none⟩) s.n s.n) s.n (sls.map Sl.v)) := (Chg.of_below hb67 []).owns HRW6.out.own (fun q _ hm => by cases hm)
         have hco := (show w7.cell? ⟨b + 1, a2, none⟩ = some (.slice sl.a sl.n sl.c) by rw [HOO.out.cellAt a2 (by omega), List.getElem?_map, HSLJ.out]; rfl)
         have hfz := HOO.out.frozenAt a2
         clear hown hgw hfr hb67
         refine hK _ _ ?_
         clear hK K
         go_simp
         refine wpAny_ready (rs := [11]) (by kernel_rfl) (by simp) ?_
         refine AllReady.cons rfl (fun K hK => ?_) AllReady.nil
         go_simp
         refine hK _ _ ?_
         clear hK K
         refine wpAny_ready (rs := [12]) (by kernel_rfl) (by simp) ?_
         refine AllReady.cons rfl (fun K hK => ?_) AllReady.nil
         go_simp
         refine hK _ _ ?_
         clear hK K hco hfz
         refine wpAny_done (by kernel_rfl) ?_ _
         have hset : Chg [b + 1] w7 (w7.setCell ⟨b + 1, a2, none⟩ (.slice a3 (sl.n + 1) c3)) := (Chg.refl _ w7).setCell (.inl (by simp)) _
         have h3b : ∀ q, (Value.slice a3 (sl.n + 1) c3).ownBlock = some q → z ≤ q := fun q hq => (HO3.out.lt q hq).1
         have hr9 : Rows2 25 27 (w7.setCell ⟨b + 1, a2, none⟩ (.slice a3 (sl.n + 1) c3)) b 0 ⟨some ⟨b + 1, 0, none⟩, s.n, s.n⟩ (sls.set a2 ⟨a3, sl.n + 1, c3⟩) (rows.set a2 (lj ++ [x])) := by
          refine HRW6.out.push (by decide) (g := b + 1) rfl HSLJ.out HLJ.out x HX6.out (fun q _ => Nat.zero_le _) (fun q hq => ⟨fun si hsi he => ?_, fun he => ?_⟩) ((Chg.of_below HB67.out _).setCell (.inl (by simp)) _) ?_ ?_ (.inr fun q hq => by rw [HZ.out]; exact h3b q hq)
          ·obtain ⟨j', hj'⟩ := List.getElem?_of_mem hsi
           obtain ⟨l', hl'⟩ : ∃ l', rows[j']? = some l' := ⟨rows[j']'(by have := (List.getElem?_eq_some_iff.1 hj').1; have := HRW6.out.len; omega), List.getElem?_eq_getElem _⟩
           have := ((HRW6.out.each j' si l' hj' hl').own.lt q he).1
           have := HXF.out q hq; omega
          ·have he2 : some (b + 1) = some q := he
           cases he2
           have := HXF.out _ hq; omega
          ·refine ownsRow_base (hset.owns ?_ (fun q hq hm => by have := h3b q hq; have := List.mem_singleton.1 hm; have := HBZ.out; omega)) (fun q hq => by have := h3b q hq; have := HBZ.out; omega) (base := z)
           rw [itm_app]; simpa [itmCells, ItV.cells] using HO3.out
          ·have := (HOO.out.stored a2 (.slice a3 (sl.n + 1) c3)).1
           rwa [← List.map_set (f := Sl.v) (a := ⟨a3, sl.n + 1, c3⟩)] at this
         have hbz := HBZ.out
         have hb9 : Below b w (w7.setCell ⟨b + 1, a2, none⟩ (.slice a3 (sl.n + 1) c3)) := (HB6.out.trans (HB67.out.mono (by rw [HZ.out]; omega))).setCell (by simp) _
         have hz9 : b + 2 ≤ (w7.setCell ⟨b + 1, a2, none⟩ (.slice a3 (sl.n + 1) c3)).heap.size := by have := HB67.out.size; rw [HZ.out] at this; have := hset.size; omega
         have hv9 := ItV.ok.keep hset (HV6.out.below HB67.out) (fun q hq hm => by have := HLT.out q hq; have := List.mem_singleton.1 hm; omega)
         have hs9 := (HS6.out.below HB67.out).keep hset (fun q hq hm => by have := HSL.out q hq; have := List.mem_singleton.1 hm; omega)
         have hbb9 := (hset.block b (by have := HB67.out.size; rw [HZ.out] at this; omega) (by simp)).trans ((HB67.out.block b (by rw [HZ.out]; omega)).trans HBB6.out)
         have hp9 : parseKids l (v.it.kids.take (k + 1)) = .ok (a2, (rows.set a2 (lj ++ [x])).map (fun l => l.map ItV.it)) := by
          rw [HSTEP.out, HST3.out, List.map_set, List.map_append, List.map_cons, List.map_nil]
         have hn9 : ∀ si ∈ sls.set a2 ⟨a3, sl.n + 1, c3⟩, si.n ≤ k + 1 := fun si hsi => by
          rcases List.mem_or_eq_of_mem_set hsi with h' | h'
          ·have := HSK.out si h'; omega
          ·rw [h']; simp only; omega
         have hk9 : ∀ lr ∈ rows.set a2 (lj ++ [x]), ∀ y ∈ lr, ∀ q ∈ y.foot, F q := fun lr hlr y hy q hq => by
          rcases List.mem_or_eq_of_mem_set hlr with h' | h'
          ·exact HRK.out lr h' y hy q hq
          ·rw [h'] at hy
           rcases List.mem_append.1 hy with h9 | h9
           ·exact HRK.out lj (List.mem_of_getElem? HLJ.out) y h9 q hq
           ·rw [List.mem_singleton.1 h9] at hq; exact HXF2.out q hq
         have H9 := hid (And.intro hp9 (And.intro hn9 (And.intro hk9 (And.intro hr9 (And.intro hb9 (And.intro hz9 (And.intro hv9 (And.intro hs9 hbb9))))))))
         clear hset h3b hr9 hbz hb9 hz9 hv9 hs9 hbb9 hp9 hn9 hk9
         go_wp2_with fail
         go_roundw
         case rel =>
          first
           | exact ⟨k + 1, a2, _, _, by omega, by go_num, rfl, by omega, H9.out⟩
           | ((repeat apply Exists.intro); exact ⟨⟨k + 1, a2, _, _, by omega, by go_num, rfl, by omega, H9.out⟩, rfl⟩)
         case measure => simp [intOf]; omega
        ·have hne : (x.typ == f.typ) = false := by simpa using hty
         have HE : Hid (parseV l v.it = .error 7) := parse_err (k := k + 1) ((it_typ v).trans HT.out) (by rw [HSTEP.out, HST2.out, if_pos hty])
         clear hty
         go_quiet (fail)
         go_wp2_with fail
         go_ret2
         unfold ParsedR
         rw [HE.out]
         exact ⟨rfl, by rw [HBE.out]; exact Go.below_drewN HB.out _⟩
     ·obtain rfl : a2 = s.n := by omega
      have hp := HPN.out rfl
      have HE : Hid (parseV l v.it = .error 4) := parse_err (k := k + 1) ((it_typ v).trans HT.out) (by
       rw [kids_take HPK.out HXK.out]; unfold parseStep; simp only [it_tag, hp])
      clear hp HPY HPN
      go_wp2_with fail
      go_ret2
      unfold ParsedR
      rw [HE.out]
      exact ⟨rfl, by rw [HBE.out]; exact HB.out⟩
   ·obtain rfl : k = v.ks.n := by omega
    have HPA : Hid (parseV l v.it = if missing l (rows.map (fun l => l.map ItV.it)) = true then .error 6 else .ok (rows.map (fun l => l.map ItV.it))) := by
     refine parse_ok (st := (at_, _)) ((it_typ v).trans HT.out) ?_
     have h1 := HPK.out
     rwa [List.take_of_length_le (by rw [it_kids, List.length_map, HKL.out]; exact Nat.le_refl _)] at h1
    have HSB : Hid (∀ sl ∈ sls, sl.n ≤ 1099511627776) := fun sl h => by have := HSK.out sl h; omega
    have hsl0 := HRW.out.slen
    have hrl0 := HRW.out.len
    simp only at hsl0
    have HSL0 := hid hsl0; have HRL0 := hid hrl0
    clear HPK HSK hsl0 hrl0
    go_wp2_with fail
    clear hc4
    go_loopw [10] (fun y wr => ∃ q : Nat, q ≤ s.n ∧ y = .int .i64 q ∧ (∀ r, r < q → missK l (rows.map (fun l => l.map ItV.it)) r = false) ∧ Rows2 25 27 wr b 0 ⟨some ⟨b + 1, 0, none⟩, s.n, s.n⟩ sls rows ∧ Below b w wr ∧ SlR wr s 4 (fldCells l)) (fun y _ => s.n - (intOf y).toNat)
    case atStart => exact ⟨0, Nat.zero_le _, rfl, fun r h => absurd h (Nat.not_lt_zero _), HRW.out, B.out, HS.out⟩
    case round =>
     clear HRW B HZZ HS HV HBB
     obtain ⟨q, hq, rfl, hmq, hr, hb, hs⟩ := hrel
     have HRW := hid hr; have B := hid hb; have HS := hid hs; have HMQ := hid hmq
     clear hr hb hs hmq
     by_cases hlt : q < s.n
     ·obtain ⟨bf, off, f, haf, hf, hfr⟩ := HS.out.fld hlt
      rw [HSA.out] at haf
      subst haf
      obtain ⟨sl, hsl⟩ : ∃ sl, sls[q]? = some sl := ⟨sls[q]'(by have := HSL0.out; omega), List.getElem?_eq_getElem _⟩
      obtain ⟨lj, hlj⟩ : ∃ lj, rows[q]? = some lj := ⟨rows[q]'(by have := HRL0.out; have := HSL0.out; omega), List.getElem?_eq_getElem _⟩
      have HOJ := hid (HRW.out.each q sl lj hsl hlj)
      have HMK : Hid (missK l (rows.map (fun l => l.map ItV.it)) q = (f.need && decide (sl.n = 0))) := by
       show _ = _
       unfold missK
       have h1 : (rows.map (fun l => l.map ItV.it)).getD q [] = lj.map ItV.it := by rw [List.getD_eq_getElem?_getD, List.getElem?_map, hlj]; rfl
       have h2 : l.getD q default = f := by rw [List.getD_eq_getElem?_getD, hf]; rfl
       rw [h1, h2, ← HOJ.out.len]
       cases lj <;> simp
      have hc2 := range_cell hfr 2 (v := .bool f.need) rfl
      have hsn40 : sl.n ≤ 1099511627776 := HSB.out sl (List.mem_of_getElem? hsl)
      have hco : wr.cell? ⟨b + 1, q, none⟩ = some (.slice sl.a sl.n sl.c) := by rw [HRW.out.own.cellAt q (by simp; omega), List.getElem?_map, hsl]; rfl
      clear hf hfr hsl hlj
      cases hnd : f.need with
      | false =>
       rw [hnd] at hc2
       have HM2 : Hid (missK l (rows.map (fun l => l.map ItV.it)) q = false) := by have := HMK.out; rw [hnd] at this; simpa [Hid] using this
       clear hnd HMK
       go_wp2_with fail
       go_roundw
       case rel =>
        have h1 : ∀ r, r < q + 1 → missK l (rows.map (fun l => l.map ItV.it)) r = false := fun r hr => by
         rcases Nat.lt_or_ge r q with h' | h'
         ·exact HMQ.out r h'
         ·obtain rfl : r = q := by omega
          exact HM2.out
        first
         | exact ⟨q + 1, by omega, by go_num, h1, HRW.out, B.out, HS.out⟩
         | ((repeat apply Exists.intro); exact ⟨⟨q + 1, by omega, by go_num, h1, HRW.out, B.out, HS.out⟩, rfl⟩)
       case measure => simp [intOf]; omega
      | true =>
       rw [hnd] at hc2
       by_cases hz : sl.n = 0
       ·have HM2 : Hid (missK l (rows.map (fun l => l.map ItV.it)) q = true) := by have := HMK.out; rw [hnd, hz] at this; simpa [Hid] using this
        have HE : Hid (parseV l v.it = .error 6) := by
         show _ = _
         rw [HPA.out, if_pos (missing_yes (k := q) (by have := HFL.out; omega) HM2.out)]
        rw [hz] at hco
        clear hnd HMK hz
        go_wp2_with fail
        go_ret2
        unfold ParsedR
        rw [HE.out]
        exact ⟨rfl, by rw [HBE.out]; exact B.out⟩
       ·have HM2 : Hid (missK l (rows.map (fun l => l.map ItV.it)) q = false) := by have := HMK.out; rw [hnd] at this; simpa [Hid, hz] using this
        have hne : ((sl.n : Int) == 0) = false := by simp; omega
        clear hnd HMK hz
        go_wp2_with fail
        go_roundw
        case rel =>
         have h1 : ∀ r, r < q + 1 → missK l (rows.map (fun l => l.map ItV.it)) r = false := fun r hr => by
          rcases Nat.lt_or_ge r q with h' | h'
          ·exact HMQ.out r h'
          ·obtain rfl : r = q := by omega
           exact HM2.out
         first
          | exact ⟨q + 1, by omega, by go_num, h1, HRW.out, B.out, HS.out⟩
          | ((repeat apply Exists.intro); exact ⟨⟨q + 1, by omega, by go_num, h1, HRW.out, B.out, HS.out⟩, rfl⟩)
        case measure => simp [intOf]; omega
     ·have HE : Hid (parseV l v.it = .ok (rows.map (fun l => l.map ItV.it))) := by
       show _ = _
       rw [HPA.out, if_neg (by rw [missing_no (fun r hr => HMQ.out r (by have := HFL.out; omega))]; simp)]
      obtain rfl : q = s.n := by omega
      go_wp2_with fail
      go_ret2
      unfold ParsedR
      rw [HE.out]
      refine ⟨⟨some ⟨b + 1, 0, none⟩, s.n, s.n⟩, sls, rows, rfl, ?_, rfl, HSB.out, by rw [HBE.out]; exact B.out, HRK.out⟩
      rw [HBE.out]
      exact HRW.out
 ·have hne : (v.typ == 1) = false := by simpa using ht
  have HE := hid (parse_typ (l := l) (i := v.it) (by rw [it_typ]; exact ht))
  clear ht
  go_wp2_with fail
  go_ret2
  unfold ParsedR
  rw [HE.out]
  exact ⟨rfl, by rw [HBE.out]; exact HBW.out⟩
end Go.Proofs.YtbnbofooofedkaaDoor
