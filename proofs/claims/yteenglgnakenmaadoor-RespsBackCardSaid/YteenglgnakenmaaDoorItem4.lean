/- locksmithref6.Same. -/
import Derived.Test.YteenglgnakenmaaDoorItem3
import Derived.Test.YteenglgnakenmaaDoorRegion
namespace Go.Proofs.YteenglgnakenmaaDoor
open Go.RowKit
set_option linter.unusedVariables false
set_option linter.unusedSimpArgs false
set_option maxRecDepth 100000
set_option maxHeartbeats 1600000
open Classical in
/-- Are two items the same? -/
noncomputable def sameI (a b : Itm) : Bool := decide (a = b)
theorem sameI_yes {a b : Itm} (h : a = b) : sameI a b = true := by simp [sameI, h]
theorem sameI_no {a b : Itm} (h : a ≠ b) : sameI a b = false := by simp [sameI, h]
theorem sameI_eq {a b : Itm} (h : sameI a b = true) : a = b := by simpa [sameI] using h
theorem sameI_ne {a b : Itm} (h : sameI a b = false) : a ≠ b := by simpa [sameI] using h
theorem it_ne {a b : ItV} (h : ¬ (a.tag = b.tag ∧ a.typ = b.typ ∧ a.int = b.int ∧ a.data = b.data ∧ a.kids.map ItV.it = b.kids.map ItV.it)) : sameI a.it b.it = false := by
  refine sameI_no fun he => h ?_
  rw [ItV.it_eq, ItV.it_eq] at he
  simpa using he
theorem it_same {a b : ItV} (h1 : a.tag = b.tag) (h2 : a.typ = b.typ) (h3 : a.int = b.int) (h4 : a.data = b.data) (h5 : a.kids.map ItV.it = b.kids.map ItV.it) : sameI a.it b.it = true := by
  refine sameI_yes ?_
  rw [ItV.it_eq, ItV.it_eq, h1, h2, h3, h4, h5]
theorem range_later {w w' : World} (hb : Below w.heap.size w w') {b o : Nat} {cs : List Value} (h : w.rangeAt b o cs) : w'.rangeAt b o cs := fun j v hv => cell_later hb (h j v hv)
theorem bytes_ne' {y x : ByteArray} (h : y ≠ x) : (y.toList == x.toList) = false := by
  rw [beq_eq_false_iff_ne]
  intro e
  rw [ByteArray.toList_eq, ByteArray.toList_eq] at e
  apply h
  obtain ⟨y⟩ := y
  obtain ⟨x⟩ := x
  exact congrArg ByteArray.mk (Array.toList_inj.1 e)
theorem same6_any : ∀ (a c : ItV) (w : World), a.ok w → c.ok w → Calls Tryd.prog 11 #[.agg a.arr, .agg c.arr] w fun e w' => e = .returned (.bool (sameI a.it c.it)) ∧ Below w.heap.size w w' := by
  refine ItV.ind (C := fun a => ∀ (c : ItV) (w : World), a.ok w → c.ok w → Calls Tryd.prog 11 #[.agg a.arr, .agg c.arr] w fun e w' => e = .returned (.bool (sameI a.it c.it)) ∧ Below w.heap.size w w') ?_
  intro a ih c w ha hc
  have IH := hid ih; have HA := hid ha; have HC := hid hc
  clear ih ha hc
  generalize hbe : w.heap.size = b
  have HBE := hid hbe; clear hbe
  go_enter Tryd.func11, Tryd.ntmps11
  go_upto_region 1 with (fail)
  have B0 := hid (Bx2.start (T := 30) (T' := 30) (cs := a.arr) (zs := c.arr) (w := w) HBE.out)
  have hbel : Below w.heap.size w ((w.alloc (.cells a.arr 30)).alloc (.cells c.arr 30)) := ((Below.refl _ w).alloc (Nat.le_refl _) (.cells a.arr 30)).alloc (by simp) (.cells c.arr 30)
  have HA0 := hid (HA.out.below hbel); have HC0 := hid (HC.out.below hbel)
  clear hbel HA HC
  go_simp
  rw [HBE.out]
  generalize (w.alloc (.cells a.arr 30)).alloc (.cells c.arr 30) = W at *
  have a0 := cell_of_block (j := 0) B0.out.box (ar0 a)
  have a1 := cell_of_block (j := 1) B0.out.box (ar1 a)
  have a2 := cell_of_block (j := 2) B0.out.box (ar2 a)
  have a3 := cell_of_block (j := 3) B0.out.box (ar3 a)
  have a4 := cell_of_block (j := 4) B0.out.box (ar4 a)
  have d0 := cell_of_block (j := 0) B0.out.res (ar0 c)
  have d1 := cell_of_block (j := 1) B0.out.res (ar1 c)
  have d2 := cell_of_block (j := 2) B0.out.res (ar2 c)
  have d3 := cell_of_block (j := 3) B0.out.res (ar3 c)
  have d4 := cell_of_block (j := 4) B0.out.res (ar4 c)
  have hka := (ItV.ok_iff.1 HA0.out).2.1.klen
  have hkc := (ItV.ok_iff.1 HC0.out).2.1.klen
  have sma := (ItV.ok_iff.1 HA0.out).2.1.sm
  have smc := (ItV.ok_iff.1 HC0.out).2.1.sm
  have ra := run_bytes_str (P := Tryd.prog) (ItV.ok_iff.1 HA0.out).1.rdB a.ds.c 27 9 5 Tryd.underlying27 Tryd.underlying5 Tryd.underlying9
  have rc := run_bytes_str (P := Tryd.prog) (ItV.ok_iff.1 HC0.out).1.rdB c.ds.c 27 9 5 Tryd.underlying27 Tryd.underlying5 Tryd.underlying9
  have HKA := hid hka; have HKC := hid hkc
  clear hka hkc
  by_cases e0 : a.tag = c.tag
  · by_cases e1 : a.typ = c.typ
    · by_cases e2 : a.int = c.int
      · by_cases e3 : a.data = c.data
        · by_cases e4 : a.ks.n = c.ks.n
          · have E0 := hid e0; have E1 := hid e1; have E2 := hid e2; have E3 := hid e3; have E4 := hid e4
            rw [← e0] at d0; rw [← e1] at d1; rw [← e2] at d2; rw [← e3] at rc; rw [← e4] at d4
            clear e0 e1 e2 e3 e4
            go_wp2_with fail
            have hn : a.ks.n ≤ 1099511627776 := sma
            clear a0 a1 a2 a3 d0 d1 d2 d3 d4 a4 ra rc sma smc
            go_loopw [5] (fun u wr => ∃ k : Nat, k ≤ a.ks.n ∧ u = .int .i64 k ∧ (a.kids.take k).map ItV.it = (c.kids.take k).map ItV.it ∧ Bx2 30 30 w wr b a.arr c.arr ∧ a.ok wr ∧ c.ok wr) (fun u _ => a.ks.n - (intOf u).toNat)
            case atStart => exact ⟨0, Nat.zero_le _, rfl, rfl, B0.out, HA0.out, HC0.out⟩
            case round =>
              clear B0 HA0 HC0
              obtain ⟨k, hk, rfl, hl, hb, ha, hc⟩ := hrel
              have B := hid hb; have HA := hid ha; have HC := hid hc; have HL := hid hl
              clear hl hb ha hc
              have a4 := cell_of_block (j := 4) B.out.box (ar4 a)
              by_cases hlt : k < a.ks.n
              · obtain ⟨ba, oa, x, hax, hx, hrx⟩ := (ItV.ok_iff.1 HA.out).2.1.row hlt
                obtain ⟨bc, oc, y, hcy, hy, hry⟩ := (ItV.ok_iff.1 HC.out).2.1.row (k := k) (by rw [← E4.out]; exact hlt)
                have HAX := hid hax; have HCX := hid hcy; have HRX := hid hrx; have HRY := hid hry
                have HMX := hid (List.mem_of_getElem? hx)
                have HX := hid ((ItV.ok_iff.1 HA.out).2.2 x (List.mem_of_getElem? hx))
                have HY := hid ((ItV.ok_iff.1 HC.out).2.2 y (List.mem_of_getElem? hy))
                have HT : Hid ((a.kids.take (k + 1)).map ItV.it = (a.kids.take k).map ItV.it ++ [x.it] ∧ (c.kids.take (k + 1)).map ItV.it = (c.kids.take k).map ItV.it ++ [y.it]) := by
                  show _ ∧ _
                  rw [List.take_add_one, List.take_add_one, hx, hy]; simp
                have HNE : Hid (x.it ≠ y.it → sameI a.it c.it = false) := fun hne => it_ne fun h => hne (by
                  have h5 := congrArg (fun l => l[k]?) h.2.2.2.2
                  simpa [hx, hy] using h5)
                clear hax hcy hrx hry hx hy
                go_upto_region 6 with (fail)
                clear a4
                refine wp_region_each 12 [.eq (.pointer (some ⟨b, 4, none⟩)), .eq (.slice (some ⟨ba, oa, none⟩) a.ks.n a.ks.c), .eq (.int .i64 (k : Int)), .eq (.pointer (some ⟨ba, oa + k * 5, none⟩)), .eq (.agg x.arr), .eq (.pointer (some ⟨b + 1, 4, none⟩)), .eq (.slice (some ⟨bc, oc, none⟩) a.ks.n c.ks.c), .eq (.int .i64 (k : Int)), .eq (.pointer (some ⟨bc, oc + k * 5, none⟩)), .eq (.agg y.arr), .eq (.bool (sameI x.it y.it)), .eq (.bool (!sameI x.it y.it))] (by kernel_rfl) (by kernel_rfl) (by kernel_rfl) (by kernel_rfl) ?_ ?_
                · as_aux_lemma =>
                    refine each_5 ?_ ?_ ?_ ?_ ?_ (each_5 ?_ ?_ ?_ ?_ ?_ (each_c ?_ (each_c ?_ (each_n))))
                    · intro w1 hg Ar seen
                      have s2 := seen.sl 2 (.pointer (some ⟨b, 0, none⟩))
                      refine does_plain rfl fun K Q' hK => ?_
                      go_simp; exact hK _ _ (Grow.refl _) rfl
                    · intro w1 hg Ar seen
                      have e0 := seen.de 0 50
                      refine does_plain rfl fun K Q' hK => ?_
                      have hc := cell_of_block (j := 4) ((hg.block _ (block_lt B.out.box)).trans B.out.box) (ar4 a); rw [HAX.out] at hc
                      go_simp; exact hK _ _ (Grow.refl _) rfl
                    · intro w1 hg Ar seen
                      have s5 := seen.sl 5 (.int .i64 (k : Int))
                      refine does_plain rfl fun K Q' hK => ?_
                      go_simp; exact hK _ _ (Grow.refl _) rfl
                    · intro w1 hg Ar seen
                      have e1 := seen.de 1 51
                      have e2 := seen.de 2 52
                      refine does_plain rfl fun K Q' hK => ?_
                      go_simp; exact hK _ _ (Grow.refl _) rfl
                    · intro w1 hg Ar seen
                      have e3 := seen.de 3 53
                      refine does_plain rfl fun K Q' hK => ?_
                      refine wp_load_mid 30 _ rfl ba (oa + k * 5) (by simp [Act.eval, e3]) x.arr.toList _ (range_later hg HRX.out) Tryd.underlying30 rfl iSize ?_
                      exact hK _ _ (Grow.refl _) rfl
                    · intro w1 hg Ar seen
                      have s3 := seen.sl 3 (.pointer (some ⟨b + 1, 0, none⟩))
                      refine does_plain rfl fun K Q' hK => ?_
                      go_simp; exact hK _ _ (Grow.refl _) rfl
                    · intro w1 hg Ar seen
                      have e5 := seen.de 5 55
                      refine does_plain rfl fun K Q' hK => ?_
                      have hc := cell_of_block (j := 4) ((hg.block _ (block_lt B.out.res)).trans B.out.res) (ar4 c); rw [HCX.out, ← E4.out] at hc
                      go_simp; exact hK _ _ (Grow.refl _) rfl
                    · intro w1 hg Ar seen
                      have s5 := seen.sl 5 (.int .i64 (k : Int))
                      refine does_plain rfl fun K Q' hK => ?_
                      go_simp; exact hK _ _ (Grow.refl _) rfl
                    · intro w1 hg Ar seen
                      have e6 := seen.de 6 56
                      have e7 := seen.de 7 57
                      refine does_plain rfl fun K Q' hK => ?_
                      go_simp; exact hK _ _ (Grow.refl _) rfl
                    · intro w1 hg Ar seen
                      have e8 := seen.de 8 58
                      refine does_plain rfl fun K Q' hK => ?_
                      refine wp_load_mid 30 _ rfl bc (oc + k * 5) (by simp [Act.eval, e8]) y.arr.toList _ (range_later hg HRY.out) Tryd.underlying30 rfl iSize ?_
                      exact hK _ _ (Grow.refl _) rfl
                    · intro w1 hg Ar seen
                      have e4 := seen.de 4 54
                      have e9 := seen.de 9 59
                      refine does_plain rfl fun K Q' hK => ?_
                      go_simp
                      refine (IH.out x HMX.out y _ (HX.out.below hg) (HY.out.below hg)).mono ?_
                      rintro e u ⟨rfl, hb⟩
                      exact hK _ _ hb rfl
                    · intro w1 hg Ar seen
                      have e10 := seen.de 10 60
                      refine does_plain rfl fun K Q' hK => ?_
                      go_simp; exact hK _ _ (Grow.refl _) rfl
                intro w1 hg
                refine upon_w' (js := [0, 1, 2, 3, 4, 5, 6, 7, 8, 9, 10, 11]) (by rfl) ?_
                refine upon_e (some 50) (upon_e (some 51) (upon_e (some 52) (upon_e (some 53) (upon_e (some 54) (upon_e (some 55) (upon_e (some 56) (upon_e (some 57) (upon_e (some 58) (upon_e (some 59) (upon_e (some 60) (upon_e (some 61) (upon_n ?_))))))))))))
                go_simp
                have HG := hid hg; clear hg
                cases hs : sameI x.it y.it with
                | true =>
                  go_wp2_with fail
                  go_roundw
                  case rel =>
                    have h1 : (a.kids.take (k + 1)).map ItV.it = (c.kids.take (k + 1)).map ItV.it := by rw [HT.out.1, HT.out.2, HL.out, sameI_eq hs]
                    first
                      | exact ⟨k + 1, by omega, by go_num, h1, B.out.below HG.out, HA.out.below HG.out, HC.out.below HG.out⟩
                      | ((repeat apply Exists.intro); exact ⟨⟨k + 1, by omega, by go_num, h1, B.out.below HG.out, HA.out.below HG.out, HC.out.below HG.out⟩, rfl⟩)
                  case measure => simp [intOf]; omega
                | false =>
                  have HS := hid (HNE.out (sameI_ne hs))
                  go_wp2_with fail
                  go_ret
                  exact ⟨by rw [HS.out]; rfl, (B.out.below HG.out).bel⟩
              · obtain rfl : k = a.ks.n := by omega
                have HS : Hid (sameI a.it c.it = true) := by
                  refine it_same E0.out E1.out E2.out E3.out ?_
                  have h1 := HL.out
                  have h2 := HKA.out; have h3 := HKC.out; have h4 := E4.out
                  rwa [List.take_of_length_le (by omega), List.take_of_length_le (by omega)] at h1
                go_wp2_with fail
                go_ret
                exact ⟨by rw [HS.out]; rfl, B.out.bel⟩
          · have HS : Hid (sameI a.it c.it = false) := it_ne fun h => e4 (by
              have h5 := congrArg List.length h.2.2.2.2
              simp only [List.length_map] at h5
              rw [← HKA.out, ← HKC.out]; exact h5)
            have hne : ((a.ks.n : Int) == (c.ks.n : Int)) = false := by simp; omega
            rw [← e0] at d0; rw [← e1] at d1; rw [← e2] at d2; rw [← e3] at rc
            clear e0 e1 e2 e3
            go_wp2_with fail
            go_ret
            exact ⟨by rw [HS.out]; rfl, B0.out.bel⟩
        · have HS : Hid (sameI a.it c.it = false) := it_ne fun h => e3 h.2.2.2.1
          have hne : ((⟨a.data.toArray⟩ : ByteArray).toList == (⟨c.data.toArray⟩ : ByteArray).toList) = false := by
            have h1 : (⟨a.data.toArray⟩ : ByteArray) ≠ ⟨c.data.toArray⟩ := fun h => e3 (by simpa using h)
            exact bytes_ne' h1
          rw [← e0] at d0; rw [← e1] at d1; rw [← e2] at d2
          clear e0 e1 e2
          go_wp2_with fail
          go_ret
          exact ⟨by rw [HS.out]; rfl, B0.out.bel⟩
      · have HS : Hid (sameI a.it c.it = false) := it_ne fun h => e2 h.2.2.1
        have hne : (a.int == c.int) = false := by simpa using e2
        rw [← e0] at d0; rw [← e1] at d1
        clear e0 e1
        go_wp2_with fail
        go_ret
        exact ⟨by rw [HS.out]; rfl, B0.out.bel⟩
    · have HS : Hid (sameI a.it c.it = false) := it_ne fun h => e1 h.2.1
      have hne : (a.typ == c.typ) = false := by simpa using e1
      rw [← e0] at d0
      clear e0
      go_wp2_with fail
      go_ret
      exact ⟨by rw [HS.out]; rfl, B0.out.bel⟩
  · have HS : Hid (sameI a.it c.it = false) := it_ne fun h => e0 h.1
    have hne : (a.tag == c.tag) = false := by simpa using e0
    go_wp2_with fail
    go_ret
    exact ⟨by rw [HS.out]; rfl, B0.out.bel⟩
end Go.Proofs.YteenglgnakenmaaDoor
