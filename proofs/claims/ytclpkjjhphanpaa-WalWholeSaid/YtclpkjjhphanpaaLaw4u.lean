/- law4.units: two rows of units are the same. -/
import Derived.Test.YtclpkjjhphanpaaWalM
namespace Go.Proofs.Ytclpkjjhphanpaa
open Go.RowKit
set_option linter.unusedVariables false
set_option linter.unusedSimpArgs false
set_option maxRecDepth 100000
set_option maxHeartbeats 6400000
/-- While they are compared. -/
structure EqL (us vs : List (List UInt8)) (n : Nat) (w : World) (y5 : Value) (wr : World) : Prop where
  ex : ∃ k : Nat, y5 = .int .i64 (k : Int) ∧ k ≤ n ∧ us.take k = vs.take k ∧ Below w.heap.size w wr
theorem unitsEq_any (a1 a2 : Option Addr) (n1 c1 n2 c2 : Nat) (us vs : List (List UInt8)) (w : World) (h1 : UnA w a1 n1 us) (h2 : UnA w a2 n2 vs) (hn : n1 ≤ 1099511627776) :
    Calls Try.prog 22 #[.slice a1 n1 c1, .slice a2 n2 c2] w fun e w' => e = .returned (.bool (decide (us = vs))) ∧ Below w.heap.size w w' := by
  have H1 := hid h1; have H2 := hid h2
  clear h1 h2
  obtain ⟨R, hR⟩ : ∃ R, decide (us = vs) = R := ⟨_, rfl⟩
  rw [hR]
  have HR := hid hR
  clear hR
  go_enter Try.func22, Try.ntmps22
  by_cases hl : n1 = n2
  · subst hl
    go_wp2_with fail
    go_loopw [5] (fun y5 wr => EqL us vs n1 w y5 wr) (fun y5 _ => n1 - (intOf y5).toNat)
    case atStart => exact ⟨⟨0, rfl, Nat.zero_le _, rfl, Below.refl _ _⟩⟩
    case round =>
      obtain ⟨k, rfl, hk, hsame, hb⟩ := hrel.ex
      clear hrel
      have HB := hid hb; have HSAME := hid hsame
      clear hb hsame
      by_cases hlt : k < n1
      · have hltz : (k : Int) < (n1 : Int) := by omega
        obtain ⟨b1, o1, x1, m1, d1, l1, rfl, hl1, hc1, hr1, -⟩ := (H1.out.below HB.out).row k hlt
        obtain ⟨b2, o2, x2, m2, d2, l2, rfl, hl2, hc2, hr2, -⟩ := (H2.out.below HB.out).row k hlt
        have HC1 := hid hc1; have HR1 := hid hr1; have HC2 := hid hc2; have HR2 := hid hr2
        have T1 := hid (take_snoc hl1); have T2 := hid (take_snoc hl2)
        have HL1 := hid hl1; have HL2 := hid hl2
        clear hc1 hr1 hc2 hr2 hl1 hl2
        go_upto_region 6 with (fail)
        by_cases he : l1 = l2
        · subst he
          refine wp_region_each 11 [.eq (.slice (some ⟨b1, o1, none⟩) n1 c1), .eq (.int .i64 (k : Int)), .eq (.pointer (some ⟨b1, o1 + k, none⟩)), .eq (.slice x1 m1 d1), .eq (.string ⟨l1.toArray⟩), .eq (.slice (some ⟨b2, o2, none⟩) n1 c2), .eq (.int .i64 (k : Int)), .eq (.pointer (some ⟨b2, o2 + k, none⟩)), .eq (.slice x2 m2 d2), .eq (.string ⟨l1.toArray⟩), .eq (.bool false)] (by kernel_rfl) (by kernel_rfl) (by kernel_rfl) (by kernel_rfl) ?_ ?_
          · all_goals
              refine each_5 ?_ ?_ ?_ ?_ ?_ (each_5 ?_ ?_ ?_ ?_ ?_ (each_c ?_ (each_n)))
              · intro w1 hg Ar seen
                have s0 := seen.sl 0 (.slice (some ⟨b1, o1, none⟩) n1 c1)
                refine does_plain rfl fun K Q' hK => ?_
                go_simp; exact hK _ _ (Grow.refl _) rfl
              · intro w1 hg Ar seen
                have s5 := seen.sl 5 (.int .i64 (k : Int))
                refine does_plain rfl fun K Q' hK => ?_
                go_simp; exact hK _ _ (Grow.refl _) rfl
              · intro w1 hg Ar seen
                have e0 := seen.de 0 17
                have e1 := seen.de 1 18
                refine does_plain rfl fun K Q' hK => ?_
                go_simp; exact hK _ _ (Grow.refl _) rfl
              · intro w1 hg Ar seen
                have e2 := seen.de 2 19
                refine does_plain rfl fun K Q' hK => ?_
                have hc := (Chg.of_below hg []).cell HC1.out (by simp)
                go_simp; exact hK _ _ (Grow.refl _) rfl
              · intro w1 hg Ar seen
                have e3 := seen.de 3 20
                refine does_plain rfl fun K Q' hK => ?_
                have s := run_bytes_str (P := Try.prog) (HR1.out.below hg) d1 32 9 5 Try.underlying32 Try.underlying5 Try.underlying9
                go_simp; exact hK _ _ (Grow.refl _) rfl
              · intro w1 hg Ar seen
                have s1 := seen.sl 1 (.slice (some ⟨b2, o2, none⟩) n1 c2)
                refine does_plain rfl fun K Q' hK => ?_
                go_simp; exact hK _ _ (Grow.refl _) rfl
              · intro w1 hg Ar seen
                have s5 := seen.sl 5 (.int .i64 (k : Int))
                refine does_plain rfl fun K Q' hK => ?_
                go_simp; exact hK _ _ (Grow.refl _) rfl
              · intro w1 hg Ar seen
                have e5 := seen.de 5 22
                have e6 := seen.de 6 23
                refine does_plain rfl fun K Q' hK => ?_
                go_simp; exact hK _ _ (Grow.refl _) rfl
              · intro w1 hg Ar seen
                have e7 := seen.de 7 24
                refine does_plain rfl fun K Q' hK => ?_
                have hc := (Chg.of_below hg []).cell HC2.out (by simp)
                go_simp; exact hK _ _ (Grow.refl _) rfl
              · intro w1 hg Ar seen
                have e8 := seen.de 8 25
                refine does_plain rfl fun K Q' hK => ?_
                have s := run_bytes_str (P := Try.prog) (HR2.out.below hg) d2 32 9 5 Try.underlying32 Try.underlying5 Try.underlying9
                go_simp; exact hK _ _ (Grow.refl _) rfl
              · intro w1 hg Ar seen
                have e4 := seen.de 4 21
                have e9 := seen.de 9 26
                refine does_plain rfl fun K Q' hK => ?_
                go_simp; exact hK _ _ (Grow.refl _) rfl
          intro w1 hg
          refine upon_w' (js := [0, 1, 2, 3, 4, 5, 6, 7, 8, 9, 10]) (by rfl) ?_
          refine upon_e (some 17) (upon_e (some 18) (upon_e (some 19) (upon_e (some 20) (upon_e (some 21) (upon_e (some 22) (upon_e (some 23) (upon_e (some 24) (upon_e (some 25) (upon_e (some 26) (upon_e (some 27) (upon_n ?_)))))))))))
          go_simp
          have HB2 := hid (HB.out.trans (hg.mono HB.out.size))
          clear hg HB HC1 HR1 HC2 HR2
          go_wp2_with fail
          have HRR : EqL us vs n1 w (.int .i64 ((k : Int) + 1)) w1 := ⟨⟨k + 1, by go_num, by omega, by rw [T1.out, T2.out, HSAME.out], HB2.out⟩⟩
          go_roundw
          case rel => first | exact HRR | ((repeat apply Exists.intro); exact HRR) | ((repeat apply Exists.intro); exact ⟨HRR, rfl⟩)
          case measure => (simp [intOf] <;> omega)
        · have HE : Hid (¬ l1 = l2) := he
          have hsx : ∀ S1 S2 : ByteArray, S1 = ⟨l1.toArray⟩ → S2 = ⟨l2.toArray⟩ → S1 ≠ S2 := fun S1 S2 h1 h2 h3 => HE.out (by rw [h1, h2] at h3; simpa using h3)
          have HSX := hid hsx
          clear he hsx
          refine wp_region_each 11 [.eq (.slice (some ⟨b1, o1, none⟩) n1 c1), .eq (.int .i64 (k : Int)), .eq (.pointer (some ⟨b1, o1 + k, none⟩)), .eq (.slice x1 m1 d1), .eq (.string ⟨l1.toArray⟩), .eq (.slice (some ⟨b2, o2, none⟩) n1 c2), .eq (.int .i64 (k : Int)), .eq (.pointer (some ⟨b2, o2 + k, none⟩)), .eq (.slice x2 m2 d2), .eq (.string ⟨l2.toArray⟩), .eq (.bool true)] (by kernel_rfl) (by kernel_rfl) (by kernel_rfl) (by kernel_rfl) ?_ ?_
          · all_goals
              refine each_5 ?_ ?_ ?_ ?_ ?_ (each_5 ?_ ?_ ?_ ?_ ?_ (each_c ?_ (each_n)))
              · intro w1 hg Ar seen
                have s0 := seen.sl 0 (.slice (some ⟨b1, o1, none⟩) n1 c1)
                refine does_plain rfl fun K Q' hK => ?_
                go_simp; exact hK _ _ (Grow.refl _) rfl
              · intro w1 hg Ar seen
                have s5 := seen.sl 5 (.int .i64 (k : Int))
                refine does_plain rfl fun K Q' hK => ?_
                go_simp; exact hK _ _ (Grow.refl _) rfl
              · intro w1 hg Ar seen
                have e0 := seen.de 0 17
                have e1 := seen.de 1 18
                refine does_plain rfl fun K Q' hK => ?_
                go_simp; exact hK _ _ (Grow.refl _) rfl
              · intro w1 hg Ar seen
                have e2 := seen.de 2 19
                refine does_plain rfl fun K Q' hK => ?_
                have hc := (Chg.of_below hg []).cell HC1.out (by simp)
                go_simp; exact hK _ _ (Grow.refl _) rfl
              · intro w1 hg Ar seen
                have e3 := seen.de 3 20
                refine does_plain rfl fun K Q' hK => ?_
                have s := run_bytes_str (P := Try.prog) (HR1.out.below hg) d1 32 9 5 Try.underlying32 Try.underlying5 Try.underlying9
                go_simp; exact hK _ _ (Grow.refl _) rfl
              · intro w1 hg Ar seen
                have s1 := seen.sl 1 (.slice (some ⟨b2, o2, none⟩) n1 c2)
                refine does_plain rfl fun K Q' hK => ?_
                go_simp; exact hK _ _ (Grow.refl _) rfl
              · intro w1 hg Ar seen
                have s5 := seen.sl 5 (.int .i64 (k : Int))
                refine does_plain rfl fun K Q' hK => ?_
                go_simp; exact hK _ _ (Grow.refl _) rfl
              · intro w1 hg Ar seen
                have e5 := seen.de 5 22
                have e6 := seen.de 6 23
                refine does_plain rfl fun K Q' hK => ?_
                go_simp; exact hK _ _ (Grow.refl _) rfl
              · intro w1 hg Ar seen
                have e7 := seen.de 7 24
                refine does_plain rfl fun K Q' hK => ?_
                have hc := (Chg.of_below hg []).cell HC2.out (by simp)
                go_simp; exact hK _ _ (Grow.refl _) rfl
              · intro w1 hg Ar seen
                have e8 := seen.de 8 25
                refine does_plain rfl fun K Q' hK => ?_
                have s := run_bytes_str (P := Try.prog) (HR2.out.below hg) d2 32 9 5 Try.underlying32 Try.underlying5 Try.underlying9
                go_simp; exact hK _ _ (Grow.refl _) rfl
              · intro w1 hg Ar seen
                have e4 := seen.de 4 21
                have e9 := seen.de 9 26
                refine does_plain rfl fun K Q' hK => ?_
                have hy : (l1 == l2) = false := by simpa using HE.out
                go_simp; exact hK _ _ (Grow.refl _) rfl
          intro w1 hg
          refine upon_w' (js := [0, 1, 2, 3, 4, 5, 6, 7, 8, 9, 10]) (by rfl) ?_
          refine upon_e (some 17) (upon_e (some 18) (upon_e (some 19) (upon_e (some 20) (upon_e (some 21) (upon_e (some 22) (upon_e (some 23) (upon_e (some 24) (upon_e (some 25) (upon_e (some 26) (upon_e (some 27) (upon_n ?_)))))))))))
          go_simp
          have HB2 := hid (HB.out.trans (hg.mono HB.out.size))
          clear hg HB HC1 HR1 HC2 HR2
          go_wp2_with fail
          go_ret
          refine ⟨?_, HB2.out⟩
          rw [← HR.out, show decide (us = vs) = false from decide_eq_false (fun h => HE.out (Option.some.inj (HL1.out.symm.trans ((congrArg (·[k]?) h).trans HL2.out))))]
          rfl
      · have hltz : ¬ (k : Int) < (n1 : Int) := by omega
        go_wp2_with fail
        go_ret
        refine ⟨?_, HB.out⟩
        have h := HSAME.out
        rw [List.take_of_length_le (by rw [H1.out.len]; omega), List.take_of_length_le (by rw [H2.out.len]; omega)] at h
        rw [← HR.out, show decide (us = vs) = true from decide_eq_true h]
        rfl
  · have hlz : ¬ (n1 : Int) = (n2 : Int) := by omega
    go_wp2_with fail
    go_ret
    refine ⟨?_, Below.refl _ _⟩
    rw [← HR.out, show decide (us = vs) = false from decide_eq_false (fun h => hl (by rw [← H1.out.len, ← H2.out.len, h]))]
    rfl
end Go.Proofs.Ytclpkjjhphanpaa
