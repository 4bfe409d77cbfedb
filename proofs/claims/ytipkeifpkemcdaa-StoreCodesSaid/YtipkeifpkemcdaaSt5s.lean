/- Chapter 5's statements: same, at what is the same. -/
import Derived.Test.YtipkeifpkemcdaaSt5
namespace Go.Proofs.Ytipkeifpkemcdaa
open Go.RowKit
set_option linter.unusedVariables false
set_option linter.unusedSimpArgs false
set_option maxRecDepth 1000000
set_option maxHeartbeats 6400000
def SmL (w0 : World) (n : Nat) (y5 : Value) (wr : World) : Prop := ∃ k : Nat, y5 = .int .i64 (k : Int) ∧ k ≤ n ∧ Below w0.heap.size w0 wr
theorem same5_any (a1 a2 : Option Addr) (n1 c1 n2 c2 : Nat) (l1 l2 : List ChD) (w : World) (h1 : ChA w a1 n1 l1) (h2 : ChA w a2 n2 l2) (he : l1.map ChD.cg = l2.map ChD.cg) :
    Calls Try.prog 17 #[.slice a1 n1 c1, .slice a2 n2 c2] w fun e w' => e = .returned (.bool true) ∧ Below w.heap.size w w' := by
  have H1 := hid h1; have H2 := hid h2; have HE := hid he
  have hsm := h1.sm
  have hn : n1 = n2 := by rw [← h1.len, ← h2.len]; have := congrArg List.length he; simpa using this
  subst hn
  clear h1 h2 he
  go_enter Try.func17, Try.ntmps17
  go_wp2_with fail
  go_loopw [5] (fun y5 wr => SmL w n1 y5 wr) (fun y5 _ => n1 - (intOf y5).toNat)
  case atStart => exact ⟨0, rfl, Nat.zero_le _, Below.refl _ _⟩
  case round =>
    obtain ⟨k, rfl, hk, hb⟩ := hrel
    have HB := hid hb
    clear hb
    by_cases k1 : k < n1
    · have k1z : (k : Int) < (n1 : Int) := by omega
      obtain ⟨b1, o1, x, e1, hx, hr1, hxo⟩ := (H1.out.below HB.out).row k k1
      obtain ⟨b2, o2, y, e2, hy, hr2, hyo⟩ := (H2.out.below HB.out).row k k1
      have hxy : x.cg = y.cg := by
        have h3 := congrArg (fun l => l[k]?) HE.out
        simp only [List.getElem?_map, hx, hy, Option.map_some, Option.some.injEq] at h3
        exact h3
      have hkey : y.key = x.key := by
        have h3 := congrArg Cg.key hxy
        unfold ChD.cg at h3
        dsimp only at h3
        exact WideShapes.bytes_inj h3.symm
      have hhas : y.has = x.has := (congrArg Cg.has hxy).symm
      have hval : y.val = x.val := (congrArg Cg.val hxy).symm
      subst e1 e2
      have HA0 := hid (show wr.cell? ⟨b1, o1 + k * 3, none⟩ = some (.string x.key) from hr1 0 _ rfl)
      have HA1 := hid (show wr.cell? ⟨b1, o1 + k * 3 + 1, none⟩ = some (.bool x.has) from hr1 1 _ rfl)
      have HA2 := hid (show wr.cell? ⟨b1, o1 + k * 3 + 2, none⟩ = some (.slice x.va x.vn x.vc) from hr1 2 _ rfl)
      have HB0 := hid (show wr.cell? ⟨b2, o2 + k * 3, none⟩ = some (.string x.key) from by rw [← hkey]; exact hr2 0 _ rfl)
      have HB1 := hid (show wr.cell? ⟨b2, o2 + k * 3 + 1, none⟩ = some (.bool x.has) from by rw [← hhas]; exact hr2 1 _ rfl)
      have HB2 := hid (show wr.cell? ⟨b2, o2 + k * 3 + 2, none⟩ = some (.slice y.va y.vn y.vc) from hr2 2 _ rfl)
      have HXO := hid hxo.rd
      have HYO := hid (show RdB wr y.va y.vn x.val from by rw [← hval]; exact hyo.rd)
      clear hx hy hr1 hr2 hxo hyo hxy hkey hhas hval
      go_upto_region 6 with (fail)
      refine wp_region_each 39 [.eq (.slice (some ⟨b1, o1, none⟩) n1 c1), .eq (.int .i64 (k : Int)), .eq (.pointer (some ⟨b1, o1 + k * 3, none⟩)), .eq (.pointer (some ⟨b1, o1 + k * 3, none⟩)), .eq (.string x.key), .eq (.slice (some ⟨b2, o2, none⟩) n1 c2), .eq (.int .i64 (k : Int)), .eq (.pointer (some ⟨b2, o2 + k * 3, none⟩)), .eq (.pointer (some ⟨b2, o2 + k * 3, none⟩)), .eq (.string x.key), .eq (.bool false), .eq (.bool false), .eq (.slice (some ⟨b1, o1, none⟩) n1 c1), .eq (.int .i64 (k : Int)), .eq (.pointer (some ⟨b1, o1 + k * 3, none⟩)), .eq (.pointer (some ⟨b1, o1 + k * 3 + 1, none⟩)), .eq (.bool x.has), .eq (.slice (some ⟨b2, o2, none⟩) n1 c2), .eq (.int .i64 (k : Int)), .eq (.pointer (some ⟨b2, o2 + k * 3, none⟩)), .eq (.pointer (some ⟨b2, o2 + k * 3 + 1, none⟩)), .eq (.bool x.has), .eq (.bool false), .eq (.bool false), .eq (.bool false), .eq (.slice (some ⟨b1, o1, none⟩) n1 c1), .eq (.int .i64 (k : Int)), .eq (.pointer (some ⟨b1, o1 + k * 3, none⟩)), .eq (.pointer (some ⟨b1, o1 + k * 3 + 2, none⟩)), .eq (.slice x.va x.vn x.vc), .eq (.string ⟨x.val.toArray⟩), .eq (.slice (some ⟨b2, o2, none⟩) n1 c2), .eq (.int .i64 (k : Int)), .eq (.pointer (some ⟨b2, o2 + k * 3, none⟩)), .eq (.pointer (some ⟨b2, o2 + k * 3 + 2, none⟩)), .eq (.slice y.va y.vn y.vc), .eq (.string ⟨x.val.toArray⟩), .eq (.bool false), .eq (.bool false)] (by kernel_rfl) (by kernel_rfl) (by kernel_rfl) (by kernel_rfl) ?_ ?_
      · all_goals
          refine each_5 ?_ ?_ ?_ ?_ ?_ (each_5 ?_ ?_ ?_ ?_ ?_ (each_5 ?_ ?_ ?_ ?_ ?_ (each_5 ?_ ?_ ?_ ?_ ?_ (each_5 ?_ ?_ ?_ ?_ ?_ (each_5 ?_ ?_ ?_ ?_ ?_ (each_5 ?_ ?_ ?_ ?_ ?_ (each_c ?_ (each_c ?_ (each_c ?_ (each_c ?_ (each_n)))))))))))
          · intro w1 hg Ar seen
            have s0 := seen.sl 0 (.slice (some ⟨b1, o1, none⟩) n1 c1)
            refine does_plain rfl fun K Q' hK => ?_
            go_simp; exact hK _ _ (Grow.refl _) rfl
          · intro w1 hg Ar seen
            have s5 := seen.sl 5 (.int .i64 (k : Int))
            refine does_plain rfl fun K Q' hK => ?_
            go_simp; exact hK _ _ (Grow.refl _) rfl
          · intro w1 hg Ar seen
            have e0 := seen.de 0 17
            have e1 := seen.de 1 18
            refine does_plain rfl fun K Q' hK => ?_
            go_simp; exact hK _ _ (Grow.refl _) rfl
          · intro w1 hg Ar seen
            have e2 := seen.de 2 19
            refine does_plain rfl fun K Q' hK => ?_
            go_simp; exact hK _ _ (Grow.refl _) rfl
          · intro w1 hg Ar seen
            have e3 := seen.de 3 20
            refine does_plain rfl fun K Q' hK => ?_
            have hc := (Chg.of_below hg []).cell HA0.out (by simp)
            go_simp; exact hK _ _ (Grow.refl _) rfl
          · intro w1 hg Ar seen
            have s1 := seen.sl 1 (.slice (some ⟨b2, o2, none⟩) n1 c2)
            refine does_plain rfl fun K Q' hK => ?_
            go_simp; exact hK _ _ (Grow.refl _) rfl
          · intro w1 hg Ar seen
            have s5 := seen.sl 5 (.int .i64 (k : Int))
            refine does_plain rfl fun K Q' hK => ?_
            go_simp; exact hK _ _ (Grow.refl _) rfl
          · intro w1 hg Ar seen
            have e5 := seen.de 5 22
            have e6 := seen.de 6 23
            refine does_plain rfl fun K Q' hK => ?_
            go_simp; exact hK _ _ (Grow.refl _) rfl
          · intro w1 hg Ar seen
            have e7 := seen.de 7 24
            refine does_plain rfl fun K Q' hK => ?_
            go_simp; exact hK _ _ (Grow.refl _) rfl
          · intro w1 hg Ar seen
            have e8 := seen.de 8 25
            refine does_plain rfl fun K Q' hK => ?_
            have hc := (Chg.of_below hg []).cell HB0.out (by simp)
            go_simp; exact hK _ _ (Grow.refl _) rfl
          · intro w1 hg Ar seen
            have e4 := seen.de 4 21
            have e9 := seen.de 9 26
            refine does_plain rfl fun K Q' hK => ?_
            go_simp; exact hK _ _ (Grow.refl _) rfl
          · intro w1 hg Ar seen
            have e10 := seen.de 10 27
            refine does_plain rfl fun K Q' hK => ?_
            go_simp; exact hK _ _ (Grow.refl _) rfl
          · intro w1 hg Ar seen
            have e11 := seen.de 11 28
            have s0 := seen.sl 0 (.slice (some ⟨b1, o1, none⟩) n1 c1)
            refine does_on rfl (by kernel_rfl) e11 fun K Q' hK => ?_
            clear e11
            go_simp; exact hK _ _ (Grow.refl _) rfl
          · intro w1 hg Ar seen
            have e11 := seen.de 11 28
            have s5 := seen.sl 5 (.int .i64 (k : Int))
            refine does_on rfl (by kernel_rfl) e11 fun K Q' hK => ?_
            clear e11
            go_simp; exact hK _ _ (Grow.refl _) rfl
          · intro w1 hg Ar seen
            have e12 := seen.de 12 29
            have e13 := seen.de 13 30
            have e11 := seen.de 11 28
            refine does_on rfl (by kernel_rfl) e11 fun K Q' hK => ?_
            clear e11
            go_simp; exact hK _ _ (Grow.refl _) rfl
          · intro w1 hg Ar seen
            have e14 := seen.de 14 31
            have e11 := seen.de 11 28
            refine does_on rfl (by kernel_rfl) e11 fun K Q' hK => ?_
            clear e11
            go_simp; exact hK _ _ (Grow.refl _) rfl
          · intro w1 hg Ar seen
            have e15 := seen.de 15 32
            have e11 := seen.de 11 28
            refine does_on rfl (by kernel_rfl) e11 fun K Q' hK => ?_
            clear e11
            have hc := (Chg.of_below hg []).cell HA1.out (by simp)
            go_simp; exact hK _ _ (Grow.refl _) rfl
          · intro w1 hg Ar seen
            have e11 := seen.de 11 28
            have s1 := seen.sl 1 (.slice (some ⟨b2, o2, none⟩) n1 c2)
            refine does_on rfl (by kernel_rfl) e11 fun K Q' hK => ?_
            clear e11
            go_simp; exact hK _ _ (Grow.refl _) rfl
          · intro w1 hg Ar seen
            have e11 := seen.de 11 28
            have s5 := seen.sl 5 (.int .i64 (k : Int))
            refine does_on rfl (by kernel_rfl) e11 fun K Q' hK => ?_
            clear e11
            go_simp; exact hK _ _ (Grow.refl _) rfl
          · intro w1 hg Ar seen
            have e17 := seen.de 17 34
            have e18 := seen.de 18 35
            have e11 := seen.de 11 28
            refine does_on rfl (by kernel_rfl) e11 fun K Q' hK => ?_
            clear e11
            go_simp; exact hK _ _ (Grow.refl _) rfl
          · intro w1 hg Ar seen
            have e19 := seen.de 19 36
            have e11 := seen.de 11 28
            refine does_on rfl (by kernel_rfl) e11 fun K Q' hK => ?_
            clear e11
            go_simp; exact hK _ _ (Grow.refl _) rfl
          · intro w1 hg Ar seen
            have e20 := seen.de 20 37
            have e11 := seen.de 11 28
            refine does_on rfl (by kernel_rfl) e11 fun K Q' hK => ?_
            clear e11
            have hc := (Chg.of_below hg []).cell HB1.out (by simp)
            go_simp; exact hK _ _ (Grow.refl _) rfl
          · intro w1 hg Ar seen
            have e16 := seen.de 16 33
            have e21 := seen.de 21 38
            have e11 := seen.de 11 28
            refine does_on rfl (by kernel_rfl) e11 fun K Q' hK => ?_
            clear e11
            go_simp; exact hK _ _ (Grow.refl _) rfl
          · intro w1 hg Ar seen
            have e11 := seen.de 11 28
            have e22 := seen.de 22 39
            refine does_plain rfl fun K Q' hK => ?_
            go_simp; exact hK _ _ (Grow.refl _) rfl
          · intro w1 hg Ar seen
            have e23 := seen.de 23 40
            refine does_plain rfl fun K Q' hK => ?_
            go_simp; exact hK _ _ (Grow.refl _) rfl
          · intro w1 hg Ar seen
            have e24 := seen.de 24 41
            have s0 := seen.sl 0 (.slice (some ⟨b1, o1, none⟩) n1 c1)
            refine does_on rfl (by kernel_rfl) e24 fun K Q' hK => ?_
            clear e24
            go_simp; exact hK _ _ (Grow.refl _) rfl
          · intro w1 hg Ar seen
            have e24 := seen.de 24 41
            have s5 := seen.sl 5 (.int .i64 (k : Int))
            refine does_on rfl (by kernel_rfl) e24 fun K Q' hK => ?_
            clear e24
            go_simp; exact hK _ _ (Grow.refl _) rfl
          · intro w1 hg Ar seen
            have e25 := seen.de 25 42
            have e26 := seen.de 26 43
            have e24 := seen.de 24 41
            refine does_on rfl (by kernel_rfl) e24 fun K Q' hK => ?_
            clear e24
            go_simp; exact hK _ _ (Grow.refl _) rfl
          · intro w1 hg Ar seen
            have e27 := seen.de 27 44
            have e24 := seen.de 24 41
            refine does_on rfl (by kernel_rfl) e24 fun K Q' hK => ?_
            clear e24
            go_simp; exact hK _ _ (Grow.refl _) rfl
          · intro w1 hg Ar seen
            have e28 := seen.de 28 45
            have e24 := seen.de 24 41
            refine does_on rfl (by kernel_rfl) e24 fun K Q' hK => ?_
            clear e24
            have hc := (Chg.of_below hg []).cell HA2.out (by simp)
            go_simp; exact hK _ _ (Grow.refl _) rfl
          · intro w1 hg Ar seen
            have e29 := seen.de 29 46
            have e24 := seen.de 24 41
            refine does_on rfl (by kernel_rfl) e24 fun K Q' hK => ?_
            clear e24
            have kc := run_bytes_str (P := Try.prog) (HXO.out.below hg) x.vc 24 9 5 Try.underlying24 Try.underlying5 Try.underlying9
            go_simp; exact hK _ _ (Grow.refl _) rfl
          · intro w1 hg Ar seen
            have e24 := seen.de 24 41
            have s1 := seen.sl 1 (.slice (some ⟨b2, o2, none⟩) n1 c2)
            refine does_on rfl (by kernel_rfl) e24 fun K Q' hK => ?_
            clear e24
            go_simp; exact hK _ _ (Grow.refl _) rfl
          · intro w1 hg Ar seen
            have e24 := seen.de 24 41
            have s5 := seen.sl 5 (.int .i64 (k : Int))
            refine does_on rfl (by kernel_rfl) e24 fun K Q' hK => ?_
            clear e24
            go_simp; exact hK _ _ (Grow.refl _) rfl
          · intro w1 hg Ar seen
            have e31 := seen.de 31 48
            have e32 := seen.de 32 49
            have e24 := seen.de 24 41
            refine does_on rfl (by kernel_rfl) e24 fun K Q' hK => ?_
            clear e24
            go_simp; exact hK _ _ (Grow.refl _) rfl
          · intro w1 hg Ar seen
            have e33 := seen.de 33 50
            have e24 := seen.de 24 41
            refine does_on rfl (by kernel_rfl) e24 fun K Q' hK => ?_
            clear e24
            go_simp; exact hK _ _ (Grow.refl _) rfl
          · intro w1 hg Ar seen
            have e34 := seen.de 34 51
            have e24 := seen.de 24 41
            refine does_on rfl (by kernel_rfl) e24 fun K Q' hK => ?_
            clear e24
            have hc := (Chg.of_below hg []).cell HB2.out (by simp)
            go_simp; exact hK _ _ (Grow.refl _) rfl
          · intro w1 hg Ar seen
            have e35 := seen.de 35 52
            have e24 := seen.de 24 41
            refine does_on rfl (by kernel_rfl) e24 fun K Q' hK => ?_
            clear e24
            have kc := run_bytes_str (P := Try.prog) (HYO.out.below hg) y.vc 24 9 5 Try.underlying24 Try.underlying5 Try.underlying9
            go_simp; exact hK _ _ (Grow.refl _) rfl
          · intro w1 hg Ar seen
            have e30 := seen.de 30 47
            have e36 := seen.de 36 53
            have e24 := seen.de 24 41
            refine does_on rfl (by kernel_rfl) e24 fun K Q' hK => ?_
            clear e24
            go_simp; exact hK _ _ (Grow.refl _) rfl
          · intro w1 hg Ar seen
            have e24 := seen.de 24 41
            have e37 := seen.de 37 54
            refine does_plain rfl fun K Q' hK => ?_
            go_simp; exact hK _ _ (Grow.refl _) rfl
      intro w1 hg
      refine upon_w' (js := [0, 1, 2, 3, 4, 5, 6, 7, 8, 9, 10, 11, 12, 13, 14, 15, 16, 17, 18, 19, 20, 21, 22, 23, 24, 25, 26, 27, 28, 29, 30, 31, 32, 33, 34, 35, 36, 37, 38]) (by rfl) ?_
      refine upon_e (some 17) (upon_e (some 18) (upon_e (some 19) (upon_e (some 20) (upon_e (some 21) (upon_e (some 22) (upon_e (some 23) (upon_e (some 24) (upon_e (some 25) (upon_e (some 26) (upon_e (some 27) (upon_e (some 28) (upon_e (some 29) (upon_e (some 30) (upon_e (some 31) (upon_e (some 32) (upon_e (some 33) (upon_e (some 34) (upon_e (some 35) (upon_e (some 36) (upon_e (some 37) (upon_e (some 38) (upon_e (some 39) (upon_e (some 40) (upon_e (some 41) (upon_e (some 42) (upon_e (some 43) (upon_e (some 44) (upon_e (some 45) (upon_e (some 46) (upon_e (some 47) (upon_e (some 48) (upon_e (some 49) (upon_e (some 50) (upon_e (some 51) (upon_e (some 52) (upon_e (some 53) (upon_e (some 54) (upon_e (some 55) (upon_n ?_)))))))))))))))))))))))))))))))))))))))
      go_simp
      have HRR : SmL w n1 (.int .i64 ((k : Int) + 1)) w1 := ⟨k + 1, rfl, k1, HB.out.trans (hg.mono HB.out.size)⟩
      clear hg
      go_simp
      go_wp2_with fail
      go_roundw
      case rel => first | exact HRR | ((repeat apply Exists.intro); exact HRR) | ((repeat apply Exists.intro); exact ⟨HRR, rfl⟩)
      case measure => (simp [intOf] <;> omega)
    · have k1z : ¬ (k : Int) < (n1 : Int) := by omega
      go_wp2_with fail
      go_ret
      exact ⟨rfl, HB.out⟩
end Go.Proofs.Ytipkeifpkemcdaa
