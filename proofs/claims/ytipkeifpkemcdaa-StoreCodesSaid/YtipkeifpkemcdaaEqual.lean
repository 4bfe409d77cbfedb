/- slices.Equal of bytes. -/
import Derived.Test.YtipkeifpkemcdaaRegion
import Derived.Deep.DeepCutAuto
import Derived.Deep.CutBlock
import Derived.Deep.DeepMust
import Derived.Test.YtipkeifpkemcdaaHand
namespace Go.Proofs.Ytipkeifpkemcdaa
open Go.RowKit
set_option linter.unusedVariables false
set_option linter.unusedSimpArgs false
set_option maxRecDepth 100000
set_option maxHeartbeats 1600000
theorem cellLater {w w' : World} (hb : Below w.heap.size w w') {a : Addr} {v : Value} (h : w.cell? a = some v) : w'.cell? a = some v := by
  rw [World.cell?_of_block (hb.block a.block ?_)]
  · exact h
  · unfold World.cell? at h
    rcases Nat.lt_or_ge a.block w.heap.size with h1 | h1
    · exact h1
    · rw [Array.getElem?_eq_none h1] at h; cases h
theorem take_same {l1 l2 : List UInt8} {k : Nat} (h : l1.take k = l2.take k) (h1 : k < l1.length) (h2 : k < l2.length) (he : l1.getD k 0 = l2.getD k 0) : l1.take (k + 1) = l2.take (k + 1) := by
  rw [List.take_add_one, List.take_add_one, h]
  congr 1
  rw [List.getElem?_eq_getElem h1, List.getElem?_eq_getElem h2]
  simp only [List.getD_eq_getElem?_getD, List.getElem?_eq_getElem h1, List.getElem?_eq_getElem h2, Option.getD_some] at he
  rw [he]
theorem equalB_any (a1 a2 : Option Addr) (n1 c1 n2 c2 : Nat) (l1 l2 : List UInt8) (w : World) (h1 : RdB w a1 n1 l1) (h2 : RdB w a2 n2 l2) (hn : n1 ≤ 140737488355328) :
    Calls Try.prog 46 #[.slice a1 n1 c1, .slice a2 n2 c2] w fun e w' => e = .returned (.bool (decide (l1 = l2))) ∧ Below w.heap.size w w' := by
  have HR1 := hid h1; have HR2 := hid h2
  have HL1 := hid h1.len; have HL2 := hid h2.len
  clear h1 h2
  by_cases hnn : n1 = n2
  · subst hnn
    generalize hbe : w.heap.size = b
    have HBE := hid hbe; clear hbe
    go_enter Try.func46, Try.ntmps46
    go_wp2_with fail
    go_loopw [13] (fun y wr => ∃ k : Nat, k ≤ n1 ∧ y = .int .i64 k ∧ Below b w wr ∧ l1.take k = l2.take k) (fun y _ => n1 - (intOf y).toNat)
    case atStart => exact ⟨0, Nat.zero_le _, rfl, Below.refl _ _, rfl⟩
    case round =>
      obtain ⟨k, hk, rfl, hb, ht⟩ := hrel
      have B := hid hb; have HT := hid ht
      clear hb ht
      by_cases hlt : k < n1
      · obtain ⟨b1, o1, ha1, hc1⟩ := HR1.out.cell k hlt
        obtain ⟨b2, o2, ha2, hc2⟩ := HR2.out.cell k hlt
        subst ha1
        subst ha2
        have hbel : Below w.heap.size w wr := by rw [HBE.out]; exact B.out
        have hd1 := hc1 k hlt
        have hd2 := hc2 k hlt
        obtain ⟨x, hx⟩ : ∃ x, l1.getD k 0 = x := ⟨_, rfl⟩
        obtain ⟨y, hy⟩ : ∃ y, l2.getD k 0 = y := ⟨_, rfl⟩
        rw [hx] at hd1
        rw [hy] at hd2
        unfold B8 at hd1 hd2
        have C1 := hid (cellLater hbel hd1); have C2 := hid (cellLater hbel hd2)
        have HX := hid hx; have HY := hid hy
        have HBW : Hid (b ≤ wr.heap.size) := by show _ ≤ _; rw [← HBE.out]; exact hbel.size
        clear hc1 hc2 hd1 hd2 hx hy hbel
        by_cases hxy : x = y
        · subst hxy
          go_upto_region 6 with (fail)
          refine wp_region_each 9 [.eq (.slice (some ⟨b1, o1, none⟩) n1 c1), .eq (.int .i64 (k : Int)), .eq (.pointer (some ⟨b1, o1 + k, none⟩)), .eq (.int .u8 (x.toNat : Int)), .eq (.slice (some ⟨b2, o2, none⟩) n1 c2), .eq (.int .i64 (k : Int)), .eq (.pointer (some ⟨b2, o2 + k, none⟩)), .eq (.int .u8 (x.toNat : Int)), .eq (.bool false)] (by kernel_rfl) (by kernel_rfl) (by kernel_rfl) (by kernel_rfl) ?_ ?_
          · as_aux_lemma =>
              refine each_5 ?_ ?_ ?_ ?_ ?_ (each_c ?_ (each_c ?_ (each_c ?_ (each_c ?_ (each_n)))))
              · intro w1 hg Ar seen
                have s0 := seen.sl 0 (.slice (some ⟨b1, o1, none⟩) n1 c1)
                refine does_plain rfl fun K Q' hK => ?_
                go_simp; exact hK _ _ (Grow.refl _) rfl
              · intro w1 hg Ar seen
                have s5 := seen.sl 5 (.int .i64 (k : Int))
                refine does_plain rfl fun K Q' hK => ?_
                go_simp; exact hK _ _ (Grow.refl _) rfl
              · intro w1 hg Ar seen
                have e0 := seen.de 0 16
                have e1 := seen.de 1 17
                refine does_plain rfl fun K Q' hK => ?_
                go_simp; exact hK _ _ (Grow.refl _) rfl
              · intro w1 hg Ar seen
                have e2 := seen.de 2 18
                refine does_plain rfl fun K Q' hK => ?_
                have hc := cellLater hg C1.out
                go_simp; exact hK _ _ (Grow.refl _) rfl
              · intro w1 hg Ar seen
                have s1 := seen.sl 1 (.slice (some ⟨b2, o2, none⟩) n1 c2)
                refine does_plain rfl fun K Q' hK => ?_
                go_simp; exact hK _ _ (Grow.refl _) rfl
              · intro w1 hg Ar seen
                have s5 := seen.sl 5 (.int .i64 (k : Int))
                refine does_plain rfl fun K Q' hK => ?_
                go_simp; exact hK _ _ (Grow.refl _) rfl
              · intro w1 hg Ar seen
                have e4 := seen.de 4 20
                have e5 := seen.de 5 21
                refine does_plain rfl fun K Q' hK => ?_
                go_simp; exact hK _ _ (Grow.refl _) rfl
              · intro w1 hg Ar seen
                have e6 := seen.de 6 22
                refine does_plain rfl fun K Q' hK => ?_
                have hc := cellLater hg C2.out
                go_simp; exact hK _ _ (Grow.refl _) rfl
              · intro w1 hg Ar seen
                have e3 := seen.de 3 19
                have e7 := seen.de 7 23
                refine does_plain rfl fun K Q' hK => ?_
                go_simp; exact hK _ _ (Grow.refl _) rfl
          intro w1 hg
          refine upon_w' (js := [0, 1, 2, 3, 4, 5, 6, 7, 8]) (by rfl) ?_
          refine upon_e (some 16) (upon_e (some 17) (upon_e (some 18) (upon_e (some 19) (upon_e (some 20) (upon_e (some 21) (upon_e (some 22) (upon_e (some 23) (upon_e (some 24) (upon_n ?_)))))))))
          go_simp
          have B2 := hid (B.out.trans (hg.mono HBW.out))
          have HT2 := hid (take_same HT.out (by rw [HL1.out]; exact hlt) (by rw [HL2.out]; exact hlt) (HX.out.trans HY.out.symm))
          clear hg B HT
          go_wp2_with fail
          go_roundw
          case rel =>
            first
              | exact ⟨k + 1, by omega, by go_num, B2.out, HT2.out⟩
              | ((repeat apply Exists.intro); exact ⟨⟨k + 1, by omega, by go_num, B2.out, HT2.out⟩, rfl⟩)
          case measure => simp [intOf]; omega
        · have hne : ((x.toNat : Int) != (y.toNat : Int)) = true := by
            simp only [bne_iff_ne, ne_eq]
            intro he
            exact hxy (UInt8.toNat_inj.1 (by omega))
          have HNE := hid hne
          clear hne
          go_upto_region 6 with (fail)
          refine wp_region_each 9 [.eq (.slice (some ⟨b1, o1, none⟩) n1 c1), .eq (.int .i64 (k : Int)), .eq (.pointer (some ⟨b1, o1 + k, none⟩)), .eq (.int .u8 (x.toNat : Int)), .eq (.slice (some ⟨b2, o2, none⟩) n1 c2), .eq (.int .i64 (k : Int)), .eq (.pointer (some ⟨b2, o2 + k, none⟩)), .eq (.int .u8 (y.toNat : Int)), .eq (.bool true)] (by kernel_rfl) (by kernel_rfl) (by kernel_rfl) (by kernel_rfl) ?_ ?_
          · as_aux_lemma =>
              refine each_5 ?_ ?_ ?_ ?_ ?_ (each_c ?_ (each_c ?_ (each_c ?_ (each_c ?_ (each_n)))))
              · intro w1 hg Ar seen
                have s0 := seen.sl 0 (.slice (some ⟨b1, o1, none⟩) n1 c1)
                refine does_plain rfl fun K Q' hK => ?_
                go_simp; exact hK _ _ (Grow.refl _) rfl
              · intro w1 hg Ar seen
                have s5 := seen.sl 5 (.int .i64 (k : Int))
                refine does_plain rfl fun K Q' hK => ?_
                go_simp; exact hK _ _ (Grow.refl _) rfl
              · intro w1 hg Ar seen
                have e0 := seen.de 0 16
                have e1 := seen.de 1 17
                refine does_plain rfl fun K Q' hK => ?_
                go_simp; exact hK _ _ (Grow.refl _) rfl
              · intro w1 hg Ar seen
                have e2 := seen.de 2 18
                refine does_plain rfl fun K Q' hK => ?_
                have hc := cellLater hg C1.out
                go_simp; exact hK _ _ (Grow.refl _) rfl
              · intro w1 hg Ar seen
                have s1 := seen.sl 1 (.slice (some ⟨b2, o2, none⟩) n1 c2)
                refine does_plain rfl fun K Q' hK => ?_
                go_simp; exact hK _ _ (Grow.refl _) rfl
              · intro w1 hg Ar seen
                have s5 := seen.sl 5 (.int .i64 (k : Int))
                refine does_plain rfl fun K Q' hK => ?_
                go_simp; exact hK _ _ (Grow.refl _) rfl
              · intro w1 hg Ar seen
                have e4 := seen.de 4 20
                have e5 := seen.de 5 21
                refine does_plain rfl fun K Q' hK => ?_
                go_simp; exact hK _ _ (Grow.refl _) rfl
              · intro w1 hg Ar seen
                have e6 := seen.de 6 22
                refine does_plain rfl fun K Q' hK => ?_
                have hc := cellLater hg C2.out
                go_simp; exact hK _ _ (Grow.refl _) rfl
              · intro w1 hg Ar seen
                have e3 := seen.de 3 19
                have e7 := seen.de 7 23
                refine does_plain rfl fun K Q' hK => ?_
                have hq := HNE.out
                go_simp; exact hK _ _ (Grow.refl _) rfl
          intro w1 hg
          refine upon_w' (js := [0, 1, 2, 3, 4, 5, 6, 7, 8]) (by rfl) ?_
          refine upon_e (some 16) (upon_e (some 17) (upon_e (some 18) (upon_e (some 19) (upon_e (some 20) (upon_e (some 21) (upon_e (some 22) (upon_e (some 23) (upon_e (some 24) (upon_n ?_)))))))))
          go_simp
          have B2 := hid (B.out.trans (hg.mono HBW.out))
          clear hg B
          go_wp2_with fail
          go_ret
          refine ⟨?_, B2.out⟩
          have hf : decide (l1 = l2) = false := by
            simp only [decide_eq_false_iff_not]
            intro he
            subst he
            exact hxy (HX.out.symm.trans HY.out)
          rw [hf]
          rfl
      · obtain rfl : k = n1 := by omega
        have hf : decide (l1 = l2) = true := by
          have := HT.out
          rw [List.take_of_length_le (by rw [HL1.out]; exact Nat.le_refl _), List.take_of_length_le (by rw [HL2.out]; exact Nat.le_refl _)] at this
          simp [this]
        have HFF := hid hf
        clear hf
        go_wp2_with fail
        go_ret
        exact ⟨by rw [HFF.out]; rfl, B.out⟩
  · have hf : decide (l1 = l2) = false := by
      simp only [decide_eq_false_iff_not]
      intro he
      subst he
      exact hnn (HL1.out.symm.trans HL2.out)
    rw [hf]
    go_enter Try.func46, Try.ntmps46
    go_wp2_with fail
    go_ret
    exact ⟨rfl, Below.refl _ _⟩
end Go.Proofs.Ytipkeifpkemcdaa
