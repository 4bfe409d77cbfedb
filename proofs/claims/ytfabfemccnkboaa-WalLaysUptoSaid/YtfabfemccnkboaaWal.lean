/- wal: fill, Size, Lay; the reference's. -/
import Derived.Test.YtfabfemccnkboaaWalPlain
import Derived.Test.YtfabfemccnkboaaOctet
import Derived.Test.YtfabfemccnkboaaCrc
import Derived.Test.YtfabfemccnkboaaHand
import Derived.Test.YtfabfemccnkboaaZeros
namespace Go.Proofs.Ytfabfemccnkboaa
open Go.RowKit
set_option linter.unusedVariables false
set_option linter.unusedSimpArgs false
set_option maxRecDepth 100000
set_option maxHeartbeats 1600000
theorem tmod64 (n : Nat) : 0 ≤ (n : Int).tmod 64 ∧ (n : Int).tmod 64 < 64 := by rw [Int.tmod_eq_emod_of_nonneg (by omega)]; omega
theorem own_lower {w : World} {b b' : Nat} {T : TypeId} {size n : Nat} {v : Value} {xs : List Value} (h : w.ownsRow b T size v n xs) (hb : b' ≤ b) : w.ownsRow b' T size v n xs := by
  refine ⟨h.1, ?_⟩
  rcases h.2 with hn | ⟨g, cap, cur, hv, hg, rest⟩
  · exact .inl hn
  · exact .inr ⟨g, cap, cur, hv, Nat.le_trans hb hg, rest⟩
/-- A writer of the call's own: p and all behind it are new. -/
def WrB (T : TypeId) (w w' : World) (p : Nat) (l : List UInt8) : Prop := ∃ F, Wr T w' p l F ∧ (∀ q ∈ F, p ≤ q) ∧ Below p w w'
theorem WrB.step {T : TypeId} {w w1 w2 : World} {p : Nat} {l l' : List UInt8} {F F2 : List Nat} (_ : WrB T w w1 p l) (_ : Wr T w1 p l F) (hF : ∀ q ∈ F, p ≤ q) (hb : Below p w w1) (h2 : Wr T w2 p l' F2) (hc : Chg F w1 w2) (hf : Fresh F F2 w1) (hp : p ≤ w1.heap.size) : WrB T w w2 p l' :=
  ⟨F2, h2, fun q hq => by rcases hf q hq with h | h; exact hF q h; omega, hb.trans (hc.below hF hp)⟩
theorem fill_any (base : Nat) (a : Option Addr) (n c : Nat) (l : List UInt8) (w : World) (h : w.ownsRow base 5 1 (.slice a n c) n (l.map B8)) (hn : n ≤ 2199023255552) (hB : base ≤ w.heap.size) :
    Calls Try.prog 30 #[.slice a n c] w fun e w' => ∃ a' c', e = .returned (.slice a' (n + padN n) c') ∧ w'.ownsRow base 5 1 (.slice a' (n + padN n) c') (n + padN n) ((padB l).map B8) ∧ Below base w w' := by
  obtain ⟨i, hi, hz0, hz1, hz2⟩ := info_parts infoB
  have HO := hid h
  have hll : l.length = n := by have := h.1; simpa using this
  have HLL := hid hll
  clear h hll
  have hpad : padN n < 64 := padN_lt n
  have HP : Hid (((64 : Int) - (n : Int) % 64) % 64 = ((padN n : Nat) : Int)) := by
    show _ = _
    unfold padN
    omega
  go_enter Try.func30, Try.ntmps30
  go_wp2_with (at_builtin; go_must (refine wpList_append_zeros rfl _ _ 22 3 rfl base 5 i .i64 .i64 Try.underlying22 Try.underlying3 hi hz0 hz1 hz2 (.slice a n c) n l rfl HO.out (padN n) (congrArg (Value.int .i64) HP.out) (by omega) hB ?_); go_loud (intro a' c' w1 hown hg; have HO1 := hid hown; have HG := hid hg; clear hown hg))
  go_ret
  exact ⟨a', c', rfl, by unfold padB; rw [HLL.out]; exact HO1.out, (Below.refl _ _).grown HG.out hB (fun k hk => (HO.out.lt k hk).1)⟩
theorem size_any (a : Option Addr) (n c : Nat) (w : World) (hn : n ≤ 1099511627776) :
    Calls Try.prog 12 #[.slice a n c] w fun e w' => e = .returned (.int .i64 ((unitSize n : Nat) : Int)) ∧ w = w' := by
  have HP : Hid (((8 : Int) + (n : Int) + 64 - 1) / 64 = ((unitSize n : Nat) : Int)) := by
    show _ = _
    unfold unitSize; omega
  go_enter Try.func12, Try.ntmps12
  go_wp2_with fail
  go_ret
  exact ⟨congrArg (fun z => Ending.returned (.int .i64 z)) HP.out, rfl⟩
theorem refSize_any (a : Option Addr) (n c : Nat) (w : World) (hn : n ≤ 1099511627776) :
    Calls Try.prog 13 #[.slice a n c] w fun e w' => e = .returned (.int .i64 ((unitSize n : Nat) : Int)) ∧ w = w' := by
  have HP : Hid (((n : Int) + 8 + 64 - 1) / 64 = ((unitSize n : Nat) : Int)) := by
    show _ = _
    unfold unitSize; omega
  go_enter Try.func13, Try.ntmps13
  go_wp2_with fail
  go_ret
  exact ⟨congrArg (fun z => Ending.returned (.int .i64 z)) HP.out, rfl⟩
theorem lay_any (a : Option Addr) (n c : Nat) (l : List UInt8) (w : World) (hr : RdB w a n l) (hnone : a = none → c = 0) (hn : n ≤ 1099511627776) :
    Calls Try.prog 9 #[.slice a n c] w fun e w' => ∃ a' c', e = .returned (.slice a' (layB l).length c') ∧ w'.ownsRow w.heap.size 5 1 (.slice a' (layB l).length c') (layB l).length ((layB l).map B8) ∧ Below w.heap.size w w' := by
  have HR := hid hr; have HN := hid hnone
  have hll := hr.len
  have HLL := hid hll
  clear hr hnone hll
  have hbw : Below w.heap.size w w := Below.refl _ _
  obtain ⟨S, hS⟩ : ∃ S, (crc 0#32 l).toNat = S := ⟨_, rfl⟩
  have hS32 : S < 4294967296 := by rw [← hS]; exact (crc 0#32 l).isLt
  have HS := hid hS
  have HSW : Hid (IntKind.i64.wrap (S : Int) = (S : Int)) := IntWalk.i64_in _ (by omega)
  clear hS hbw
  go_enter Try.func9, Try.ntmps9
  go_wp2_with fail
  refine (oNew_any _).mono ?_
  rintro e w1 ⟨rfl, hw1, hb1, hs1⟩
  have W1 : Hid (WrB 82 w w1 w.heap.size []) := ⟨[w.heap.size], hw1, by simp, hb1⟩
  have HBE := hid (Nat.le_refl w.heap.size)
  clear hw1 hb1 hs1
  generalize hp : w.heap.size = p at *
  have HP := hid hp; clear hp
  go_wp2_with fail
  obtain ⟨F1, hw1, hF1, hb1⟩ := W1.out
  refine (oU32_any p [] F1 (n : Int) _ hw1 (by simp)).mono ?_
  rintro e w2 ⟨F2, rfl, hw2, hc2, hf2⟩
  have W2 := hid (W1.out.step hw1 hF1 hb1 hw2 hc2 hf2 (by rw [← HP.out]; exact (show Below w.heap.size w w1 by rw [HP.out]; exact hb1).size))
  clear hw1 hF1 hb1 hw2 hc2 hf2 W1 F1 F2
  go_wp2_with fail
  have hr2 := HR.out.below (w' := w2) (by obtain ⟨_, _, _, hb⟩ := W2.out; rw [HP.out]; exact hb)
  refine (sum_any a n c l _ hr2 (by unfold maxLen; omega)).mono ?_
  rintro e w3 ⟨rfl, rfl⟩
  rw [HS.out]
  clear hr2
  have hsw := HSW.out
  go_wp2_with fail
  clear hsw
  obtain ⟨F2, hw2, hF2, hb2⟩ := W2.out
  refine (oU32_any p ([] ++ be 4 (u64nat (n : Int))) F2 (S : Int) _ hw2 (by simp [be_len])).mono ?_
  rintro e w4 ⟨F4, rfl, hw4, hc4, hf4⟩
  have W4 := hid (W2.out.step hw2 hF2 hb2 hw4 hc4 hf4 (by rw [← HP.out]; exact (show Below w.heap.size w w2 by rw [HP.out]; exact hb2).size))
  clear hw2 hF2 hb2 hw4 hc4 hf4 W2 F2 F4
  go_wp2_with fail
  obtain ⟨F4, hw4, hF4, hb4⟩ := W4.out
  refine (oRaw_any p ([] ++ be 4 (u64nat (n : Int)) ++ be 4 (u64nat (S : Int))) F4 a n c l _ hw4 (HR.out.below (by rw [HP.out]; exact hb4)) HN.out (by simp [be_len]; omega)).mono ?_
  rintro e w5 ⟨F5, rfl, hw5, hc5, hf5⟩
  have W5 := hid (W4.out.step hw4 hF4 hb4 hw5 hc5 hf5 (by rw [← HP.out]; exact (show Below w.heap.size w w4 by rw [HP.out]; exact hb4).size))
  clear hw4 hF4 hb4 hw5 hc5 hf5 W4 F4 F5
  have hu : [] ++ be 4 (u64nat (n : Int)) ++ be 4 (u64nat (S : Int)) ++ l = unitB l := by
    rw [u64nat_nat n (by omega), u64nat_nat S (by omega)]
    unfold unitB
    rw [HLL.out, HS.out, List.nil_append]
  rw [hu] at W5
  clear hu
  go_wp2_with fail
  obtain ⟨F5, hw5, hF5, hb5⟩ := W5.out
  refine (oBytes_any p (unitB l) F5 _ hw5 (by rw [unitB_len, HLL.out]; omega)).mono ?_
  rintro e w6 ⟨a6, n6, c6, rfl, ho6, hb6⟩
  have hn6 : (unitB l).length = n6 := by have := ho6.1; simpa using this
  have HN6 := hid hn6
  have hp5 : p ≤ w5.heap.size := by rw [← HP.out]; exact (show Below w.heap.size w w5 by rw [HP.out]; exact hb5).size
  have HO6 := hid (own_lower ho6 hp5)
  have B6 := hid (hb5.trans (hb6.mono hp5))
  have HP6 := hid (Nat.le_trans hp5 hb6.size)
  have hn6b : n6 ≤ 1099511627776 + 8 := by rw [← hn6, unitB_len, HLL.out]; omega
  clear hw5 hF5 hb5 ho6 hb6 hn6 hp5 W5
  go_wp2_with fail
  refine (fill_any p a6 n6 c6 (unitB l) _ HO6.out (by omega) HP6.out).mono ?_
  rintro e w7 ⟨a7, c7, rfl, ho7, hb7⟩
  have B7 := hid (B6.out.trans hb7)
  have hlen : n6 + padN n6 = (layB l).length := by unfold layB; rw [padB_len, HN6.out]
  rw [hlen] at ho7 ⊢
  have HO7 := hid ho7
  clear ho7 hb7 B6 HO6 hlen
  go_wp2_with fail
  go_ret
  exact ⟨a7, c7, rfl, by rw [HP.out]; exact HO7.out, by rw [HP.out]; exact B7.out⟩
theorem refLay_any (a : Option Addr) (n c : Nat) (l : List UInt8) (w : World) (hr : RdB w a n l) (hnone : a = none → c = 0) (hn : n ≤ 1099511627776) :
    Calls Try.prog 11 #[.slice a n c] w fun e w' => ∃ a' c', e = .returned (.slice a' (layB l).length c') ∧ w'.ownsRow w.heap.size 5 1 (.slice a' (layB l).length c') (layB l).length ((layB l).map B8) ∧ Below w.heap.size w w' := by
  have HR := hid hr; have HN := hid hnone
  have hll := hr.len
  have HLL := hid hll
  clear hr hnone hll
  obtain ⟨S, hS⟩ : ∃ S, (crc 0#32 l).toNat = S := ⟨_, rfl⟩
  have hS32 : S < 4294967296 := by rw [← hS]; exact (crc 0#32 l).isLt
  have HS := hid hS
  have HSW : Hid (IntKind.i64.wrap (S : Int) = (S : Int)) := IntWalk.i64_in _ (by omega)
  clear hS
  obtain ⟨i, hi, hz0, hz1, hz2⟩ := info_parts infoB'
  generalize hp : w.heap.size = p
  have HP := hid hp; clear hp
  go_enter Try.func11, Try.ntmps11
  go_wp2_with fail
  rw [HP.out]
  have W1 : Hid (WrB 63 w (w.alloc (.cells #[.slice none 0 0] 63)) p []) :=
    ⟨[p], ⟨none, 0, 0, rfl, by rw [← HP.out]; exact block_new _ _, World.ownsRow_nil _ _ _ _, (fun g hg => by cases hg), rfl⟩, by simp, by rw [← HP.out]; exact (Below.refl _ _).alloc (Nat.le_refl _) _⟩
  generalize w.alloc (.cells #[.slice none 0 0] 63) = w1 at *
  obtain ⟨F1, hw1, hF1, hb1⟩ := W1.out
  refine (rU32_any p [] F1 (n : Int) _ hw1 (by simp)).mono ?_
  rintro e w2 ⟨F2, rfl, hw2, hc2, hf2⟩
  have W2 := hid (W1.out.step hw1 hF1 hb1 hw2 hc2 hf2 (by rw [← HP.out]; exact (show Below w.heap.size w w1 by rw [HP.out]; exact hb1).size))
  clear hw1 hF1 hb1 hw2 hc2 hf2 W1 F1 F2
  go_wp2_with fail
  have hr2 := HR.out.below (w' := w2) (by obtain ⟨_, _, _, hb⟩ := W2.out; rw [HP.out]; exact hb)
  refine (refsum_any a n c l _ hr2 (by unfold maxLen; omega)).mono ?_
  rintro e w3 ⟨rfl, rfl⟩
  rw [HS.out]
  clear hr2
  have hsw := HSW.out
  go_wp2_with fail
  clear hsw
  obtain ⟨F2, hw2, hF2, hb2⟩ := W2.out
  refine (rU32_any p ([] ++ be 4 (u64nat (n : Int))) F2 (S : Int) _ hw2 (by simp [be_len])).mono ?_
  rintro e w4 ⟨F4, rfl, hw4, hc4, hf4⟩
  have W4 := hid (W2.out.step hw2 hF2 hb2 hw4 hc4 hf4 (by rw [← HP.out]; exact (show Below w.heap.size w w2 by rw [HP.out]; exact hb2).size))
  clear hw2 hF2 hb2 hw4 hc4 hf4 W2 F2 F4
  go_wp2_with fail
  obtain ⟨F4, hw4, hF4, hb4⟩ := W4.out
  refine (rRaw_any p ([] ++ be 4 (u64nat (n : Int)) ++ be 4 (u64nat (S : Int))) F4 a n c l _ hw4 (HR.out.below (by rw [HP.out]; exact hb4)) HN.out (by simp [be_len]; omega)).mono ?_
  rintro e w5 ⟨F5, rfl, hw5, hc5, hf5⟩
  have W5 := hid (W4.out.step hw4 hF4 hb4 hw5 hc5 hf5 (by rw [← HP.out]; exact (show Below w.heap.size w w4 by rw [HP.out]; exact hb4).size))
  clear hw4 hF4 hb4 hw5 hc5 hf5 W4 F4 F5
  have hu : [] ++ be 4 (u64nat (n : Int)) ++ be 4 (u64nat (S : Int)) ++ l = unitB l := by
    rw [u64nat_nat n (by omega), u64nat_nat S (by omega)]
    unfold unitB
    rw [HLL.out, HS.out, List.nil_append]
  rw [hu] at W5
  clear hu
  obtain ⟨U, hU⟩ : ∃ U, (unitB l).length = U := ⟨_, rfl⟩
  have hUb : U ≤ 1099511627776 + 8 := by rw [← hU, unitB_len, HLL.out]; omega
  have HU := hid hU
  have hpU := padN_lt U
  clear hU
  go_wp2_with fail
  go_loopw [] (fun wr => ∃ j, j ≤ padN U ∧ WrB 63 w wr p (unitB l ++ List.replicate j 0)) (fun wr => match wr.cell? ⟨p, 0, none⟩ with | some (.slice _ m _) => padN m | _ => 0)
  case atStart => exact ⟨0, Nat.zero_le _, by simpa using W5.out⟩
  case round =>
    clear W5
    obtain ⟨j, hj, hwb⟩ := hrel
    obtain ⟨F', hw, hF', hb⟩ := hwb
    obtain ⟨a2, m, c2, hm, h1, h2, h3, hF⟩ := hw
    have hmU : m = U + j := by rw [← hm, List.length_append, HU.out, List.length_replicate]
    have hcell : wr.cell? ⟨p, 0, none⟩ = some (.slice a2 m c2) := cell_of_block h1 rfl
    have hfz := frozen_of_block (j := 0) h1
    have hcA := cell_alloc hcell
    have H1 := hid h1; have H2 := hid h2; have H3 := hid h3; have HM := hid hm; have HB := hid hb; have HFF := hid hF'; have HF := hid hF; have HMU := hid hmU
    have HCL := hid hcell
    have HPW : Hid (p ≤ wr.heap.size) := by show _ ≤ _; rw [← HP.out]; exact (show Below w.heap.size w wr by rw [HP.out]; exact hb).size
    clear h1 h2 h3 hm hb hF' hF
    by_cases hjp : j = padN U
    · have hg0 : ¬ (0 < (m : Int) % 64) := by have := padN_mod U; rw [← hjp, ← hmU] at this; omega
      have HJP := hid hjp
      clear hjp hmU
      go_wp2_with fail
      go_ret
      have hlay : unitB l ++ List.replicate j 0 = layB l := by unfold layB padB; rw [HU.out, HJP.out]
      have hml : m = (layB l).length := by rw [← HM.out, hlay]
      subst hml
      refine ⟨a2, c2, rfl, ownsRow_base (by rw [hlay] at H2; exact H2.out) (fun k hk => HFF.out k (by rw [HF.out]; simp [hk])), HB.out⟩
    · have hg0 : 0 < (m : Int) % 64 := by unfold padN at hjp hj; omega
      have hmb : m ≤ 1099511627776 + 100 := by omega
      clear hmU
      have HP3 : Hid (∀ w', (wr.alloc (.cells #[B8 0] 5)).grownBy w' (Value.slice a2 m c2).ownBlock → w'.heap[p]? = some (.cells #[.slice a2 m c2] 63 (0, 0))) := by
        intro w' hg
        rw [hg.block p (by have := block_lt H1.out; simp; omega) (fun e => H3.out p e.symm rfl)]
        exact (Below.heap_alloc _ _ _ (block_lt H1.out)).trans H1.out
      go_wp2_with (at_builtin; go_must (refine wpList_append_c rfl _ _ 22 rfl 0 5 i _ 1 1 Try.underlying22 hi hz0 hz1 hz2 rfl (by decide) _ m _ rfl (H2.out.alloc _) _ _ _ [B8 0] rfl (RdC.new wr _ _ _ _ rfl 1 rfl _ rfl) (by intro u hu; simp at hu; subst hu; rfl) (by simp) (by unfold maxLen; omega) (by omega) (Nat.zero_le _) ?_); go_loud (intro a' c' w' ho hg hn; have hcell' : w'.cell? ⟨p, 0, none⟩ = some (.slice a2 m c2) := cell_of_block (HP3.out _ hg) rfl; have hfz' := frozen_of_block (j := 0) (HP3.out _ hg); have HO := hid ho; have HG := hid hg; have HN := hid hn; clear ho hg hn))
      all_goals
        go_wp2_with fail
        obtain ⟨F'', k1, k2, k3⟩ := Wr.put (T := 63) (by decide) (news := [0]) HM.out rfl H1.out H3.out HF.out ((Below.refl _ _).alloc (Nat.le_refl _) _) HO.out HG.out HN.out
        have W9 := hid (WrB.step ⟨F', ⟨a2, m, c2, HM.out, H1.out, H2.out, H3.out, HF.out⟩, HFF.out, HB.out⟩ ⟨a2, m, c2, HM.out, H1.out, H2.out, H3.out, HF.out⟩ HFF.out HB.out k1 k2 k3 HPW.out)
        have K1 := hid k1
        clear k1 k2 k3
        go_roundw
        case rel =>
          refine ⟨j + 1, by omega, ?_⟩
          have := W9.out
          rw [List.append_assoc, show List.replicate j (0 : UInt8) ++ [0] = List.replicate (j + 1) 0 from (List.replicate_succ' ..).symm] at this
          exact this
        case measure =>
          obtain ⟨a9, m9, c9, q9, g9, _⟩ := K1.out
          have hm9 : m9 = m + 1 := by rw [← q9, List.length_append, HM.out]; rfl
          have q1 : (w'.setCell ⟨p, 0, none⟩ (.slice a' (m + 1) c')).cell? ⟨p, 0, none⟩ = some (.slice a9 m9 c9) := cell_of_block (j := 0) g9 rfl
          rw [q1, HCL.out, hm9]
          show padN (m + 1) < padN m
          unfold padN
          omega
end Go.Proofs.Ytfabfemccnkboaa
