/- wal: fill, Size, Lay; the reference's. -/
import Derived.Test.YtipkeifpkemcdaaWalPlain
import Derived.Test.YtipkeifpkemcdaaOctet
import Derived.Test.YtipkeifpkemcdaaCrc
import Derived.Test.YtipkeifpkemcdaaHand
import Derived.Test.YtipkeifpkemcdaaZeros
namespace Go.Proofs.Ytipkeifpkemcdaa
open Go.RowKit
set_option linter.unusedVariables false
set_option linter.unusedSimpArgs false
set_option maxRecDepth 100000
set_option maxHeartbeats 1600000
theorem tmod64 (n : Nat) : 0 ≤ (n : Int).tmod 64 ∧ (n : Int).tmod 64 < 64 := by rw [Int.tmod_eq_emod_of_nonneg (by omega)]; omega
theorem own_lower {w : World} {b b' : Nat} {T : TypeId} {size n : Nat} {v : Value} {xs : List Value} (h : w.ownsRow b T size v n xs) (hb : b' ≤ b) : w.ownsRow b' T size v n xs := by
  refine ⟨h.1, ?_⟩
  rcases h.2 with hn | ⟨g, cap, cur, hv, hg, rest⟩
  · exact .inl hn
  · exact .inr ⟨g, cap, cur, hv, Nat.le_trans hb hg, rest⟩
/-- A writer of the call's own: p and all behind it are new. -/
def WrB (T : TypeId) (w w' : World) (p : Nat) (l : List UInt8) : Prop := ∃ F, Wr T w' p l F ∧ (∀ q ∈ F, p ≤ q) ∧ Below p w w'
theorem WrB.step {T : TypeId} {w w1 w2 : World} {p : Nat} {l l' : List UInt8} {F F2 : List Nat} (_ : WrB T w w1 p l) (_ : Wr T w1 p l F) (hF : ∀ q ∈ F, p ≤ q) (hb : Below p w w1) (h2 : Wr T w2 p l' F2) (hc : Chg F w1 w2) (hf : Fresh F F2 w1) (hp : p ≤ w1.heap.size) : WrB T w w2 p l' :=
  ⟨F2, h2, fun q hq => by rcases hf q hq with h | h; exact hF q h; omega, hb.trans (hc.below hF hp)⟩
theorem fill_any (base : Nat) (a : Option Addr) (n c : Nat) (l : List UInt8) (w : World) (h : w.ownsRow base 5 1 (.slice a n c) n (l.map B8)) (hn : n ≤ 2199023255552) (hB : base ≤ w.heap.size) :
    Calls Try.prog 96 #[.slice a n c] w fun e w' => ∃ a' c', e = .returned (.slice a' (n + padN n) c') ∧ w'.ownsRow base 5 1 (.slice a' (n + padN n) c') (n + padN n) ((padB l).map B8) ∧ Below base w w' := by
  obtain ⟨i, hi, hz0, hz1, hz2⟩ := info_parts infoB
  have HO := hid h
  have hll : l.length = n := by have := h.1; simpa using this
  have HLL := hid hll
  clear h hll
  have hpad : padN n < 64 := padN_lt n
  have HP : Hid (((64 : Int) - (n : Int) % 64) % 64 = ((padN n : Nat) : Int)) := by
    show _ = _
    unfold padN
    omega
  go_enter Try.func96, Try.ntmps96
  go_wp2_with (at_builtin; go_must (refine wpList_append_zeros rfl _ _ 24 3 rfl base 5 i .i64 .i64 Try.underlying24 Try.underlying3 hi hz0 hz1 hz2 (.slice a n c) n l rfl HO.out (padN n) (congrArg (Value.int .i64) HP.out) (by omega) hB ?_); go_loud (intro a' c' w1 hown hg; have HO1 := hid hown; have HG := hid hg; clear hown hg))
  go_ret
  exact ⟨a', c', rfl, by unfold padB; rw [HLL.out]; exact HO1.out, (Below.refl _ _).grown HG.out hB (fun k hk => (HO.out.lt k hk).1)⟩
theorem size_any (a : Option Addr) (n c : Nat) (w : World) (hn : n ≤ 1099511627776) :
    Calls Try.prog 56 #[.slice a n c] w fun e w' => e = .returned (.int .i64 ((unitSize n : Nat) : Int)) ∧ w = w' := by
  have HP : Hid (((8 : Int) + (n : Int) + 64 - 1) / 64 = ((unitSize n : Nat) : Int)) := by
    show _ = _
    unfold unitSize; omega
  go_enter Try.func56, Try.ntmps56
  go_wp2_with fail
  go_ret
  exact ⟨congrArg (fun z => Ending.returned (.int .i64 z)) HP.out, rfl⟩
theorem lay_any (a : Option Addr) (n c : Nat) (l : List UInt8) (w : World) (hr : RdB w a n l) (hnone : a = none → c = 0) (hn : n ≤ 1099511627776) :
    Calls Try.prog 88 #[.slice a n c] w fun e w' => ∃ a' c', e = .returned (.slice a' (layB l).length c') ∧ w'.ownsRow w.heap.size 5 1 (.slice a' (layB l).length c') (layB l).length ((layB l).map B8) ∧ Below w.heap.size w w' := by
  have HR := hid hr; have HN := hid hnone
  have hll := hr.len
  have HLL := hid hll
  clear hr hnone hll
  have hbw : Below w.heap.size w w := Below.refl _ _
  obtain ⟨S, hS⟩ : ∃ S, (crc 0#32 l).toNat = S := ⟨_, rfl⟩
  have hS32 : S < 4294967296 := by rw [← hS]; exact (crc 0#32 l).isLt
  have HS := hid hS
  have HSW : Hid (IntKind.i64.wrap (S : Int) = (S : Int)) := IntWalk.i64_in _ (by omega)
  clear hS hbw
  go_enter Try.func88, Try.ntmps88
  go_wp2_with fail
  refine (oNew_any _).mono ?_
  rintro e w1 ⟨rfl, hw1, hb1, hs1⟩
  have W1 : Hid (WrB 108 w w1 w.heap.size []) := ⟨[w.heap.size], hw1, by simp, hb1⟩
  have HBE := hid (Nat.le_refl w.heap.size)
  clear hw1 hb1 hs1
  generalize hp : w.heap.size = p at *
  have HP := hid hp; clear hp
  go_wp2_with fail
  obtain ⟨F1, hw1, hF1, hb1⟩ := W1.out
  refine (oU32_any p [] F1 (n : Int) _ hw1 (by simp)).mono ?_
  rintro e w2 ⟨F2, rfl, hw2, hc2, hf2⟩
  have W2 := hid (W1.out.step hw1 hF1 hb1 hw2 hc2 hf2 (by rw [← HP.out]; exact (show Below w.heap.size w w1 by rw [HP.out]; exact hb1).size))
  clear hw1 hF1 hb1 hw2 hc2 hf2 W1 F1 F2
  go_wp2_with fail
  have hr2 := HR.out.below (w' := w2) (by obtain ⟨_, _, _, hb⟩ := W2.out; rw [HP.out]; exact hb)
  refine (sum_any a n c l _ hr2 (by unfold maxLen; omega)).mono ?_
  rintro e w3 ⟨rfl, rfl⟩
  rw [HS.out]
  clear hr2
  have hsw := HSW.out
  go_wp2_with fail
  clear hsw
  obtain ⟨F2, hw2, hF2, hb2⟩ := W2.out
  refine (oU32_any p ([] ++ be 4 (u64nat (n : Int))) F2 (S : Int) _ hw2 (by simp [be_len])).mono ?_
  rintro e w4 ⟨F4, rfl, hw4, hc4, hf4⟩
  have W4 := hid (W2.out.step hw2 hF2 hb2 hw4 hc4 hf4 (by rw [← HP.out]; exact (show Below w.heap.size w w2 by rw [HP.out]; exact hb2).size))
  clear hw2 hF2 hb2 hw4 hc4 hf4 W2 F2 F4
  go_wp2_with fail
  obtain ⟨F4, hw4, hF4, hb4⟩ := W4.out
  refine (oRaw_any p ([] ++ be 4 (u64nat (n : Int)) ++ be 4 (u64nat (S : Int))) F4 a n c l _ hw4 (HR.out.below (by rw [HP.out]; exact hb4)) HN.out (by simp [be_len]; omega)).mono ?_
  rintro e w5 ⟨F5, rfl, hw5, hc5, hf5⟩
  have W5 := hid (W4.out.step hw4 hF4 hb4 hw5 hc5 hf5 (by rw [← HP.out]; exact (show Below w.heap.size w w4 by rw [HP.out]; exact hb4).size))
  clear hw4 hF4 hb4 hw5 hc5 hf5 W4 F4 F5
  have hu : [] ++ be 4 (u64nat (n : Int)) ++ be 4 (u64nat (S : Int)) ++ l = unitB l := by
    rw [u64nat_nat n (by omega), u64nat_nat S (by omega)]
    unfold unitB
    rw [HLL.out, HS.out, List.nil_append]
  rw [hu] at W5
  clear hu
  go_wp2_with fail
  obtain ⟨F5, hw5, hF5, hb5⟩ := W5.out
  refine (oBytes_any p (unitB l) F5 _ hw5 (by rw [unitB_len, HLL.out]; omega)).mono ?_
  rintro e w6 ⟨a6, n6, c6, rfl, ho6, hb6⟩
  have hn6 : (unitB l).length = n6 := by have := ho6.1; simpa using this
  have HN6 := hid hn6
  have hp5 : p ≤ w5.heap.size := by rw [← HP.out]; exact (show Below w.heap.size w w5 by rw [HP.out]; exact hb5).size
  have HO6 := hid (own_lower ho6 hp5)
  have B6 := hid (hb5.trans (hb6.mono hp5))
  have HP6 := hid (Nat.le_trans hp5 hb6.size)
  have hn6b : n6 ≤ 1099511627776 + 8 := by rw [← hn6, unitB_len, HLL.out]; omega
  clear hw5 hF5 hb5 ho6 hb6 hn6 hp5 W5
  go_wp2_with fail
  refine (fill_any p a6 n6 c6 (unitB l) _ HO6.out (by omega) HP6.out).mono ?_
  rintro e w7 ⟨a7, c7, rfl, ho7, hb7⟩
  have B7 := hid (B6.out.trans hb7)
  have hlen : n6 + padN n6 = (layB l).length := by unfold layB; rw [padB_len, HN6.out]
  rw [hlen] at ho7 ⊢
  have HO7 := hid ho7
  clear ho7 hb7 B6 HO6 hlen
  go_wp2_with fail
  go_ret
  exact ⟨a7, c7, rfl, by rw [HP.out]; exact HO7.out, by rw [HP.out]; exact B7.out⟩
end Go.Proofs.Ytipkeifpkemcdaa
