/- What was laid is taken again: plain laws. -/
import Derived.Test.YtipkeifpkemcdaaOctPlain
namespace Go.Proofs.Ytipkeifpkemcdaa
open Go.RowKit
set_option linter.unusedVariables false
set_option linter.unusedSimpArgs false
theorem byteAt_succ (v i : Nat) : byteAt v (i + 1) = byteAt (v / 256) i := by
  unfold byteAt
  rw [Nat.pow_succ', Nat.div_div_eq_div_mul]
theorem be_succ (n v : Nat) : be (n + 1) v = be n (v / 256) ++ [byteAt v 0] := by
  unfold be
  rw [List.range_succ, List.map_append]
  congr 1
  · apply List.map_congr_left
    intro j hj
    have hj' := List.mem_range.1 hj
    rw [show n + 1 - 1 - j = (n - 1 - j) + 1 by omega, byteAt_succ]
  · simp
theorem num_be (n : Nat) : ∀ v, n ≤ 8 → num (be n v) = v % 256 ^ n := by
  induction n with
  | zero => intro v _; simp [be, num, Nat.mod_one]
  | succ n ih =>
    intro v hn
    rw [be_succ, num_snoc, ih _ (by omega)]
    have hb : (byteAt v 0).toNat = v % 256 := by
      unfold byteAt
      rw [UInt8.toNat_ofNat_of_lt' (Nat.mod_lt _ (by decide)), Nat.pow_zero, Nat.div_one]
    rw [hb]
    have h1 : v % 256 ^ (n + 1) = (v / 256 % 256 ^ n) * 256 + v % 256 := by
      rw [Nat.pow_succ', Nat.mod_mul]; omega
    have h2 : v % 256 ^ (n + 1) < 18446744073709551616 := by
      refine Nat.lt_of_lt_of_le (Nat.mod_lt _ (Nat.pow_pos (by decide))) ?_
      have h3 : 256 ^ (n + 1) ≤ 256 ^ 8 := Nat.pow_le_pow_right (by decide) hn
      have h4 : (256 : Nat) ^ 8 = 18446744073709551616 := by decide +kernel
      omega
    rw [← h1, Nat.mod_eq_of_lt h2]
/-- what is behind a number that was laid -/
theorem take_be (m v : Nat) (rest : List UInt8) : taken (be m v ++ rest) false (m : Int) = be m v ∧ restOf (be m v ++ rest) false (m : Int) = rest ∧ lackOf (be m v ++ rest) false (m : Int) = false := by
  have h := taken_good (l := be m v ++ rest) (k := m) (by rw [List.length_append, be_len]; omega)
  have h1 : (be m v ++ rest).take m = be m v := by
    have := List.take_left (l₁ := be m v) (l₂ := rest)
    rwa [be_len] at this
  have h2 : (be m v ++ rest).drop m = rest := by
    have := List.drop_left (l₁ := be m v) (l₂ := rest)
    rwa [be_len] at this
  rw [h1, h2] at h
  exact h
theorem asInt_small (N : Nat) (h : N < 9223372036854775808) : asInt N = (N : Int) := by
  unfold asInt; exact IntWalk.i64_in _ (by omega)
theorem take_short (b rest : List UInt8) (hb : b.length ≤ 65535) : shortOf (be 2 b.length ++ b ++ rest) false = b ∧ shortRest (be 2 b.length ++ b ++ rest) false = rest ∧ shortLack (be 2 b.length ++ b ++ rest) false = false := by
  have h := take_be 2 b.length (b ++ rest)
  rw [← List.append_assoc] at h
  have h256 : (256 : Nat) ^ 2 = 65536 := by decide
  have hn : asInt (num (be 2 b.length)) = (b.length : Int) := by
    rw [num_be 2 _ (by decide), h256, Nat.mod_eq_of_lt (by omega), asInt_small _ (by omega)]
  have e2 : ((2 : Nat) : Int) = (2 : Int) := rfl
  rw [e2] at h
  unfold shortOf shortRest shortLack
  rw [h.1, h.2.1, h.2.2, hn]
  have g := taken_good (l := b ++ rest) (k := b.length) (by simp)
  rw [List.take_left, List.drop_left] at g
  exact g

end Go.Proofs.Ytipkeifpkemcdaa
