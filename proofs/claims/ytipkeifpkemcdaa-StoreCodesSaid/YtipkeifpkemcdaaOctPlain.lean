/- Numbers as bytes, the highest first; what is taken of bytes. -/
import Derived.WalkKit
namespace Go.Proofs.Ytipkeifpkemcdaa
open Go.RowKit
set_option linter.unusedVariables false
set_option linter.unusedSimpArgs false

/-- byte i (0: the lowest) of v -/
def byteAt (v i : Nat) : UInt8 := UInt8.ofNat (v / 256 ^ i % 256)
/-- the n lowest bytes of v, the highest first -/
def be (n v : Nat) : List UInt8 := (List.range n).map fun j => byteAt v (n - 1 - j)
theorem be_len (n v : Nat) : (be n v).length = n := by simp [be]
theorem be_take (n v k : Nat) (hk : k < n) : (be n v).take (k + 1) = (be n v).take k ++ [byteAt v (n - 1 - k)] := by
  have hl : k < (be n v).length := by rw [be_len]; exact hk
  rw [List.take_succ_eq_append_getElem hl]
  simp [be]
theorem be_take_all (n v : Nat) : (be n v).take n = be n v := List.take_of_length_le (by rw [be_len]; exact Nat.le_refl _)
theorem byteAt_val (v r : Nat) : ((byteAt v r).toNat : Int) = (v : Int) / 2 ^ (8 * r) % 256 := by
  unfold byteAt
  rw [UInt8.toNat_ofNat_of_lt' (Nat.mod_lt _ (by decide))]
  have h : (256 : Nat) ^ r = 2 ^ (8 * r) := by rw [Nat.pow_mul]
  rw [h]
  simp only [Int.natCast_emod, Int.natCast_ediv, Int.natCast_pow]
  rfl
/-- the number that bytes are -/
def num (l : List UInt8) : Nat := l.foldl (fun v c => (v * 256 + c.toNat) % 18446744073709551616) 0
theorem num_snoc (l : List UInt8) (c : UInt8) : num (l ++ [c]) = (num l * 256 + c.toNat) % 18446744073709551616 := by
  unfold num; rw [List.foldl_append]; rfl
def u64nat (z : Int) : Nat := (z % 18446744073709551616).toNat
theorem u64nat_eq (z : Int) : IntKind.u64.wrap z = ((u64nat z : Nat) : Int) := by
  rw [IntKind.wrap_u64]; unfold u64nat; omega
theorem u64nat_lt (z : Int) : u64nat z < 18446744073709551616 := by unfold u64nat; omega
theorem u64nat_nat (k : Nat) (h : k < 18446744073709551616) : u64nat (k : Int) = k := by unfold u64nat; omega

/-- What Raw takes, what is left, whether it lacks. -/
def taken (l : List UInt8) (lack : Bool) (z : Int) : List UInt8 := if lack = true ∨ z < 0 ∨ (l.length : Int) < z then [] else l.take z.toNat
def restOf (l : List UInt8) (lack : Bool) (z : Int) : List UInt8 := if lack = true ∨ z < 0 ∨ (l.length : Int) < z then [] else l.drop z.toNat
def lackOf (l : List UInt8) (lack : Bool) (z : Int) : Bool := if lack = true ∨ z < 0 ∨ (l.length : Int) < z then true else false
theorem taken_bad {l : List UInt8} {lack : Bool} {z : Int} (h : lack = true ∨ z < 0 ∨ (l.length : Int) < z) : taken l lack z = [] ∧ restOf l lack z = [] ∧ lackOf l lack z = true := by
  unfold taken restOf lackOf
  rw [if_pos h, if_pos h, if_pos h]
  exact ⟨rfl, rfl, rfl⟩
theorem taken_good {l : List UInt8} {k : Nat} (h : k ≤ l.length) : taken l false (k : Int) = l.take k ∧ restOf l false (k : Int) = l.drop k ∧ lackOf l false (k : Int) = false := by
  have hn : ¬ ((false : Bool) = true ∨ (k : Int) < 0 ∨ (l.length : Int) < (k : Int)) := by simp; omega
  unfold taken restOf lackOf
  rw [if_neg hn, if_neg hn, if_neg hn]
  exact ⟨rfl, rfl, rfl⟩

theorem u64_val {a b : Int} (h : a = b) : Value.int .u64 a = Value.int .u64 b := by rw [h]
theorem take_snoc' (l : List UInt8) (k : Nat) (hk : k < l.length) : l.take (k + 1) = l.take k ++ [l.getD k 0] := by
  rw [List.take_succ_eq_append_getElem hk, List.getD_eq_getElem?_getD, List.getElem?_eq_getElem hk]; rfl
theorem or_byte (V : Nat) (c : UInt8) : bits .or .u64 (IntKind.u64.wrap ((V : Int) * 256)) (c.toNat : Int) = (((V * 256 + c.toNat) % 18446744073709551616 : Nat) : Int) := by
  have hc : c.toNat < 256 := c.toNat_lt
  have h1 : IntKind.u64.wrap ((V : Int) * 256) = (((V % 72057594037927936) * 256 : Nat) : Int) := by
    rw [IntKind.wrap_u64]; omega
  rw [h1]
  generalize hq : V % 72057594037927936 = q
  have hq' : q < 72057594037927936 := by rw [← hq]; exact Nat.mod_lt _ (by decide)
  unfold bits
  have e1 : BitVec.ofInt IntKind.u64.bits ((q * 256 : Nat) : Int) = BitVec.ofNat 64 (q * 256) := BitVec.ofInt_natCast _ _
  have e2 : BitVec.ofInt IntKind.u64.bits (c.toNat : Int) = BitVec.ofNat 64 c.toNat := BitVec.ofInt_natCast _ _
  rw [e1, e2]
  show IntKind.u64.wrap ((BitVec.ofNat 64 (q * 256) ||| BitVec.ofNat 64 c.toNat).toNat : Int) = _
  rw [BitVec.toNat_or, BitVec.toNat_ofNat, BitVec.toNat_ofNat, Nat.mod_eq_of_lt (by omega), Nat.mod_eq_of_lt (by omega)]
  have h2 := Nat.shiftLeft_add_eq_or_of_lt (i := 8) (b := c.toNat) (by omega) q
  rw [Nat.shiftLeft_eq] at h2
  rw [← show q * 2 ^ 8 = q * 256 from rfl, ← h2, IntKind.wrap_u64]
  omega
theorem mul_byte (V : Nat) (c : UInt8) : IntKind.u64.wrap (IntKind.u64.wrap (256 * (V : Int)) + (c.toNat : Int)) = (((V * 256 + c.toNat) % 18446744073709551616 : Nat) : Int) := by
  rw [IntKind.wrap_u64, IntKind.wrap_u64]; omega

/-- what int(..) makes of a number -/
def asInt (N : Nat) : Int := IntKind.i64.wrap (N : Int)
theorem i64_ret' {a b : Int} (h : a = b) : Ending.returned (.int .i64 a) = .returned (.int .i64 b) := by rw [h]
theorem num_lt (l : List UInt8) : num l < 18446744073709551616 := by
  rcases List.eq_nil_or_concat l with rfl | ⟨l', c, rfl⟩
  · unfold num; simp
  · rw [List.concat_eq_append, num_snoc]; exact Nat.mod_lt _ (by omega)
theorem asInt_eq (N : Nat) : wrap64 (N : Int) = asInt N := (IntWalk.i64_left _).symm
theorem rest_len (l : List UInt8) (lack : Bool) (z : Int) : (restOf l lack z).length ≤ l.length := by
  unfold restOf; split <;> simp
def shortOf (l : List UInt8) (lack : Bool) : List UInt8 := taken (restOf l lack 2) (lackOf l lack 2) (asInt (num (taken l lack 2)))
def shortRest (l : List UInt8) (lack : Bool) : List UInt8 := restOf (restOf l lack 2) (lackOf l lack 2) (asInt (num (taken l lack 2)))
def shortLack (l : List UInt8) (lack : Bool) : Bool := lackOf (restOf l lack 2) (lackOf l lack 2) (asInt (num (taken l lack 2)))
end Go.Proofs.Ytipkeifpkemcdaa
