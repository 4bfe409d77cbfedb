/- The log, plainly: a unit's sectors. -/
import Derived.Test.YtipkeifpkemcdaaOctPlain
import Derived.Test.YtipkeifpkemcdaaCrcPlain
namespace Go.Proofs.Ytipkeifpkemcdaa
/-- How many zeros up to a whole number of sectors. -/
def padN (n : Nat) : Nat := (64 - n % 64) % 64
theorem padN_lt (n : Nat) : padN n < 64 := by unfold padN; omega
theorem padN_mod (n : Nat) : (n + padN n) % 64 = 0 := by unfold padN; omega
def padB (l : List UInt8) : List UInt8 := l ++ List.replicate (padN l.length) 0
theorem padB_len (l : List UInt8) : (padB l).length = l.length + padN l.length := by simp [padB]
/-- A unit: its length, its sum, it. -/
def unitB (l : List UInt8) : List UInt8 := be 4 l.length ++ be 4 (crc 0#32 l).toNat ++ l
theorem unitB_len (l : List UInt8) : (unitB l).length = l.length + 8 := by simp [unitB, be_len]; omega
def layB (l : List UInt8) : List UInt8 := padB (unitB l)
def unitSize (n : Nat) : Nat := (n + 71) / 64
theorem layB_len (l : List UInt8) : (layB l).length = 64 * unitSize l.length := by
  unfold layB unitSize
  rw [padB_len, unitB_len]
  unfold padN
  omega
end Go.Proofs.Ytipkeifpkemcdaa
