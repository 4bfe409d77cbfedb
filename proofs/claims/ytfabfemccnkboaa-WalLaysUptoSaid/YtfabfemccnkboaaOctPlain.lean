/- Numbers as bytes, the highest first. -/
namespace Go.Proofs.Ytfabfemccnkboaa
set_option linter.unusedVariables false
set_option linter.unusedSimpArgs false

/-- byte i (0: the lowest) of v -/
def byteAt (v i : Nat) : UInt8 := UInt8.ofNat (v / 256 ^ i % 256)
/-- the n lowest bytes of v, the highest first -/
def be (n v : Nat) : List UInt8 := (List.range n).map fun j => byteAt v (n - 1 - j)
theorem be_len (n v : Nat) : (be n v).length = n := by simp [be]
theorem be_take (n v k : Nat) (hk : k < n) : (be n v).take (k + 1) = (be n v).take k ++ [byteAt v (n - 1 - k)] := by
  have hl : k < (be n v).length := by rw [be_len]; exact hk
  rw [List.take_succ_eq_append_getElem hl]
  simp [be]
theorem be_take_all (n v : Nat) : (be n v).take n = be n v := List.take_of_length_le (by rw [be_len]; exact Nat.le_refl _)
theorem byteAt_val (v r : Nat) : ((byteAt v r).toNat : Int) = (v : Int) / 2 ^ (8 * r) % 256 := by
  unfold byteAt
  rw [UInt8.toNat_ofNat_of_lt' (Nat.mod_lt _ (by decide))]
  have h : (256 : Nat) ^ r = 2 ^ (8 * r) := by rw [Nat.pow_mul]
  rw [h]
  simp only [Int.natCast_emod, Int.natCast_ediv, Int.natCast_pow]
  rfl
/-- the number that bytes are -/
def num (l : List UInt8) : Nat := l.foldl (fun v c => (v * 256 + c.toNat) % 18446744073709551616) 0
theorem num_snoc (l : List UInt8) (c : UInt8) : num (l ++ [c]) = (num l * 256 + c.toNat) % 18446744073709551616 := by
  unfold num; rw [List.foldl_append]; rfl
end Go.Proofs.Ytfabfemccnkboaa
