/- The sum as a plain function on bytes: each way of a round; that it tells two texts apart that part at one byte. -/
namespace Go.Proofs.Ytipkeifpkemcdaa
set_option linter.unusedVariables false
set_option linter.unusedSimpArgs false

def rnd (y : BitVec 32) : BitVec 32 := (y >>> 1) ^^^ (3988292384#32 &&& -(y &&& 1#32))
def rndR (y : BitVec 32) : BitVec 32 := if y &&& 1#32 = 1#32 then (y >>> 1) ^^^ 3988292384#32 else y >>> 1
def upTo (f : BitVec 32 → BitVec 32) : Nat → BitVec 32 → BitVec 32
  | 0, y => y
  | k + 1, y => f (upTo f k y)
def upd (x : BitVec 32) (c : UInt8) : BitVec 32 := upTo rnd 8 (x ^^^ BitVec.ofNat 32 c.toNat)
def crc (s : BitVec 32) (l : List UInt8) : BitVec 32 := (l.foldl upd (s ^^^ 4294967295#32)) ^^^ 4294967295#32

theorem low_bit (y : BitVec 32) : y &&& 1#32 = 0#32 ∨ y &&& 1#32 = 1#32 := by
  have h : (y &&& 1#32).toNat = y.toNat % 2 := by
    rw [BitVec.toNat_and]
    exact Nat.and_one_is_mod _
  rcases Nat.mod_two_eq_zero_or_one y.toNat with h0 | h0
  · left; apply BitVec.eq_of_toNat_eq; rw [h, h0]; rfl
  · right; apply BitVec.eq_of_toNat_eq; rw [h, h0]; rfl

theorem rnd_eq (y : BitVec 32) : rnd y = rndR y := by
  unfold rnd rndR
  rcases low_bit y with h | h
  · rw [h, if_neg (by decide)]
    have : 3988292384#32 &&& -(0#32) = 0#32 := by decide
    rw [this, BitVec.xor_zero]
  · rw [h, if_pos rfl]
    have : 3988292384#32 &&& -(1#32) = 3988292384#32 := by decide
    rw [this]

/-- A round forgets nothing. -/
theorem rnd_inj {x y : BitVec 32} (h : rnd x = rnd y) : x = y := by
  rw [rnd_eq, rnd_eq] at h
  unfold rndR at h
  have top : ∀ z : BitVec 32, (z >>> 1).getLsbD 31 = false := by
    intro z; simp [BitVec.getLsbD_ushiftRight]
  have ptop : (3988292384#32).getLsbD 31 = true := by decide
  have shift : (z t : BitVec 32) → z >>> 1 = t >>> 1 → z &&& 1#32 = t &&& 1#32 → z = t := by
    intro z t h1 h2
    apply BitVec.eq_of_toNat_eq
    have h1' := congrArg BitVec.toNat h1
    have h2' := congrArg BitVec.toNat h2
    rw [BitVec.toNat_ushiftRight, BitVec.toNat_ushiftRight, Nat.shiftRight_eq_div_pow, Nat.shiftRight_eq_div_pow] at h1'
    rw [BitVec.toNat_and, BitVec.toNat_and] at h2'
    have e1 : (1#32).toNat = 1 := rfl
    rw [e1, Nat.and_one_is_mod, Nat.and_one_is_mod] at h2'
    omega
  rcases low_bit x with hx | hx <;> rcases low_bit y with hy | hy
  · rw [hx, hy, if_neg (by decide)] at h
    exact shift x y h (hx.trans hy.symm)
  · rw [hx, hy, if_neg (by decide), if_pos rfl] at h
    have := congrArg (fun z : BitVec 32 => z.getLsbD 31) h
    simp only [BitVec.getLsbD_xor, top, ptop] at this
    cases this
  · rw [hx, hy, if_pos rfl, if_neg (by decide)] at h
    have := congrArg (fun z : BitVec 32 => z.getLsbD 31) h
    simp only [BitVec.getLsbD_xor, top, ptop] at this
    cases this
  · rw [hx, hy, if_pos rfl, if_pos rfl] at h
    have h' := congrArg (· ^^^ 3988292384#32) h
    simp only [BitVec.xor_assoc, BitVec.xor_self, BitVec.xor_zero] at h'
    exact shift x y h' (hx.trans hy.symm)

theorem upTo_inj (k : Nat) : ∀ {x y : BitVec 32}, upTo rnd k x = upTo rnd k y → x = y := by
  induction k with
  | zero => intro x y h; exact h
  | succ k ih => intro x y h; exact ih (rnd_inj h)

theorem upTo_eq (k : Nat) (y : BitVec 32) : upTo rnd k y = upTo rndR k y := by
  induction k with
  | zero => rfl
  | succ k ih => simp only [upTo, ih, rnd_eq]

theorem xor_left_inj {x y z : BitVec 32} (h : x ^^^ z = y ^^^ z) : x = y := by
  have h' := congrArg (· ^^^ z) h
  simpa only [BitVec.xor_assoc, BitVec.xor_self, BitVec.xor_zero] using h'

theorem upd_inj {x y : BitVec 32} {c : UInt8} (h : upd x c = upd y c) : x = y := xor_left_inj (upTo_inj 8 h)

theorem upd_byte {x : BitVec 32} {c d : UInt8} (h : upd x c = upd x d) : c = d := by
  have h1 := upTo_inj 8 h
  rw [BitVec.xor_comm x, BitVec.xor_comm x] at h1
  have h2 := congrArg BitVec.toNat (xor_left_inj h1)
  rw [BitVec.toNat_ofNat, BitVec.toNat_ofNat] at h2
  have hc := c.toNat_lt
  have hd := d.toNat_lt
  have : c.toNat = d.toNat := by omega
  exact UInt8.toNat_inj.1 this

theorem fold_inj (l : List UInt8) : ∀ {x y : BitVec 32}, l.foldl upd x = l.foldl upd y → x = y := by
  induction l with
  | nil => intro x y h; exact h
  | cons c l ih => intro x y h; exact upd_inj (ih h)

/-- Two texts that part at one byte alone have other sums. -/
theorem crc_turned (s : BitVec 32) (a b : List UInt8) (c d : UInt8) (h : crc s (a ++ c :: b) = crc s (a ++ d :: b)) : c = d := by
  unfold crc at h
  have h1 := xor_left_inj h
  rw [List.foldl_append, List.foldl_append, List.foldl_cons, List.foldl_cons] at h1
  exact upd_byte (fold_inj b h1)

theorem crc_append (s : BitVec 32) (a b : List UInt8) : crc s (a ++ b) = crc (crc s a) b := by
  unfold crc
  rw [List.foldl_append, BitVec.xor_assoc, BitVec.xor_self, BitVec.xor_zero]

theorem crc_nil (s : BitVec 32) : crc s [] = s := by
  unfold crc
  rw [List.foldl_nil, BitVec.xor_assoc, BitVec.xor_self, BitVec.xor_zero]

theorem crc_known : crc 0#32 [49, 50, 51, 52, 53, 54, 55, 56, 57] = 3421780262#32 := by decide +kernel
theorem crc_zero : crc 0#32 [0] = 3523407757#32 := by decide +kernel
end Go.Proofs.Ytipkeifpkemcdaa
