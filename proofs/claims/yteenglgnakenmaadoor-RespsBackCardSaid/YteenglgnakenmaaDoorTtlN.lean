/- ttlv, plain: numbers as bytes; an item's head. -/
import Derived.Test.YteenglgnakenmaaDoorTtl7
namespace Go.Proofs.YteenglgnakenmaaDoor
open Go.RowKit
set_option linter.unusedVariables false
set_option linter.unusedSimpArgs false
set_option maxRecDepth 100000
set_option maxHeartbeats 3200000
theorem be_mod : ∀ (n v : Nat), be n v = be n (v % 256 ^ n)
  | 0, v => by simp [be]
  | n + 1, v => by
    rw [be_succ, be_succ, be_mod n (v / 256), be_mod n (v % 256 ^ (n + 1) / 256), Nat.pow_succ', Nat.mod_mul_right_div_self, Nat.mod_mod]
    congr 2
    unfold byteAt
    rw [Nat.pow_zero, Nat.div_one, Nat.div_one, Nat.mod_mul_right_mod]
theorem num_small : ∀ (n : Nat) (l : List UInt8), l.length = n → num l < 256 ^ n
  | 0, l, h => by rw [List.length_eq_zero_iff.1 h]; decide
  | n + 1, l, h => by
    rcases List.eq_nil_or_concat l with rfl | ⟨l', c, rfl⟩
    · cases h
    · rw [List.concat_eq_append] at h ⊢
      have hl : l'.length = n := by simpa using h
      have h1 := num_small n l' hl
      rw [num_snoc, Nat.pow_succ]
      have hc := c.toNat_lt
      refine Nat.lt_of_le_of_lt (Nat.mod_le _ _) ?_
      omega
theorem pow_le8 {n : Nat} (h : n ≤ 8) : 256 ^ n ≤ 18446744073709551616 := by
  have h1 : (256 : Nat) ^ n ≤ 256 ^ 8 := Nat.pow_le_pow_right (by decide) h
  have h2 : (256 : Nat) ^ 8 = 18446744073709551616 := by decide +kernel
  omega
theorem be_num : ∀ (n : Nat) (l : List UInt8), l.length = n → n ≤ 8 → be n (num l) = l
  | 0, l, h, _ => by rw [List.length_eq_zero_iff.1 h]; rfl
  | n + 1, l, h, h8 => by
    rcases List.eq_nil_or_concat l with rfl | ⟨l', c, rfl⟩
    · cases h
    · rw [List.concat_eq_append] at h ⊢
      have hl : l'.length = n := by simpa using h
      have h1 := num_small n l' hl
      have h2 := pow_le8 h8
      rw [Nat.pow_succ] at h2
      have hc := c.toNat_lt
      rw [num_snoc, be_succ, Nat.mod_eq_of_lt (by omega), show (num l' * 256 + c.toNat) / 256 = num l' by omega, be_num n l' hl (by omega)]
      congr 2
      unfold byteAt
      rw [Nat.pow_zero, Nat.div_one, show (num l' * 256 + c.toNat) % 256 = c.toNat by omega]
      exact UInt8.ofNat_toNat
theorem pI_app {x y : List UInt8} {k : Nat} {z : Int} (hz : z = (k : Int)) (hx : x.length = k) (hk : k ≤ 7) : pI z (x ++ y, false) = ((num x : Int), (y, false)) := by
  subst hz
  have h := taken_good (l := x ++ y) (k := k) (by rw [List.length_append]; omega)
  rw [List.take_left' hx, List.drop_left' hx] at h
  unfold pI
  rw [h.1, h.2.1, h.2.2]
  have h1 := num_small k x hx
  have h2 : (256 : Nat) ^ k ≤ 256 ^ 7 := Nat.pow_le_pow_right (by decide) hk
  have h3 : (256 : Nat) ^ 7 = 72057594037927936 := by decide +kernel
  rw [asInt_small _ (by omega)]
theorem pI_one {x : List UInt8} {k : Nat} {z : Int} (hz : z = (k : Int)) (hx : x.length = k) (hk : k ≤ 7) : pI z (x, false) = ((num x : Int), ([], false)) := by
  have := pI_app (y := []) hz hx hk
  rwa [List.append_nil] at this
theorem head_of {a b c d r : List UInt8} (ha : a.length = 1) (hb : b.length = 2) (hc : c.length = 1) (hd : d.length = 4) :
    tagD (a ++ (b ++ (c ++ (d ++ r)))) = (num a : Int) * 65536 + num b ∧ typD (a ++ (b ++ (c ++ (d ++ r)))) = num c ∧ lenD (a ++ (b ++ (c ++ (d ++ r)))) = num d ∧ (a ++ (b ++ (c ++ (d ++ r)))).drop 8 = r := by
  have h0 : a ++ (b ++ (c ++ (d ++ r))) = (a ++ (b ++ (c ++ d))) ++ r := by simp only [List.append_assoc]
  have hl : (a ++ (b ++ (c ++ d))).length = 8 := by simp only [List.length_append]; omega
  have hh : hS (a ++ (b ++ (c ++ (d ++ r)))) = (a ++ (b ++ (c ++ d)), false) := by unfold hS; rw [h0, List.take_left' hl]
  refine ⟨?_, ?_, ?_, ?_⟩
  · unfold tagD tagA tagL
    rw [hh, pI_app (k := 1) (z := 1) rfl ha (by decide)]
    simp only
    rw [pI_app (k := 2) (z := 2) rfl hb (by decide)]
  · unfold typD
    rw [hh, pI_app (k := 1) (z := 1) rfl ha (by decide)]
    simp only
    rw [pI_app (k := 2) (z := 2) rfl hb (by decide)]
    simp only
    rw [pI_app (k := 1) (z := 1) rfl hc (by decide)]
  · unfold lenD
    rw [hh, pI_app (k := 1) (z := 1) rfl ha (by decide)]
    simp only
    rw [pI_app (k := 2) (z := 2) rfl hb (by decide)]
    simp only
    rw [pI_app (k := 1) (z := 1) rfl hc (by decide)]
    simp only
    rw [pI_one (k := 4) (z := 4) rfl hd (by decide)]
  · rw [h0, List.drop_left' hl]
theorem head_split {l : List UInt8} (h : 8 ≤ l.length) : ∃ a b c d, l = a ++ (b ++ (c ++ (d ++ l.drop 8))) ∧ a.length = 1 ∧ b.length = 2 ∧ c.length = 1 ∧ d.length = 4 := by
  refine ⟨l.take 1, (l.drop 1).take 2, (l.drop 3).take 1, (l.drop 4).take 4, ?_, ?_, ?_, ?_, ?_⟩
  · have h1 : (l.drop 4).take 4 ++ l.drop 8 = l.drop 4 := by
      have := List.take_append_drop 4 (l.drop 4); rwa [List.drop_drop] at this
    have h2 : (l.drop 3).take 1 ++ l.drop 4 = l.drop 3 := by
      have := List.take_append_drop 1 (l.drop 3); rwa [List.drop_drop] at this
    have h3 : (l.drop 1).take 2 ++ l.drop 3 = l.drop 1 := by
      have := List.take_append_drop 2 (l.drop 1); rwa [List.drop_drop] at this
    rw [h1, h2, h3, List.take_append_drop]
  all_goals (simp only [List.length_take, List.length_drop]; omega)
theorem up8_add (n : Nat) : up8 (8 + n) = 8 + up8 n := by unfold up8; omega
theorem pad_none : ∀ (g : Nat) (b : List UInt8) (j : Nat), j ≤ b.length → padE b g j = none → j + g ≤ b.length ∧ (b.drop j).take g = List.replicate g 0
  | 0, b, j, hj, _ => ⟨hj, by simp⟩
  | g + 1, b, j, hj, h => by
    rw [padE] at h
    split at h
    · cases h
    · rename_i h1
      split at h
      · rename_i h2
        obtain ⟨h3, h4⟩ := pad_none g b (j + 1) (by omega) h
        refine ⟨by omega, ?_⟩
        have hlt : j < b.length := by omega
        rw [List.drop_eq_getElem_cons hlt, List.take_succ_cons, h4, List.replicate_succ]
        rw [List.getD_eq_getElem?_getD, List.getElem?_eq_getElem hlt] at h2
        simp at h2
        rw [h2]
      · cases h
theorem pad_back : ∀ (g : Nat) (b : List UInt8) (j : Nat), (∀ i, i < g → j + i < b.length ∧ b.getD (j + i) 0 = 0) → padE b g j = none
  | 0, b, j, _ => rfl
  | g + 1, b, j, h => by
    have h0 := h 0 (by omega)
    rw [Nat.add_zero] at h0
    rw [padE, if_neg (by omega), if_pos h0.2]
    exact pad_back g b (j + 1) fun i hi => by
      have := h (i + 1) (by omega)
      rwa [show j + (i + 1) = j + 1 + i by omega] at this
/-- An item's head has small numbers. -/
theorem hd_range {l : List UInt8} (h : 8 ≤ l.length) : (0 ≤ tagA l ∧ tagA l < 256) ∧ (0 ≤ tagL l ∧ tagL l < 65536) ∧ (0 ≤ typD l ∧ typD l < 256) ∧ 0 ≤ lenD l ∧ lenD l < 4294967296 := by
  obtain ⟨a, b, c, d, hs, ha, hb, hc, hd⟩ := head_split h
  generalize l.drop 8 = r at hs
  clear h
  subst hs
  have h0 : a ++ (b ++ (c ++ (d ++ r))) = (a ++ (b ++ (c ++ d))) ++ r := by simp only [List.append_assoc]
  have hl : (a ++ (b ++ (c ++ d))).length = 8 := by simp only [List.length_append]; omega
  have hh : hS (a ++ (b ++ (c ++ (d ++ r)))) = (a ++ (b ++ (c ++ d)), false) := by unfold hS; rw [h0, List.take_left' hl]
  obtain ⟨-, h2, h3, -⟩ := head_of (r := r) ha hb hc hd
  have e1 : tagA (a ++ (b ++ (c ++ (d ++ r)))) = num a := by
    unfold tagA
    rw [hh, pI_app (k := 1) (z := 1) rfl ha (by decide)]
  have e2 : tagL (a ++ (b ++ (c ++ (d ++ r)))) = num b := by
    unfold tagL
    rw [hh, pI_app (k := 1) (z := 1) rfl ha (by decide)]
    simp only
    rw [pI_app (k := 2) (z := 2) rfl hb (by decide)]
  have na := num_small 1 a ha
  have nb := num_small 2 b hb
  have nc := num_small 1 c hc
  have nd := num_small 4 d hd
  have p1 : (256 : Nat) ^ 1 = 256 := by decide
  have p2 : (256 : Nat) ^ 2 = 65536 := by decide
  have p4 : (256 : Nat) ^ 4 = 4294967296 := by decide
  rw [e1, e2, h2, h3]
  omega
theorem or_tag {A L : Int} (hA : 0 ≤ A ∧ A < 256) (hL : 0 ≤ L ∧ L < 65536) : bits .or .i64 (A * 65536) L = A * 65536 + L := by
  obtain ⟨x, rfl⟩ := Int.eq_ofNat_of_zero_le hA.1
  obtain ⟨y, rfl⟩ := Int.eq_ofNat_of_zero_le hL.1
  unfold bits
  have e1 : BitVec.ofInt IntKind.i64.bits (((x : Nat) : Int) * 65536) = BitVec.ofNat 64 (x * 65536) := by
    rw [show ((x : Nat) : Int) * 65536 = ((x * 65536 : Nat) : Int) by omega]; exact BitVec.ofInt_natCast _ _
  have e2 : BitVec.ofInt IntKind.i64.bits ((y : Nat) : Int) = BitVec.ofNat 64 y := BitVec.ofInt_natCast _ _
  rw [e1, e2]
  show IntKind.i64.wrap ((BitVec.ofNat 64 (x * 65536) ||| BitVec.ofNat 64 y).toNat : Int) = _
  rw [BitVec.toNat_or, BitVec.toNat_ofNat, BitVec.toNat_ofNat, Nat.mod_eq_of_lt (by omega), Nat.mod_eq_of_lt (by omega)]
  have h2 := Nat.shiftLeft_add_eq_or_of_lt (i := 16) (b := y) (by omega) x
  rw [Nat.shiftLeft_eq] at h2
  rw [← show x * 2 ^ 16 = x * 65536 from rfl, ← h2, IntWalk.i64_in _ (by omega)]
  omega
/-- What Decode makes of bytes. -/
def decP (l : List UInt8) : Itm × Int := if 8192 < l.length then (itZ.it, 6) else match decF 12 l 0 with
  | .err e => (itZ.it, e)
  | .ok i r _ => if r = [] then (i, 0) else (itZ.it, 5)
end Go.Proofs.YteenglgnakenmaaDoor
