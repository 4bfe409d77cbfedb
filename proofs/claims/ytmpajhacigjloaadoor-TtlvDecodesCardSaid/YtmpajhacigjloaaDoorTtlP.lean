/- Plain facts for the reference's decoder. -/
import Derived.Test.YtmpajhacigjloaaDoorTtlL
import Derived.Test.YtmpajhacigjloaaDoorRefT6
namespace Go.Proofs.YtmpajhacigjloaaDoor
open Go.RowKit
set_option linter.unusedVariables false
set_option linter.unusedSimpArgs false
/-- What is left stands behind whole words. -/
theorem decF_at : ∀ (f : Nat) (l : List UInt8) (c : Nat) (i : Itm) (r : List UInt8) (c' : Nat), decF f l c = .ok i r c' → ∃ m, r = l.drop m ∧ 8 ≤ m ∧ m ≤ l.length ∧ m % 8 = 0
  | 0, l, c, i, r, c', h => by
    rw [decF] at h
    split at h <;> cases h
  | f + 1, l, c, i, r, c', h => by
    rw [decF] at h
    split at h
    · cases h
    · rename_i h8
      split at h
      · cases h
      · split at h
        · cases h
        · rename_i hn
          split at h
          · cases h
          · cases h2 : bodyD (decF f) (typD l) ((l.drop 8).take (lenD l).toNat) (c + 1) with
            | err e => rw [h2] at h; cases h
            | ok n d ks c2 =>
              rw [h2] at h
              simp only at h
              cases h3 : padE (l.drop 8) (up8 (lenD l).toNat - (lenD l).toNat) (lenD l).toNat with
              | some e => rw [h3] at h; cases h
              | none =>
                rw [h3] at h
                simp only [DR.ok.injEq] at h
                obtain ⟨_, rfl, _⟩ := h
                have h4 := (pad_none _ _ _ (by omega) h3).1
                have h5 := up8_ge (lenD l).toNat
                rw [List.length_drop] at h4
                exact ⟨8 + up8 (lenD l).toNat, by rw [List.drop_drop], by omega, by omega, by omega⟩
theorem kids_words {one : List UInt8 → Nat → DR} (h1 : ∀ l c i r c', one l c = .ok i r c' → ∃ m, r = l.drop m ∧ 8 ≤ m ∧ m ≤ l.length ∧ m % 8 = 0) : ∀ (g : Nat) (l : List UInt8) (c : Nat) (acc ks : List Itm) (c' : Nat), l.length ≤ g → kidsD one g l c acc = .ok ks c' → l.length % 8 = 0
  | 0, l, c, acc, ks, c', hg, h => by omega
  | g + 1, l, c, acc, ks, c', hg, h => by
    rw [kidsD] at h
    split at h
    · omega
    · cases h2 : one l c with
      | err e => rw [h2] at h; cases h
      | ok i r d =>
        rw [h2] at h
        obtain ⟨m, rfl, k1, k2, k3⟩ := h1 l c i r d h2
        have k4 := kids_words h1 g (l.drop m) d (acc ++ [i]) ks c' (by rw [List.length_drop]; omega) h
        rw [List.length_drop] at k4
        omega
/-- The head, read off the whole. -/
theorem hd_whole {l : List UInt8} (h : 8 ≤ l.length) : (pI 1 (l, false)).1 = tagA l ∧ (pI 2 (pI 1 (l, false)).2).1 = tagL l ∧ (pI 1 (pI 2 (pI 1 (l, false)).2).2).1 = typD l ∧ (pI 4 (pI 1 (pI 2 (pI 1 (l, false)).2).2).2).1 = lenD l := by
  obtain ⟨a, b, c, d, hs, ha, hb, hc, hd⟩ := head_split h
  generalize l.drop 8 = r at hs
  clear h
  subst hs
  have hl : (a ++ (b ++ (c ++ d))).length = 8 := by simp only [List.length_append]; omega
  have hh : hS (a ++ (b ++ (c ++ (d ++ r)))) = (a ++ (b ++ (c ++ d)), false) := by
    unfold hS
    rw [show a ++ (b ++ (c ++ (d ++ r))) = (a ++ (b ++ (c ++ d))) ++ r by simp only [List.append_assoc], List.take_left' hl]
  unfold tagA tagL typD lenD
  rw [hh, pI_app (k := 1) (z := 1) rfl ha (by decide), pI_app (k := 1) (z := 1) rfl ha (by decide)]
  dsimp only
  rw [pI_app (k := 2) (z := 2) rfl hb (by decide), pI_app (k := 2) (z := 2) rfl hb (by decide)]
  dsimp only
  rw [pI_app (k := 1) (z := 1) rfl hc (by decide), pI_app (k := 1) (z := 1) rfl hc (by decide)]
  dsimp only
  rw [pI_app (k := 4) (z := 4) rfl hd (by decide), pI_one (k := 4) (z := 4) rfl hd (by decide)]
  exact ⟨rfl, rfl, rfl, rfl⟩
theorem pI4_range (s : PS) : 0 ≤ (pI 4 s).1 ∧ (pI 4 s).1 < 4294967296 := by
  have key : num (taken s.1 s.2 4) < 256 ^ 4 := by
    unfold taken
    split
    · decide
    · rename_i h
      simp only [not_or] at h
      exact num_small 4 _ (by rw [List.length_take]; show min 4 _ = 4; omega)
  have h2 : (256 : Nat) ^ 4 = 4294967296 := by decide
  show 0 ≤ asInt _ ∧ asInt _ < _
  rw [asInt_small _ (by omega)]
  omega
theorem up8_word {n : Nat} (h : n % 8 = 0) : up8 n = n := by unfold up8; omega
theorem shortV_ref {k : Int} {b : List UInt8} : shortV k b = if k = 2 then (if 2147483648 ≤ (pI 4 (b, false)).1 then (pI 4 (b, false)).1 - 4294967296 else (pI 4 (b, false)).1) else (pI 4 (b, false)).1 := by
  have h : 0 ≤ (pI 4 (b, false)).1 ∧ (pI 4 (b, false)).1 < 4294967296 := pI4_range _
  unfold shortV
  split
  · generalize (pI 4 (b, false)).1 = z at *
    unfold wrap64 wrap32
    split <;> omega
  · rfl
end Go.Proofs.YtmpajhacigjloaaDoor
