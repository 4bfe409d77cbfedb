/- The reference's right, Right. -/
import Derived.Test.YtmpajhacigjloaaDoorRefT1
namespace Go.Proofs.YtmpajhacigjloaaDoor
open Go.RowKit
set_option linter.unusedVariables false
set_option linter.unusedSimpArgs false
set_option maxRecDepth 100000
set_option maxHeartbeats 3200000
def rL (one : Itm → Nat × Bool) : List Itm → Nat → Nat × Bool
  | [], n => (n, true)
  | k :: r, n => if (one k).2 = false ∨ 600 < n + (one k).1 then (0, false) else rL one r (n + (one k).1)
def badB (k n : Int) (nd nk : Nat) : Bool := (k != 1 && decide (0 < nk)) || ((!isD k && decide (0 < nd)) || ((isD k || k == 1) && n != 0))
def rR : Nat → Itm → Nat × Bool
  | 0, _ => (0, false)
  | f + 1, i => if tagB i.tag = false then (0, false) else if badB i.typ i.int i.data.length i.kids.length = true then (0, false) else if i.typ = 1 then rL (rR f) i.kids 1 else (1, decide (1 ≤ i.typ) && (decide (i.typ ≤ 10) && (numB i.typ i.int && datB i.typ i.data)))
theorem rL_ge {one : Itm → Nat × Bool} : ∀ (l : List Itm) (n : Nat), (rL one l n).2 = true → n ≤ (rL one l n).1
  | [], n, _ => Nat.le_refl _
  | k :: r, n, h => by
    rw [rL] at h ⊢
    split at h
    · cases h
    · rename_i hc
      rw [if_neg hc]
      have := rL_ge r _ h
      omega
theorem rL_le {one : Itm → Nat × Bool} : ∀ (l : List Itm) (n : Nat), n ≤ 600 → (rL one l n).2 = true → (rL one l n).1 ≤ 600
  | [], n, h, _ => h
  | k :: r, n, hn, h => by
    rw [rL] at h ⊢
    split at h
    · cases h
    · rename_i hc
      rw [if_neg hc]
      exact rL_le r _ (by omega) h
theorem rR_le : ∀ (f : Nat) (i : Itm), (rR f i).2 = true → (rR f i).1 ≤ 600
  | 0, i, h => by cases h
  | f + 1, i, h => by
    rw [rR] at h ⊢
    split at h
    · cases h
    · rename_i h1
      rw [if_neg h1]
      split at h
      · cases h
      · rename_i h2
        rw [if_neg h2]
        split at h
        · rename_i h3
          rw [if_pos h3]
          exact rL_le _ _ (by decide) h
        · rename_i h3
          rw [if_neg h3]
          show 1 ≤ 600; decide
theorem walkL_rL {f : Nat} (IH : ∀ i c, walkP f i c = if (rR f i).2 = true ∧ c + (rR f i).1 ≤ 600 then some (c + (rR f i).1) else none) : ∀ (l : List Itm) (n c : Nat), n ≤ c → c ≤ 600 → walkL (walkP f) l c = if (rL (rR f) l n).2 = true ∧ c + ((rL (rR f) l n).1 - n) ≤ 600 then some (c + ((rL (rR f) l n).1 - n)) else none
  | [], n, c, hn, hc => by simp [walkL, rL, hc]
  | k :: r, n, c, hn, hc => by
    rw [walkL, IH k c, rL]
    by_cases hb : (rR f k).2 = true
    · by_cases h6 : 600 < n + (rR f k).1
      · have e : (if (rR f k).2 = false ∨ 600 < n + (rR f k).1 then ((0, false) : Nat × Bool) else rL (rR f) r (n + (rR f k).1)) = (0, false) := if_pos (.inr h6)
        rw [e, if_neg (fun h => by omega)]
        simp
      · rw [if_neg (show ¬ ((rR f k).2 = false ∨ 600 < n + (rR f k).1) from fun h => h.elim (fun h => by rw [hb] at h; cases h) h6)]
        by_cases h7 : c + (rR f k).1 ≤ 600
        · rw [if_pos ⟨hb, h7⟩]
          simp only
          rw [walkL_rL IH r (n + (rR f k).1) (c + (rR f k).1) (by omega) h7]
          by_cases h8 : (rL (rR f) r (n + (rR f k).1)).2 = true
          · have h9 := rL_ge r _ h8
            have e : c + (rR f k).1 + ((rL (rR f) r (n + (rR f k).1)).1 - (n + (rR f k).1)) = c + ((rL (rR f) r (n + (rR f k).1)).1 - n) := by omega
            rw [e]
          · rw [if_neg (fun h => h8 h.1), if_neg (fun h => h8 h.1)]
        · rw [if_neg (fun h => h7 h.2)]
          simp only
          rw [if_neg]
          intro h
          have h9 := rL_ge r _ h.1
          omega
    · have e : (if (rR f k).2 = false ∨ 600 < n + (rR f k).1 then ((0, false) : Nat × Bool) else rL (rR f) r (n + (rR f k).1)) = (0, false) := if_pos (.inl (by simpa using hb))
      rw [e, if_neg (fun h => hb h.1)]
      simp
theorem plain_rR {i : Itm} : i.plain = (tagB i.tag && (!badB i.typ i.int i.data.length i.kids.length && (decide (1 ≤ i.typ) && (decide (i.typ ≤ 10) && (numB i.typ i.int && datB i.typ i.data))))) := by
  unfold Itm.plain plainP badB
  rw [Bool.or_comm (i.typ == 1) (isD i.typ)]
  generalize (i.typ != 1 && decide (0 < i.kids.length)) = A
  generalize (!isD i.typ && decide (0 < i.data.length)) = B
  generalize ((isD i.typ || i.typ == 1) && i.int != 0) = C
  generalize decide (1 ≤ i.typ) = D
  generalize decide (i.typ ≤ 10) = E
  generalize numB i.typ i.int = G
  generalize datB i.typ i.data = H
  cases tagB i.tag <;> cases A <;> cases B <;> cases C <;> cases D <;> cases E <;> cases G <;> cases H <;> rfl
theorem walkP_rR : ∀ (f : Nat) (i : Itm) (c : Nat), walkP f i c = if (rR f i).2 = true ∧ c + (rR f i).1 ≤ 600 then some (c + (rR f i).1) else none
  | 0, i, c => by simp [walkP, rR]
  | f + 1, i, c => by
    have IH := walkP_rR f
    have hp := plain_rR (i := i)
    rw [walkP, rR]
    cases ht : tagB i.tag with
    | false =>
      rw [ht] at hp
      rw [if_pos rfl, if_neg (fun h => by rw [hp] at h; simp at h)]
      simp
    | true =>
      rw [if_neg (show ¬ (true = false) by decide)]
      cases hb : badB i.typ i.int i.data.length i.kids.length with
      | true =>
        rw [ht, hb] at hp
        rw [if_pos rfl, if_neg (fun h => by rw [hp] at h; simp at h)]
        simp
      | false =>
        rw [if_neg (show ¬ (false = true) by decide)]
        rw [ht, hb] at hp
        simp only [Bool.true_and, Bool.not_false] at hp
        by_cases h1 : i.typ = 1
        · rw [if_pos h1]
          have hpt : i.plain = true := by rw [hp, h1]; simp [numB, datB]
          by_cases hc : c + 1 ≤ 600
          · rw [if_pos ⟨hc, hpt⟩, walkL_rL IH i.kids 1 (c + 1) (by omega) hc]
            by_cases h8 : (rL (rR f) i.kids 1).2 = true
            · have h9 := rL_ge i.kids 1 h8
              rw [show c + 1 + ((rL (rR f) i.kids 1).1 - 1) = c + (rL (rR f) i.kids 1).1 by omega]
            · rw [if_neg (fun h => h8 h.1), if_neg (fun h => h8 h.1)]
          · rw [if_neg (fun h => hc h.1), if_neg]
            intro h
            have h9 := rL_ge i.kids 1 h.1
            omega
        · rw [if_neg h1, ← hp]
          have hk : i.kids = [] := by
            unfold badB at hb
            simp only [Bool.or_eq_false_iff] at hb
            have h2 := hb.1
            rw [show (i.typ != 1) = true by simpa using h1, Bool.true_and, decide_eq_false_iff_not] at h2
            exact List.length_eq_zero_iff.1 (by omega)
          rw [hk]
          cases hpl : i.plain with
          | true =>
            by_cases hc : c + 1 ≤ 600
            · rw [if_pos ⟨hc, rfl⟩, if_pos ⟨rfl, hc⟩]; rfl
            · rw [if_neg (fun h => hc h.1), if_neg (fun h => hc h.2)]
          | false => rw [if_neg (fun h => by cases h.2), if_neg (fun h => by cases h.1)]
theorem rightI_rR (i : Itm) : rightI i = ((rR 12 i).2 && decide (sizeF 100 i ≤ 8192)) := by
  unfold rightI
  rw [walkP_rR]
  by_cases h : (rR 12 i).2 = true
  · have := rR_le 12 i h
    rw [if_pos ⟨h, by omega⟩, h]; rfl
  · rw [if_neg (fun h' => h h'.1)]
    simp [h]
end Go.Proofs.YtmpajhacigjloaaDoor
