/- PayBack: the plain law. -/
import Derived.Test.YtpcbofgjnbdfhaaPay5
namespace Go.Proofs.Ytpcbofgjnbdfhaa
open Go.RowKit
set_option linter.unusedVariables false
set_option linter.unusedSimpArgs false
def bkKid (a j : Nat) : Itm := { tag := 100 + (a : Int), typ := 2, int := 10 * (a : Int) + (j : Int) }
def bkGrp (a n : Nat) : List Itm := (List.range n).map (bkKid a)
def bkFld (a n : Nat) : Fld := { tag := 100 + (a : Int), typ := 2, need := decide (0 < n), many := decide ((1 : Int) < (n : Int)) }
def bkFlds (f : Nat → Nat) (m : Nat) : List Fld := (List.range m).map fun a => bkFld a (f a)
def bkKids (f : Nat → Nat) (i : Nat) : List Itm := (List.range i).flatMap fun a => bkGrp a (f a)
def bkRows (f : Nat → Nat) (m i : Nat) : List (List Itm) := (List.range m).map fun a => if a < i then bkGrp a (f a) else []
theorem bkKids_succ (f : Nat → Nat) (i : Nat) : bkKids f (i + 1) = bkKids f i ++ bkGrp i (f i) := by
  unfold bkKids; rw [List.range_succ, List.flatMap_append]; simp
theorem bkFlds_get (f : Nat → Nat) (m k : Nat) (h : k < m) : (bkFlds f m)[k]? = some (bkFld k (f k)) := by
  unfold bkFlds; rw [List.getElem?_map, List.getElem?_range h]; rfl
theorem bkFlds_len (f : Nat → Nat) (m : Nat) : (bkFlds f m).length = m := by simp [bkFlds]
theorem bkRows_len (f : Nat → Nat) (m i : Nat) : (bkRows f m i).length = m := by simp [bkRows]
theorem bkRows_get (f : Nat → Nat) (m i k : Nat) (h : k < m) : (bkRows f m i)[k]? = some (if k < i then bkGrp k (f k) else []) := by
  unfold bkRows; rw [List.getElem?_map, List.getElem?_range h]; rfl
theorem bkPlace (f : Nat → Nat) (m i : Nat) (hi : i < m) : ∀ d k, i = k + d → placeN (bkFlds f m) k (100 + (i : Int)) = some i := by
  intro d
  induction d with
  | zero =>
    intro k hk
    have : k = i := by omega
    subst this
    rcases place_step (tag := 100 + (k : Int)) (bkFlds_get f m k hi) with ⟨_, h⟩ | ⟨h, _⟩
    · exact h
    · simp [bkFld] at h
  | succ d ih =>
    intro k hk
    rcases place_step (tag := 100 + (i : Int)) (bkFlds_get f m k (by omega)) with ⟨h, _⟩ | ⟨_, h⟩
    · simp [bkFld] at h; omega
    · rw [h]; exact ih (k + 1) (by omega)
theorem bkStep (f : Nat → Nat) (m i at_ j : Nat) (hi : i < m) (hat : at_ ≤ i) (rows : List (List Itm)) (hok : (rows.getD i []).length = 0 ∨ 1 < f i) :
    parseStep (bkFlds f m) (at_, rows) (bkKid i j) = .ok (i, rows.set i (rows.getD i [] ++ [bkKid i j])) := by
  unfold parseStep
  have h1 : placeN (bkFlds f m) at_ (bkKid i j).tag = some i := bkPlace f m i hi (i - at_) at_ (by omega)
  have h2 : (bkFlds f m).getD i default = bkFld i (f i) := by rw [List.getD_eq_getElem?_getD, bkFlds_get f m i hi]; rfl
  simp only [h1, h2]
  rw [if_neg, if_neg]
  · simp [bkKid, bkFld]
  · rintro ⟨h3, h4⟩
    rcases hok with h | h
    · exact h3 h
    · simp [bkFld] at h4; omega
/-- A group, kid by kid. -/
theorem bkGroup (f : Nat → Nat) (m i : Nat) (hi : i < m) (at_ : Nat) (hat : at_ ≤ i) (rows : List (List Itm)) (hr : rows[i]? = some []) :
    ∀ q, q ≤ f i → ∃ a2, a2 ≤ i ∧ (bkGrp i q).foldlM (parseStep (bkFlds f m)) (at_, rows) = .ok (a2, rows.set i (bkGrp i q)) := by
  intro q
  have hlt : i < rows.length := (List.getElem?_eq_some_iff.1 hr).1
  have hri := (List.getElem?_eq_some_iff.1 hr).2
  induction q with
  | zero =>
    intro _
    refine ⟨at_, hat, ?_⟩
    have : rows.set i (bkGrp i 0) = rows := by
      have h0 : bkGrp i 0 = rows[i] := by rw [hri]; rfl
      rw [h0, List.set_getElem_self]
    rw [this]; rfl
  | succ q ih =>
    intro hq
    obtain ⟨a2, ha2, h⟩ := ih (by omega)
    refine ⟨i, Nat.le_refl _, ?_⟩
    have e : bkGrp i (q + 1) = bkGrp i q ++ [bkKid i q] := by unfold bkGrp; rw [List.range_succ, List.map_append]; rfl
    have hg : (rows.set i (bkGrp i q)).getD i [] = bkGrp i q := by rw [List.getD_eq_getElem?_getD, List.getElem?_set_self hlt]; rfl
    rw [e, List.foldlM_append, h]
    show (List.foldlM (parseStep (bkFlds f m)) (a2, rows.set i (bkGrp i q)) [bkKid i q]) = _
    rw [List.foldlM_cons, bkStep f m i a2 q hi ha2 _ ?_]
    · rw [hg, List.set_set]; rfl
    · rw [hg]
      rcases Nat.eq_zero_or_pos q with h0 | h0
      · left; subst h0; rfl
      · right; omega
theorem bkAll (f : Nat → Nat) (m : Nat) : ∀ i, i ≤ m → ∃ a, a ≤ i ∧ (bkKids f i).foldlM (parseStep (bkFlds f m)) (0, List.replicate m []) = .ok (a, bkRows f m i) := by
  intro i
  induction i with
  | zero =>
    intro _
    refine ⟨0, Nat.le_refl _, ?_⟩
    have : bkRows f m 0 = List.replicate m [] := by
      unfold bkRows
      rw [List.eq_replicate_iff]
      simp
    rw [this]; rfl
  | succ i ih =>
    intro hi
    obtain ⟨a, ha, h⟩ := ih (by omega)
    have hr : (bkRows f m i)[i]? = some [] := by rw [bkRows_get f m i i (by omega), if_neg (by omega)]
    obtain ⟨a2, ha2, h2⟩ := bkGroup f m i (by omega) a ha (bkRows f m i) hr (f i) (Nat.le_refl _)
    refine ⟨a2, by omega, ?_⟩
    have e : (bkRows f m i).set i (bkGrp i (f i)) = bkRows f m (i + 1) := by
      refine List.ext_getElem? fun k => ?_
      by_cases hk : k = i
      · subst hk
        rw [List.getElem?_set_self (by rw [bkRows_len]; omega), bkRows_get f m (k + 1) k (by omega), if_pos (by omega)]
      · rw [List.getElem?_set_ne (by omega)]
        rcases Nat.lt_or_ge k m with h' | h'
        · rw [bkRows_get f m i k h', bkRows_get f m (i + 1) k h']
          by_cases hki : k < i
          · rw [if_pos hki, if_pos (by omega)]
          · rw [if_neg hki, if_neg (by omega)]
        · rw [List.getElem?_eq_none (by rw [bkRows_len]; omega), List.getElem?_eq_none (by rw [bkRows_len]; omega)]
    rw [bkKids_succ, List.foldlM_append, h]
    show (List.foldlM (parseStep (bkFlds f m)) (a, bkRows f m i) (bkGrp i (f i))) = _
    rw [h2, e]
theorem bkParse (f : Nat → Nat) (m : Nat) (t : Int) : parseV (bkFlds f m) { tag := t, typ := 1, kids := bkKids f m } = .ok (bkRows f m m) := by
  obtain ⟨a, _, h⟩ := bkAll f m m (Nat.le_refl _)
  rw [parse_ok (st := (a, bkRows f m m)) rfl (by unfold parseKids; rw [bkFlds_len]; exact h), if_neg]
  rw [missing_no]
  · simp
  · intro k hk
    rw [bkFlds_len] at hk
    unfold missK
    have h2 : (bkFlds f m).getD k default = bkFld k (f k) := by rw [List.getD_eq_getElem?_getD, bkFlds_get f m k hk]; rfl
    have h3 : (bkRows f m m).getD k [] = bkGrp k (f k) := by rw [List.getD_eq_getElem?_getD, bkRows_get f m m k hk, if_pos hk]; rfl
    rw [h2, h3]
    cases hf : f k with
    | zero => simp [bkFld]
    | succ n => simp [bkFld, bkGrp]
end Go.Proofs.Ytpcbofgjnbdfhaa
