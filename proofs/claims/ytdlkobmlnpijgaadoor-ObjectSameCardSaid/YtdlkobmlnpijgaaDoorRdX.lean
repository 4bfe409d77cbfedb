/- A reader among operations in an open order: how many of its calls are done. -/
import Derived.Test.YtdlkobmlnpijgaaDoorRdS
import Derived.Test.YtdlkobmlnpijgaaDoorRegion
namespace Go.Proofs.YtdlkobmlnpijgaaDoor
open Go.RowKit
set_option linter.unusedVariables false
set_option linter.unusedSimpArgs false
def stAt (s0 : PS) (c : List (Nat × PS)) : Nat → PS
  | 0 => s0
  | k + 1 => (c.getD k (0, s0)).2
/-- c: which operation calls the reader, and what is left behind it. -/
def RdX (T : TypeId) (p : Nat) (F : List Nat) (s0 : PS) (c : List (Nat × PS)) (listed : Array Bool) (w : World) : Prop :=
  ∃ k, k ≤ c.length ∧ RdS T w p (stAt s0 c k) F ∧ ∀ j q, c[j]? = some q → listed.getD q.1 false = decide (j < k)
section
variable {T : TypeId} {p : Nat} {F : List Nat} {s0 s' : PS} {c : List (Nat × PS)} {listed : Array Bool} {w w' : World} {i : Nat}
theorem RdX.start (h : RdS T w p s0 F) (n : Nat) : RdX T p F s0 c (Array.replicate n false) w.drew := by
  refine ⟨0, Nat.zero_le _, h.keep (Chg.drew (Chg.refl [] w)) (fun _ _ hm => by cases hm), fun j q hq => ?_⟩
  have e : ∀ k, (Array.replicate n false).getD k false = false := fun k => by simp only [Array.getD_eq_getD_getElem?]; rcases Nat.lt_or_ge k n with h' | h' <;> simp [h', Nat.not_lt.2]
  rw [e]; simp
theorem RdX.same (h : RdX T p F s0 c listed w) (hi : (c.all fun x => x.1 != i) = true) : RdX T p F s0 c (listed.setIfInBounds i true) w := by
  obtain ⟨k, h1, h2, h3⟩ := h
  refine ⟨k, h1, h2, fun j q hq => ?_⟩
  have := List.all_eq_true.1 hi q (List.mem_of_getElem? hq)
  rw [getD_set_ne false (Ne.symm (by simpa using this))]
  exact h3 j q hq
theorem RdX.world (h : RdX T p F s0 c listed w) (h' : ∀ s, RdS T w p s F → RdS T w' p s F) : RdX T p F s0 c listed w' :=
  let ⟨k, h1, h2, h3⟩ := h
  ⟨k, h1, h' _ h2, h3⟩
theorem RdX.cnt (h : RdX T p F s0 c listed w) (m : Nat) (hm : c[m]? = some (i, s')) (hs : listed.getD i false = false) (hp : m = 0 ∨ ∃ q, c[m - 1]? = some q ∧ listed.getD q.1 false = true) :
    RdS T w p (stAt s0 c m) F ∧ ∀ j q, c[j]? = some q → listed.getD q.1 false = decide (j < m) := by
  obtain ⟨k, h1, h2, h3⟩ := h
  have a := h3 m _ hm
  rw [hs] at a
  have hk : k ≤ m := by simpa using a.symm
  have hk2 : k = m := by
    rcases hp with rfl | ⟨q, hq, hl⟩
    · omega
    · have b := h3 _ _ hq
      rw [hl] at b
      have : m - 1 < k := by simpa using b.symm
      omega
  subst hk2
  exact ⟨h2, h3⟩
theorem RdX.at (h : RdX T p F s0 c listed w) (m : Nat) (hm : c[m]? = some (i, s')) (hs : listed.getD i false = false) (hp : m = 0 ∨ ∃ q, c[m - 1]? = some q ∧ listed.getD q.1 false = true) : RdS T w p (stAt s0 c m) F := (h.cnt m hm hs hp).1
theorem RdX.step (h : RdX T p F s0 c listed w) (m : Nat) (hm : c[m]? = some (i, s')) (hs : listed.getD i false = false) (hp : m = 0 ∨ ∃ q, c[m - 1]? = some q ∧ listed.getD q.1 false = true) (hn : (c.map (·.1)).Nodup) (hi : i < listed.size)
    (h' : RdS T w' p s' F) : RdX T p F s0 c (listed.setIfInBounds i true) w' := by
  obtain ⟨-, h3⟩ := h.cnt m hm hs hp
  refine ⟨m + 1, ?_, ?_, fun j q hq => ?_⟩
  · exact (List.getElem?_eq_some_iff.1 hm).1
  · show RdS T w' p (c.getD m (0, s0)).2 F
    rw [List.getD_eq_getElem?_getD, hm]; exact h'
  · by_cases hj : j = m
    · subst hj
      rw [hm] at hq
      cases hq
      simp [hi]
    · have hne : q.1 ≠ i := by
        intro e
        have h1 : (c.map (·.1))[j]? = some i := by rw [List.getElem?_map, hq]; simp [e]
        have h2 : (c.map (·.1))[m]? = some i := by rw [List.getElem?_map, hm]; rfl
        have hl : j < (c.map (·.1)).length := (List.getElem?_eq_some_iff.1 h1).1
        exact hj ((List.getElem?_inj hl hn).1 (h1.trans h2.symm))
      rw [getD_set_ne false hne.symm, h3 j q hq]
      simp only [decide_eq_decide]
      omega
theorem RdX.fin (h : RdX T p F s0 c listed w) {m : Nat} (hm : ∀ j, j < m → listed.getD j false = true) (hc : (c.all fun x => decide (x.1 < m)) = true) : RdS T w p (stAt s0 c c.length) F := by
  obtain ⟨k, h1, h2, h3⟩ := h
  have hl : ∀ q ∈ c, listed.getD q.1 false = true := fun q hq => hm _ (by have := List.all_eq_true.1 hc q hq; simpa using this)
  have : k = c.length := by
    rcases Nat.lt_or_eq_of_le h1 with h | h
    · have a := h3 k _ (List.getElem?_eq_getElem h)
      rw [hl _ (List.getElem_mem h)] at a
      simp at a
    · exact h
  rwa [this] at h2
theorem RdX.at0 (h : RdX T p F s0 c listed w) (hm : c[0]? = some (i, s')) (hs : listed.getD i false = false) : RdS T w p s0 F := h.at 0 hm hs (.inl rfl)
theorem RdX.at1 {j : Nat} {s : PS} (h : RdX T p F s0 c listed w) (m : Nat) (hm0 : c[m]? = some (j, s)) (hm : c[m + 1]? = some (i, s')) (hs : listed.getD i false = false) (hj : listed.getD j false = true) : RdS T w p s F := by
  have h1 := h.at (m + 1) hm hs (.inr ⟨_, hm0, hj⟩)
  have e : stAt s0 c (m + 1) = s := by show (c.getD m (0, s0)).2 = s; rw [List.getD_eq_getElem?_getD, hm0]; rfl
  rwa [e] at h1
theorem RdX.end1 {j : Nat} {s : PS} (h : RdX T p F s0 c listed w) {m : Nat} (hm : ∀ j, j < m → listed.getD j false = true) (hc : (c.all fun x => decide (x.1 < m)) = true) (hl : c.getLast? = some (j, s)) : RdS T w p s F := by
  have h1 := h.fin hm hc
  have e : stAt s0 c c.length = s := by
    rw [List.getLast?_eq_getElem?] at hl
    cases hn : c.length with
    | zero => rw [hn, List.length_eq_zero_iff.1 hn] at hl; cases hl
    | succ k =>
      rw [hn] at hl
      show (c.getD k (0, s0)).2 = s
      rw [List.getD_eq_getElem?_getD, show c[k]? = some (j, s) from hl]; rfl
  rwa [e] at h1
end
theorem Up.lt' {md : Region.Mode} {ops : Array Oper} {listed : Array Bool} {i : Nat} {o : Oper} (h : Up md ops listed i o) : i < listed.size := by rw [h.size]; exact h.lt
end Go.Proofs.YtdlkobmlnpijgaaDoor
