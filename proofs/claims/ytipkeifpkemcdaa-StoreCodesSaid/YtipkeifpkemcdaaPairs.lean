/- Rows of two-cell elements; lists that go together. -/
import Derived.Test.YtipkeifpkemcdaaMem
namespace Go.Proofs.Ytipkeifpkemcdaa
open Go.RowKit
set_option linter.unusedVariables false
set_option linter.unusedSimpArgs false

def pairs (l : List (Value × Value)) : List Value := l.flatMap fun x => [x.1, x.2]
theorem pairs_nil : pairs [] = [] := rfl
theorem pairs_cons (x : Value × Value) (l : List (Value × Value)) : pairs (x :: l) = x.1 :: x.2 :: pairs l := rfl
theorem pairs_append (l r : List (Value × Value)) : pairs (l ++ r) = pairs l ++ pairs r := by simp [pairs]
theorem pairs_len (l : List (Value × Value)) : (pairs l).length = l.length * 2 := by
  induction l with
  | nil => rfl
  | cons x l ih => rw [pairs_cons]; simp [ih]; omega
theorem pairs_get0 (l : List (Value × Value)) : ∀ i, (pairs l)[i * 2]? = (l[i]?).map (·.1) := by
  induction l with
  | nil => intro i; simp [pairs_nil]
  | cons x l ih =>
    intro i
    rw [pairs_cons]
    cases i with
    | zero => simp
    | succ i => rw [show (i + 1) * 2 = i * 2 + 1 + 1 by omega]; simp [ih]
theorem pairs_get1 (l : List (Value × Value)) : ∀ i, (pairs l)[i * 2 + 1]? = (l[i]?).map (·.2) := by
  induction l with
  | nil => intro i; simp [pairs_nil]
  | cons x l ih =>
    intro i
    rw [pairs_cons]
    cases i with
    | zero => simp
    | succ i => rw [show (i + 1) * 2 + 1 = i * 2 + 1 + 1 + 1 by omega]; simp [ih]
theorem pairs_set (l : List (Value × Value)) (y : Value × Value) : ∀ i, ((pairs l).set (i * 2) y.1).set (i * 2 + 1) y.2 = pairs (l.set i y) := by
  induction l with
  | nil => intro i; simp [pairs_nil]
  | cons x l ih =>
    intro i
    rw [pairs_cons]
    cases i with
    | zero => simp [pairs_cons]
    | succ i => rw [show (i + 1) * 2 = i * 2 + 1 + 1 by omega]; simp [pairs_cons, ← ih]

/-- Two lists that go together, place by place. -/
def All2 {α β : Type} (R : α → β → Prop) (xs : List α) (ys : List β) : Prop :=
  xs.length = ys.length ∧ ∀ (i : Nat) x y, xs[i]? = some x → ys[i]? = some y → R x y
section
variable {α β : Type} {R R' : α → β → Prop}
theorem All2.nil : All2 R [] [] := ⟨rfl, fun i x y h => by simp at h⟩
theorem All2.mono {xs : List α} {ys : List β} (h : All2 R xs ys) (hm : ∀ x y, x ∈ xs → y ∈ ys → R x y → R' x y) : All2 R' xs ys :=
  ⟨h.1, fun i x y hx hy => hm x y (List.mem_of_getElem? hx) (List.mem_of_getElem? hy) (h.2 i x y hx hy)⟩
theorem All2.snoc {xs : List α} {ys : List β} {x : α} {y : β} (h : All2 R xs ys) (hxy : R x y) : All2 R (xs ++ [x]) (ys ++ [y]) := by
  refine ⟨by simp [h.1], fun i a b ha hb => ?_⟩
  rw [List.getElem?_append] at ha hb
  by_cases hi : i < xs.length
  · rw [if_pos hi] at ha
    rw [if_pos (h.1 ▸ hi)] at hb
    exact h.2 i a b ha hb
  · rw [if_neg hi] at ha
    rw [if_neg (h.1 ▸ hi)] at hb
    rw [← h.1] at hb
    cases hk : i - xs.length with
    | zero => rw [hk] at ha hb; simp at ha hb; subst ha; subst hb; exact hxy
    | succ k => rw [hk] at ha; simp at ha
theorem All2.set {xs : List α} {ys : List β} {x : α} {y : β} (h : All2 R xs ys) (hxy : R x y) (k : Nat) : All2 R (xs.set k x) (ys.set k y) := by
  refine ⟨by simp [h.1], fun i a b ha hb => ?_⟩
  rw [List.getElem?_set] at ha hb
  by_cases hk : k = i
  · subst hk
    rw [if_pos rfl] at ha hb
    split at ha
    · rw [if_pos (h.1 ▸ ‹_›)] at hb
      cases ha; cases hb; exact hxy
    · cases ha
  · rw [if_neg hk] at ha hb
    exact h.2 i a b ha hb
theorem All2.get {xs : List α} {ys : List β} (h : All2 R xs ys) {i : Nat} {y : β} (hy : ys[i]? = some y) : ∃ x, xs[i]? = some x ∧ R x y := by
  have hi : i < ys.length := (List.getElem?_eq_some_iff.1 hy).1
  have hx : xs[i]? = some (xs[i]'(h.1 ▸ hi)) := List.getElem?_eq_getElem _
  exact ⟨_, hx, h.2 i _ _ hx hy⟩
theorem All2.of_get {xs : List α} {ys : List β} (h : All2 R xs ys) {i : Nat} {x : α} (hx : xs[i]? = some x) : ∃ y, ys[i]? = some y ∧ R x y := by
  have hi : i < xs.length := (List.getElem?_eq_some_iff.1 hx).1
  have hy : ys[i]? = some (ys[i]'(h.1 ▸ hi)) := List.getElem?_eq_getElem _
  exact ⟨_, hy, h.2 i _ _ hx hy⟩
end
end Go.Proofs.Ytipkeifpkemcdaa
