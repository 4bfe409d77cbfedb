/- ttlv, plain: what is decoded has numbers that are; what is cut is refused; an item of raw rows is small. -/
import Derived.Test.YtmpajhacigjloaaDoorTtlL
import Derived.Test.YtmpajhacigjloaaDoorTree6
namespace Go.Proofs.YtmpajhacigjloaaDoor
open Go.RowKit
set_option linter.unusedVariables false
set_option linter.unusedSimpArgs false
set_option maxRecDepth 100000
set_option maxHeartbeats 3200000
theorem padE_ne : ∀ (g : Nat) (b : List UInt8) (j : Nat) (e : Int), padE b g j = some e → e ≠ 0
  | 0, b, j, e, h => by simp [padE] at h
  | g + 1, b, j, e, h => by
    rw [padE] at h
    split at h
    · simp only [Option.some.injEq] at h; omega
    · split at h
      · exact padE_ne g b (j + 1) e h
      · simp only [Option.some.injEq] at h; omega
theorem kidsD_ne {one : List UInt8 → Nat → DR} (h1 : ∀ l c e, one l c = .err e → e ≠ 0) : ∀ (g : Nat) (l : List UInt8) (c : Nat) (acc : List Itm) (e : Int), kidsD one g l c acc = .err e → e ≠ 0
  | 0, l, c, acc, e, h => by simp [kidsD] at h
  | g + 1, l, c, acc, e, h => by
    rw [kidsD] at h
    split at h
    · cases h
    · cases h2 : one l c with
      | err z =>
        rw [h2] at h
        simp only [KR.err.injEq] at h
        subst h
        exact h1 l c z h2
      | ok i r d =>
        rw [h2] at h
        exact kidsD_ne h1 g r d (acc ++ [i]) e h
theorem decF_ne : ∀ (f : Nat) (l : List UInt8) (c : Nat) (e : Int), decF f l c = .err e → e ≠ 0
  | 0, l, c, e, h => by
    rw [decF] at h
    split at h <;> (simp only [DR.err.injEq] at h; omega)
  | f + 1, l, c, e, h => by
    rw [decF] at h
    split at h
    · simp only [DR.err.injEq] at h; omega
    · split at h
      · simp only [DR.err.injEq] at h; omega
      · split at h
        · simp only [DR.err.injEq] at h; omega
        · split at h
          · simp only [DR.err.injEq] at h; omega
          · cases h2 : bodyD (decF f) (typD l) ((l.drop 8).take (lenD l).toNat) (c + 1) with
            | err z =>
              rw [h2] at h
              simp only [DR.err.injEq] at h
              subst h
              unfold bodyD at h2
              split at h2
              · cases h4 : kidsD (decF f) ((l.drop 8).take (lenD l).toNat).length ((l.drop 8).take (lenD l).toNat) (c + 1) [] with
                | err y =>
                  rw [h4] at h2
                  simp only [BR.err.injEq] at h2
                  subst h2
                  exact kidsD_ne (fun l c e h => decF_ne f l c e h) _ _ _ _ _ h4
                | ok ks c3 => rw [h4] at h2; cases h2
              · split at h2
                · split at h2
                  · cases h2
                  · simp only [BR.err.injEq] at h2; omega
                · split at h2
                  · cases h2
                  · split at h2
                    · cases h2
                    · simp only [BR.err.injEq] at h2; omega
            | ok n d ks c2 =>
              rw [h2] at h
              simp only at h
              cases h3 : padE (l.drop 8) (up8 (lenD l).toNat - (lenD l).toNat) (lenD l).toNat with
              | some z =>
                rw [h3] at h
                simp only [DR.err.injEq] at h
                subst h
                exact padE_ne _ _ _ _ h3
              | none => rw [h3] at h; cases h
theorem wrap64_in (z : Int) : -9223372036854775808 ≤ wrap64 z ∧ wrap64 z < 9223372036854775808 := by unfold wrap64; omega
theorem pI_in (n : Int) (s : PS) : -9223372036854775808 ≤ (pI n s).1 ∧ (pI n s).1 < 9223372036854775808 := by
  show -9223372036854775808 ≤ asInt _ ∧ asInt _ < _
  rw [← asInt_eq]
  exact wrap64_in _
theorem kidsD_fit {one : List UInt8 → Nat → DR} (h1 : ∀ l c i r c', one l c = .ok i r c' → i.fit) : ∀ (g : Nat) (l : List UInt8) (c : Nat) (acc ks : List Itm) (c' : Nat), kidsD one g l c acc = .ok ks c' → (∀ x ∈ acc, x.fit) → ∀ x ∈ ks, x.fit
  | 0, l, c, acc, ks, c', h, ha => by
    simp only [kidsD, KR.ok.injEq] at h
    obtain ⟨rfl, rfl⟩ := h
    exact ha
  | g + 1, l, c, acc, ks, c', h, ha => by
    rw [kidsD] at h
    split at h
    · simp only [KR.ok.injEq] at h
      obtain ⟨rfl, rfl⟩ := h
      exact ha
    · cases h2 : one l c with
      | err e => rw [h2] at h; cases h
      | ok i r d =>
        rw [h2] at h
        refine kidsD_fit h1 g r d (acc ++ [i]) ks c' h fun x hx => ?_
        rcases List.mem_append.1 hx with h' | h'
        · exact ha x h'
        · rw [List.mem_singleton.1 h']; exact h1 l c i r d h2
theorem dec_fit : ∀ (f : Nat) (l : List UInt8) (c : Nat) (i : Itm) (r : List UInt8) (c' : Nat), decF f l c = .ok i r c' → i.fit
  | 0, l, c, i, r, c', h => by
    rw [decF] at h
    split at h <;> cases h
  | f + 1, l, c, i, r, c', h => by
    rw [decF] at h
    split at h
    · cases h
    · split at h
      · cases h
      · split at h
        · cases h
        · split at h
          · cases h
          · cases h2 : bodyD (decF f) (typD l) ((l.drop 8).take (lenD l).toNat) (c + 1) with
            | err z => rw [h2] at h; cases h
            | ok n d ks c2 =>
              rw [h2] at h
              simp only at h
              cases h3 : padE (l.drop 8) (up8 (lenD l).toNat - (lenD l).toNat) (lenD l).toNat with
              | some z => rw [h3] at h; cases h
              | none =>
                rw [h3] at h
                simp only [DR.ok.injEq] at h
                obtain ⟨rfl, _, _⟩ := h
                rw [fit_iff]
                unfold bodyD at h2
                split at h2
                · cases h4 : kidsD (decF f) ((l.drop 8).take (lenD l).toNat).length ((l.drop 8).take (lenD l).toNat) (c + 1) [] with
                  | err y => rw [h4] at h2; cases h2
                  | ok ks2 c3 =>
                    rw [h4] at h2
                    simp only [BR.ok.injEq] at h2
                    obtain ⟨rfl, rfl, rfl, rfl⟩ := h2
                    exact ⟨(by show (-9223372036854775808 : Int) ≤ 0 ∧ (0 : Int) < 9223372036854775808; decide), kidsD_fit (fun l c i r c' h => dec_fit f l c i r c' h) _ _ _ _ _ _ h4 (fun x hx => by cases hx)⟩
                · split at h2
                  · split at h2
                    · simp only [BR.ok.injEq] at h2
                      obtain ⟨rfl, rfl, rfl, rfl⟩ := h2
                      exact ⟨(by show (-9223372036854775808 : Int) ≤ 0 ∧ (0 : Int) < 9223372036854775808; decide), fun x hx => by cases hx⟩
                    · cases h2
                  · split at h2
                    · simp only [BR.ok.injEq] at h2
                      obtain ⟨rfl, rfl, rfl, rfl⟩ := h2
                      refine ⟨?_, fun x hx => by cases hx⟩
                      show -9223372036854775808 ≤ shortV _ _ ∧ shortV _ _ < _
                      unfold shortV
                      split
                      · exact wrap64_in _
                      · exact pI_in _ _
                    · split at h2
                      · simp only [BR.ok.injEq] at h2
                        obtain ⟨rfl, rfl, rfl, rfl⟩ := h2
                        exact ⟨pI_in _ _, fun x hx => by cases hx⟩
                      · cases h2
theorem decP_fit {l : List UInt8} {i : Itm} (h : decP l = (i, 0)) : l = i.enc ∧ rightI i = true ∧ l.length ≤ 8192 ∧ i.fit := by
  obtain ⟨h1, h2, h3⟩ := decP_ok h (fun l c e h => decF_ne 12 l c e h)
  refine ⟨h1, h2, h3, ?_⟩
  unfold decP at h
  rw [if_neg (by omega)] at h
  cases h4 : decF 12 l 0 with
  | err e =>
    rw [h4] at h
    simp only [Prod.mk.injEq] at h
    exact absurd h.2 (decF_ne _ _ _ _ h4)
  | ok j r c =>
    rw [h4] at h
    simp only at h
    split at h
    · simp only [Prod.mk.injEq, and_true] at h
      subst h
      exact dec_fit _ _ _ _ _ _ h4
    · simp at h
/-- What is cut is refused. -/
theorem decP_cut {i : Itm} (h : rightI i = true) (hf : i.fit) {k : Nat} (hk : k < i.enc.length) : (decP (i.enc.take k)).2 ≠ 0 := by
  intro h0
  obtain ⟨h1, h2, _, h4⟩ := decP_fit (l := i.enc.take k) (i := (decP (i.enc.take k)).1) (Prod.ext rfl h0)
  generalize (decP (i.enc.take k)).1 = j at *
  obtain ⟨c, hc⟩ := right_dec h2 h4 (i.enc.drop k)
  obtain ⟨c2, hc2⟩ := right_dec h hf []
  rw [← h1, List.take_append_drop] at hc
  rw [List.append_nil, hc] at hc2
  simp only [DR.ok.injEq] at hc2
  have := congrArg List.length hc2.2.1
  simp only [List.length_drop, List.length_nil] at this
  omega
theorem enc_len8 (i : Itm) : 8 ≤ i.enc.length := by rw [enc_len]; have := (up8_ge (8 + (bodyI i).length)).1; omega
theorem R6Args.nb {w : World} {a : Option Addr} {n : Nat} {l : List R6} (h : R6Args w a n l) : ∀ x ∈ l, -9223372036854775808 ≤ x.n ∧ x.n ≤ 9223372036854775807 := fun x hx => by
  obtain ⟨k, hk⟩ := List.getElem?_of_mem hx
  obtain ⟨b, off, y, _, h2, _, h4⟩ := h.row k (by have := (List.getElem?_eq_some_iff.1 hk).1; have := h.len; omega)
  rw [hk] at h2
  cases h2
  exact h4.nb
theorem int6_in (k : Int) {n : Int} (h : -9223372036854775808 ≤ n ∧ n ≤ 9223372036854775807) : -9223372036854775808 ≤ int6 k n ∧ int6 k n < 9223372036854775808 := by
  unfold int6
  split
  · exact wrap64_in _
  · split
    · omega
    · split
      · omega
      · split
        · omega
        · omega
theorem odd6_kids (x : R6) (i : Itm) : (odd6 x i).kids = i.kids := by unfold odd6; (repeat' split) <;> rfl
theorem tree6_fit (l : List R6) (hl : ∀ x ∈ l, -9223372036854775808 ≤ x.n ∧ x.n ≤ 9223372036854775807) : ∀ (g a : Nat), (tree6 g l a).fit
  | 0, a => by rw [tree6, fit_iff]; exact ⟨by decide, fun x hx => by cases hx⟩
  | g + 1, a => by
    rw [tree6]
    split
    · rw [fit_iff]; exact ⟨by decide, fun x hx => by cases hx⟩
    · cases hx : l[a]? with
      | none => simp only; rw [fit_iff]; exact ⟨by decide, fun x hx => by cases hx⟩
      | some x =>
        simp only
        have hn := hl x (List.mem_of_getElem? hx)
        have hi := int6_in (typ6 x (kids6 (tree6 g l) l a l.length).isEmpty) hn
        rw [fit_iff, odd6_kids]
        refine ⟨?_, fun y hy => ?_⟩
        · unfold odd6
          split
          · simp only; omega
          · split
            · exact hi
            · split
              · exact hi
              · split
                · exact hi
                · exact hi
        · have hy2 : y ∈ kids6 (tree6 g l) l a l.length := hy
          unfold kids6 at hy2
          obtain ⟨k, _, rfl⟩ := List.mem_map.1 hy2
          exact tree6_fit l hl g k
end Go.Proofs.YtmpajhacigjloaaDoor
