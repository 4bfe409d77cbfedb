/- locksmithref10.Same: the walk. -/
import Derived.Test.YtgenbpndphdgnaaDoorSame
namespace Go.Proofs.YtgenbpndphdgnaaDoor
open Go.RowKit
set_option linter.unusedVariables false
set_option linter.unusedSimpArgs false
set_option maxRecDepth 100000
set_option maxHeartbeats 8000000

theorem RdC.toB {w : World} {a : Option Addr} {n : Nat} {l : List UInt8} (h : RdC w a n (l.map B8)) : RdB w a n l := by
  have hl : l.length = n := by simpa using h.len
  refine ⟨hl, fun j hj => ?_⟩
  obtain ⟨b, off, ha, hc⟩ := h.cell j hj
  refine ⟨b, off, ha, fun i hi => hc i _ ?_⟩
  rw [List.getElem?_map, List.getD_eq_getElem?_getD, List.getElem?_eq_getElem (by omega)]; rfl
theorem SlR.str {P : Program} {w : World} {s : Sl} {l : List UInt8} (h : SlR w s 1 (l.map B8)) (src dst e : TypeId) (hs : P.underlying src = some (.slice e)) (he : P.underlying e = some (.int .u8)) (hd : P.underlying dst = some .string) :
    (convert src dst (.slice s.a s.n s.c)).run P w = .ok (.string ⟨l.toArray⟩) w :=
  run_bytes_str (RdC.toB (by have := h.rd; rwa [Nat.mul_one] at this)) s.c src dst e hs he hd
/-- one string of a slice -/
theorem SlR.one {w : World} {s : Sl} {l : List ByteArray} (h : SlR w s 1 (l.map Value.string)) {k : Nat} (hk : k < s.n) : ∃ b off x, s.a = some ⟨b, off, none⟩ ∧ l[k]? = some x ∧ w.cell? ⟨b, off + k, none⟩ = some (.string x) := by
  have hl : l.length = s.n := by simpa using h.rd.len
  obtain ⟨b, off, ha, hc⟩ := h.rd.cell k (by omega)
  refine ⟨b, off, l[k]'(by omega), ha, List.getElem?_eq_getElem _, hc k _ ?_⟩
  rw [List.getElem?_map, List.getElem?_eq_getElem (by omega)]; rfl
theorem flat_get {α : Type} (f g : α → Value) (l : List α) (k : Nat) (x : α) (h : l[k]? = some x) : (l.flatMap fun x => [f x, g x])[k * 2]? = some (f x) ∧ (l.flatMap fun x => [f x, g x])[k * 2 + 1]? = some (g x) := by
  induction l generalizing k with
  | nil => simp at h
  | cons y l ih =>
    cases k with
    | zero => simp at h; subst h; exact ⟨rfl, rfl⟩
    | succ k =>
      simp at h
      obtain ⟨h1, h2⟩ := ih k h
      simp only [List.flatMap_cons, List.cons_append, List.nil_append]
      exact ⟨by rw [show (k + 1) * 2 = k * 2 + 2 by omega]; exact h1, by rw [show (k + 1) * 2 + 1 = k * 2 + 1 + 2 by omega]; exact h2⟩
theorem flat_len {α : Type} (f g : α → Value) (l : List α) : (l.flatMap fun x => [f x, g x]).length = l.length * 2 := by
  induction l with
  | nil => rfl
  | cons x l ih => simp only [List.flatMap_cons, List.length_append, ih, List.length_cons, List.length_nil]; omega
/-- one pair of a slice -/
theorem SlR.pair {α : Type} {f g : α → Value} {w : World} {s : Sl} {l : List α} (h : SlR w s 2 (l.flatMap fun x => [f x, g x])) {k : Nat} (hk : k < s.n) : ∃ b off x, s.a = some ⟨b, off, none⟩ ∧ l[k]? = some x ∧ w.cell? ⟨b, off + k * 2, none⟩ = some (f x) ∧ w.cell? ⟨b, off + k * 2 + 1, none⟩ = some (g x) := by
  have hl : l.length = s.n := by have := h.rd.len; rw [flat_len] at this; omega
  obtain ⟨b, off, ha, hc⟩ := h.rd.cell (k * 2) (by omega)
  obtain ⟨x, hx⟩ : ∃ x, l[k]? = some x := ⟨l[k]'(by omega), List.getElem?_eq_getElem _⟩
  obtain ⟨h1, h2⟩ := flat_get f g l k x hx
  exact ⟨b, off, x, ha, hx, hc _ _ h1, by have := hc _ _ h2; rwa [← Nat.add_assoc] at this⟩
theorem SlR.len1 {w : World} {s : Sl} {xs : List Value} (h : SlR w s 1 xs) : s.n = xs.length := by have := h.rd.len; omega
theorem SlR.len2 {w : World} {s : Sl} {xs : List Value} (h : SlR w s 2 xs) : s.n * 2 = xs.length := by have := h.rd.len; omega
theorem SlR.drewN {w : World} {s : Sl} {size : Nat} {xs : List Value} (h : SlR w s size xs) (n : Nat) : SlR (w.drewN n) s size xs := h.below ⟨rfl, rfl, rfl, Nat.le_refl _, fun _ _ => rfl⟩

end Go.Proofs.YtgenbpndphdgnaaDoor
