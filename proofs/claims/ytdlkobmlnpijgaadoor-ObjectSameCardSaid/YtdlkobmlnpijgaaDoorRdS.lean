/- A reader of bytes, told by what is left. -/
import Derived.Test.YtdlkobmlnpijgaaDoorOctet
import Derived.Test.YtdlkobmlnpijgaaDoorObjLaw
namespace Go.Proofs.YtdlkobmlnpijgaaDoor
open Go.RowKit
set_option linter.unusedVariables false
set_option linter.unusedSimpArgs false
/-- The reader in block p; its blocks are of F. -/
def RdS (T : TypeId) (w : World) (p : Nat) (s : PS) (F : List Nat) : Prop := s.1.length ≤ 140737488355328 ∧ ∃ F', Rr T w p s.1 s.2 F' ∧ (∀ q ∈ F', q ∈ F)
section
variable {T : TypeId} {w w' : World} {p : Nat} {s : PS} {F G : List Nat}
theorem RdS.keep (h : RdS T w p s F) (hc : Chg G w w') (hd : ∀ k ∈ F, k ∉ G) : RdS T w' p s F :=
  let ⟨hl, F', h1, h2⟩ := h
  ⟨hl, F', h1.keep hc (fun k hk => hd k (h2 k hk)), h2⟩
theorem RdS.below (h : RdS T w p s F) (hb : Below w.heap.size w w') : RdS T w' p s F := h.keep (Chg.of_below hb []) (fun _ _ hm => by cases hm)
theorem RdS.mem (h : RdS T w p s F) : p ∈ F := by
  obtain ⟨hl, F', ⟨a, n, c, hn, h1, h2, h3, h4, h5, rfl⟩, h6⟩ := h
  exact h6 p (by simp)
theorem RdS.lt (h : RdS T w p s F) : p < w.heap.size := by
  obtain ⟨hl, F', ⟨a, n, c, hn, h1, h2, h3, h4, h5, rfl⟩, h6⟩ := h
  exact block_lt h1
theorem RdS.mono (h : RdS T w p s F) (hF : ∀ q ∈ F, q ∈ G) : RdS T w p s G :=
  let ⟨hl, F', h1, h2⟩ := h
  ⟨hl, F', h1, fun q hq => hF q (h2 q hq)⟩
theorem Chg.same1 {p : Nat} (a b c : World) (h : Chg [p] a b) (k : Chg [p] b c) : Chg [p] a c := h.trans k (fun q hq => .inl hq)
end
theorem soU8_any (p : Nat) (s : PS) (F : List Nat) (w : World) (h : RdS 121 w p s F) :
    Calls Tryd.prog 38 #[.pointer (some ⟨p, 0, none⟩)] w fun e w' => e = .returned (.int .i64 (pI 1 s).1) ∧ Chg [p] w w' ∧ RdS 121 w' p (pI 1 s).2 F := by
  obtain ⟨hl, F', hr, hF⟩ := h
  refine (oRU8_any p s.1 s.2 F' w hr hl).mono ?_
  rintro e w' ⟨rfl, hc, F2, h1, h2⟩
  exact ⟨rfl, hc, Nat.le_trans (rest_len _ _ _) hl, F2, h1, fun q hq => hF q (h2 q hq)⟩
theorem soU32_any (p : Nat) (s : PS) (F : List Nat) (w : World) (h : RdS 121 w p s F) :
    Calls Tryd.prog 39 #[.pointer (some ⟨p, 0, none⟩)] w fun e w' => e = .returned (.int .i64 (pI 4 s).1) ∧ Chg [p] w w' ∧ RdS 121 w' p (pI 4 s).2 F := by
  obtain ⟨hl, F', hr, hF⟩ := h
  refine (oRU32_any p s.1 s.2 F' w hr hl).mono ?_
  rintro e w' ⟨rfl, hc, F2, h1, h2⟩
  exact ⟨rfl, hc, Nat.le_trans (rest_len _ _ _) hl, F2, h1, fun q hq => hF q (h2 q hq)⟩
theorem soU64_any (p : Nat) (s : PS) (F : List Nat) (w : World) (h : RdS 121 w p s F) :
    Calls Tryd.prog 97 #[.pointer (some ⟨p, 0, none⟩)] w fun e w' => e = .returned (.int .u64 ((num (taken s.1 s.2 8) : Nat) : Int)) ∧ Chg [p] w w' ∧ RdS 121 w' p (pI 8 s).2 F := by
  obtain ⟨hl, F', hr, hF⟩ := h
  refine (oRU64_any p s.1 s.2 F' w hr hl).mono ?_
  rintro e w' ⟨rfl, hc, F2, h1, h2⟩
  exact ⟨rfl, hc, Nat.le_trans (rest_len _ _ _) hl, F2, h1, fun q hq => hF q (h2 q hq)⟩
theorem soShort_any (p : Nat) (s : PS) (F : List Nat) (w : World) (h : RdS 121 w p s F) :
    Calls Tryd.prog 40 #[.pointer (some ⟨p, 0, none⟩)] w fun e w' => ∃ a' n' c', e = .returned (.slice a' n' c') ∧ w'.ownsRow w.heap.size 5 1 (.slice a' n' c') n' ((pS s).1.map B8) ∧ Chg [p] w w' ∧ RdS 121 w' p (pS s).2 F := by
  obtain ⟨hl, F', hr, hF⟩ := h
  refine (oRShort_any p s.1 s.2 F' w hr hl).mono ?_
  rintro e w' ⟨a, n, c, rfl, ho, hc, F2, h1, h2⟩
  exact ⟨a, n, c, rfl, ho, hc, Nat.le_trans (rest_len _ _ _) (Nat.le_trans (rest_len _ _ _) hl), F2, h1, fun q hq => hF q (h2 q hq)⟩
theorem srU8_any (p : Nat) (s : PS) (F : List Nat) (w : World) (h : RdS 107 w p s F) :
    Calls Tryd.prog 69 #[.pointer (some ⟨p, 0, none⟩)] w fun e w' => e = .returned (.int .i64 (pI 1 s).1) ∧ Chg [p] w w' ∧ RdS 107 w' p (pI 1 s).2 F := by
  obtain ⟨hl, F', hr, hF⟩ := h
  refine (rRU8_any p s.1 s.2 F' w hr hl).mono ?_
  rintro e w' ⟨rfl, hc, F2, h1, h2⟩
  exact ⟨rfl, hc, Nat.le_trans (rest_len _ _ _) hl, F2, h1, fun q hq => hF q (h2 q hq)⟩
theorem srU32_any (p : Nat) (s : PS) (F : List Nat) (w : World) (h : RdS 107 w p s F) :
    Calls Tryd.prog 70 #[.pointer (some ⟨p, 0, none⟩)] w fun e w' => e = .returned (.int .i64 (pI 4 s).1) ∧ Chg [p] w w' ∧ RdS 107 w' p (pI 4 s).2 F := by
  obtain ⟨hl, F', hr, hF⟩ := h
  refine (rRU32_any p s.1 s.2 F' w hr hl).mono ?_
  rintro e w' ⟨rfl, hc, F2, h1, h2⟩
  exact ⟨rfl, hc, Nat.le_trans (rest_len _ _ _) hl, F2, h1, fun q hq => hF q (h2 q hq)⟩
theorem srU64_any (p : Nat) (s : PS) (F : List Nat) (w : World) (h : RdS 107 w p s F) :
    Calls Tryd.prog 71 #[.pointer (some ⟨p, 0, none⟩)] w fun e w' => e = .returned (.int .u64 ((num (taken s.1 s.2 8) : Nat) : Int)) ∧ Chg [p] w w' ∧ RdS 107 w' p (pI 8 s).2 F := by
  obtain ⟨hl, F', hr, hF⟩ := h
  refine (rRU64_any p s.1 s.2 F' w hr hl).mono ?_
  rintro e w' ⟨rfl, hc, F2, h1, h2⟩
  exact ⟨rfl, hc, Nat.le_trans (rest_len _ _ _) hl, F2, h1, fun q hq => hF q (h2 q hq)⟩
theorem srShort_any (p : Nat) (s : PS) (F : List Nat) (w : World) (h : RdS 107 w p s F) :
    Calls Tryd.prog 68 #[.pointer (some ⟨p, 0, none⟩)] w fun e w' => ∃ a' n' c', e = .returned (.slice a' n' c') ∧ w'.ownsRow w.heap.size 5 1 (.slice a' n' c') n' ((pS s).1.map B8) ∧ Chg [p] w w' ∧ RdS 107 w' p (pS s).2 F := by
  obtain ⟨hl, F', hr, hF⟩ := h
  refine (rRShort_any p s.1 s.2 F' w hr hl).mono ?_
  rintro e w' ⟨a, n, c, rfl, ho, hc, F2, h1, h2⟩
  exact ⟨a, n, c, rfl, ho, hc, Nat.le_trans (rest_len _ _ _) (Nat.le_trans (rest_len _ _ _) hl), F2, h1, fun q hq => hF q (h2 q hq)⟩
theorem soLack_any (p : Nat) (s : PS) (F : List Nat) (w : World) (h : RdS 121 w p s F) :
    Calls Tryd.prog 48 #[.pointer (some ⟨p, 0, none⟩)] w fun e w' => e = .returned (.bool s.2) ∧ w = w' := by
  obtain ⟨hl, F', hr, hF⟩ := h
  exact oLack_any p s.1 s.2 F' w hr
end Go.Proofs.YtdlkobmlnpijgaaDoor
