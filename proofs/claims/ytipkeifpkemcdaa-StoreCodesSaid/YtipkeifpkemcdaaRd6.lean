/- A reader of bytes, told by what is left (without the objects). -/
import Derived.Test.YtipkeifpkemcdaaOctet
import Derived.Test.YtipkeifpkemcdaaOctBack
namespace Go.Proofs.Ytipkeifpkemcdaa
open Go.RowKit
set_option linter.unusedVariables false
set_option linter.unusedSimpArgs false
/-- What is left to be read, and whether something lacked. -/
abbrev PS := List UInt8 × Bool
def pI (n : Int) (p : PS) : Int × PS := (asInt (num (taken p.1 p.2 n)), (restOf p.1 p.2 n, lackOf p.1 p.2 n))
/-- The reader in block p; its blocks are of F. -/
def RdS (T : TypeId) (w : World) (p : Nat) (s : PS) (F : List Nat) : Prop := s.1.length ≤ 140737488355328 ∧ ∃ F', Rr T w p s.1 s.2 F' ∧ (∀ q ∈ F', q ∈ F)
section
variable {T : TypeId} {w w' : World} {p : Nat} {s : PS} {F G : List Nat}
theorem RdS.keep (h : RdS T w p s F) (hc : Chg G w w') (hd : ∀ k ∈ F, k ∉ G) : RdS T w' p s F :=
  let ⟨hl, F', h1, h2⟩ := h
  ⟨hl, F', h1.keep hc (fun k hk => hd k (h2 k hk)), h2⟩
theorem RdS.below (h : RdS T w p s F) (hb : Below w.heap.size w w') : RdS T w' p s F := h.keep (Chg.of_below hb []) (fun _ _ hm => by cases hm)
theorem RdS.mem (h : RdS T w p s F) : p ∈ F := by
  obtain ⟨hl, F', ⟨a, n, c, hn, h1, h2, h3, h4, h5, rfl⟩, h6⟩ := h
  exact h6 p (by simp)
theorem RdS.lt (h : RdS T w p s F) : p < w.heap.size := by
  obtain ⟨hl, F', ⟨a, n, c, hn, h1, h2, h3, h4, h5, rfl⟩, h6⟩ := h
  exact block_lt h1
theorem RdS.mono (h : RdS T w p s F) (hF : ∀ q ∈ F, q ∈ G) : RdS T w p s G :=
  let ⟨hl, F', h1, h2⟩ := h
  ⟨hl, F', h1, fun q hq => hF q (h2 q hq)⟩
theorem Chg.same1 {p : Nat} (a b c : World) (h : Chg [p] a b) (k : Chg [p] b c) : Chg [p] a c := h.trans k (fun q hq => .inl hq)
end
theorem soU8_any (p : Nat) (s : PS) (F : List Nat) (w : World) (h : RdS 112 w p s F) :
    Calls Try.prog 45 #[.pointer (some ⟨p, 0, none⟩)] w fun e w' => e = .returned (.int .i64 (pI 1 s).1) ∧ Chg [p] w w' ∧ RdS 112 w' p (pI 1 s).2 F := by
  obtain ⟨hl, F', hr, hF⟩ := h
  refine (oRU8_any p s.1 s.2 F' w hr hl).mono ?_
  rintro e w' ⟨rfl, hc, F2, h1, h2⟩
  exact ⟨rfl, hc, Nat.le_trans (rest_len _ _ _) hl, F2, h1, fun q hq => hF q (h2 q hq)⟩
theorem soU16_any (p : Nat) (s : PS) (F : List Nat) (w : World) (h : RdS 112 w p s F) :
    Calls Try.prog 42 #[.pointer (some ⟨p, 0, none⟩)] w fun e w' => e = .returned (.int .i64 (pI 2 s).1) ∧ Chg [p] w w' ∧ RdS 112 w' p (pI 2 s).2 F := by
  obtain ⟨hl, F', hr, hF⟩ := h
  refine (oRU16_any p s.1 s.2 F' w hr hl).mono ?_
  rintro e w' ⟨rfl, hc, F2, h1, h2⟩
  exact ⟨rfl, hc, Nat.le_trans (rest_len _ _ _) hl, F2, h1, fun q hq => hF q (h2 q hq)⟩
theorem soU32_any (p : Nat) (s : PS) (F : List Nat) (w : World) (h : RdS 112 w p s F) :
    Calls Try.prog 83 #[.pointer (some ⟨p, 0, none⟩)] w fun e w' => e = .returned (.int .i64 (pI 4 s).1) ∧ Chg [p] w w' ∧ RdS 112 w' p (pI 4 s).2 F := by
  obtain ⟨hl, F', hr, hF⟩ := h
  refine (oRU32_any p s.1 s.2 F' w hr hl).mono ?_
  rintro e w' ⟨rfl, hc, F2, h1, h2⟩
  exact ⟨rfl, hc, Nat.le_trans (rest_len _ _ _) hl, F2, h1, fun q hq => hF q (h2 q hq)⟩
theorem soU64_any (p : Nat) (s : PS) (F : List Nat) (w : World) (h : RdS 112 w p s F) :
    Calls Try.prog 82 #[.pointer (some ⟨p, 0, none⟩)] w fun e w' => e = .returned (.int .u64 ((num (taken s.1 s.2 8) : Nat) : Int)) ∧ Chg [p] w w' ∧ RdS 112 w' p (pI 8 s).2 F := by
  obtain ⟨hl, F', hr, hF⟩ := h
  refine (oRU64_any p s.1 s.2 F' w hr hl).mono ?_
  rintro e w' ⟨rfl, hc, F2, h1, h2⟩
  exact ⟨rfl, hc, Nat.le_trans (rest_len _ _ _) hl, F2, h1, fun q hq => hF q (h2 q hq)⟩
theorem srU8_any (p : Nat) (s : PS) (F : List Nat) (w : World) (h : RdS 79 w p s F) :
    Calls Try.prog 49 #[.pointer (some ⟨p, 0, none⟩)] w fun e w' => e = .returned (.int .i64 (pI 1 s).1) ∧ Chg [p] w w' ∧ RdS 79 w' p (pI 1 s).2 F := by
  obtain ⟨hl, F', hr, hF⟩ := h
  refine (rRU8_any p s.1 s.2 F' w hr hl).mono ?_
  rintro e w' ⟨rfl, hc, F2, h1, h2⟩
  exact ⟨rfl, hc, Nat.le_trans (rest_len _ _ _) hl, F2, h1, fun q hq => hF q (h2 q hq)⟩
theorem srU16_any (p : Nat) (s : PS) (F : List Nat) (w : World) (h : RdS 79 w p s F) :
    Calls Try.prog 47 #[.pointer (some ⟨p, 0, none⟩)] w fun e w' => e = .returned (.int .i64 (pI 2 s).1) ∧ Chg [p] w w' ∧ RdS 79 w' p (pI 2 s).2 F := by
  obtain ⟨hl, F', hr, hF⟩ := h
  refine (rRU16_any p s.1 s.2 F' w hr hl).mono ?_
  rintro e w' ⟨rfl, hc, F2, h1, h2⟩
  exact ⟨rfl, hc, Nat.le_trans (rest_len _ _ _) hl, F2, h1, fun q hq => hF q (h2 q hq)⟩
theorem soNew_any (ab : Option Addr) (k cb : Nat) (b : List UInt8) (w : World) (hb : RdB w ab k b) (hnone : ab = none → cb = 0) (hlen : k ≤ 140737488355328) :
    Calls Try.prog 41 #[.slice ab k cb] w fun e w' => ∃ p F, e = .returned (.pointer (some ⟨p, 0, none⟩)) ∧ RdS 112 w' p (b, false) F ∧ (∀ q ∈ F, w.heap.size ≤ q) ∧ Below w.heap.size w w' := by
  refine (oNewReader_any ab k cb b w hb hnone hlen).mono ?_
  rintro e w' ⟨p, F, rfl, h1, h2, h3⟩
  exact ⟨p, F, rfl, ⟨by have := hb.len; show b.length ≤ _; omega, F, h1, fun q hq => hq⟩, h2, h3⟩
end Go.Proofs.Ytipkeifpkemcdaa
