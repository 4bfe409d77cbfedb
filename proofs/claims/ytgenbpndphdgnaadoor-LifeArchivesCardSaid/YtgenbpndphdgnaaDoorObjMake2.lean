/- locksmithhand.Object: its first statements. -/
import Derived.Test.YtgenbpndphdgnaaDoorObjMake
import Derived.Test.YtgenbpndphdgnaaDoorSame2
import Derived.Deep.DeepCutAuto
import Derived.Deep.CutBlock
namespace Go.Proofs.YtgenbpndphdgnaaDoor
open Go.RowKit
set_option linter.unusedVariables false
set_option linter.unusedSimpArgs false
set_option maxRecDepth 1000000
set_option maxHeartbeats 16000000

def matA : Array Value := intsA [16, 16, 32, 0, 24]
theorem matA_get (k : Nat) (h : k < 5) : matA[k]? = some (.int .i64 ((matN k : Nat) : Int)) := by
  have : k = 0 ∨ k = 1 ∨ k = 2 ∨ k = 3 ∨ k = 4 := by omega
  rcases this with rfl | rfl | rfl | rfl | rfl <;> rfl
theorem matL_le (k : Nat) : matN k ≤ 32 := by
  show matL.getD k 0 ≤ 32
  rcases Nat.lt_or_ge k 5 with h | h
  · have : k = 0 ∨ k = 1 ∨ k = 2 ∨ k = 3 ∨ k = 4 := by omega
    rcases this with rfl | rfl | rfl | rfl | rfl <;> decide
  · rw [List.getD_eq_getElem?_getD, List.getElem?_eq_none (by simpa [matL] using h)]; decide
def stMat (B n : Nat) (l : List UInt8) : St Grow := ⟨fun v w => ∃ a c, v = .slice a n c ∧ w.ownsRow B 5 1 (.slice a n c) n (l.map B8), fun v w w' h hg => let ⟨a, c, e, h1⟩ := h; ⟨a, c, e, (Chg.of_below hg []).owns h1 (fun k _ hm => by cases hm)⟩⟩
def stObj (B n : Nat) (O : ObjD) : St Grow := ⟨fun v w => ∃ a c, v = .agg (objCells O { zObjV with mat := ⟨a, n, c⟩ }) ∧ w.ownsRow B 5 1 (.slice a n c) n (O.mat.map B8), fun v w w' h hg => let ⟨a, c, e, h1⟩ := h; ⟨a, c, e, (Chg.of_below hg []).owns h1 (fun k _ hm => by cases hm)⟩⟩
def stNew (B : Nat) : St Grow := ⟨fun v w => ∃ p, v = .pointer (some ⟨p, 0, none⟩) ∧ w.heap[p]? = some (.cells (objCells zObj zObjV) 35 (0, 0)) ∧ B ≤ p, fun v w w' h hg => let ⟨p, e, h1, h2⟩ := h; ⟨p, e, (hg.block _ (block_lt h1)).trans h1, h2⟩⟩
theorem obj_build (id : ByteArray) (t al mk st : Int) (a : Option Addr) (n c : Nat) (m : List UInt8) (w : World) :
    (Instr.build 35 #[(0, .string id), (1, .int .i64 t), (2, .int .i64 al), (3, .int .i64 128), (4, .int .i64 mk), (5, .slice a n c), (6, .int .i64 st)]).run Tryd.prog w = .ok (.agg (objCells { id := id, typ := t, alg := al, len := 128, mask := mk, mat := m, st := st } { zObjV with mat := ⟨a, n, c⟩ })) w := by kernel_rfl
theorem eqLinkB (d : Nat) (x y : Int × ByteArray) (w : World) : (Op.equalIn (d + 2) 56 (.agg #[.int .i64 x.1, .string x.2]) (.agg #[.int .i64 y.1, .string y.2])).run Tryd.prog w = .ok (x.1 == y.1 && strEq x.2 y.2) w := by
  unfold strEq
  cases h1 : (x.1 == y.1) <;> cases h2 : (x.2.toList == y.2.toList) <;> go_simp
theorem eqCustB (d : Nat) (x y : ByteArray × ByteArray) (w : World) : (Op.equalIn (d + 2) 60 (.agg #[.string x.1, .string x.2]) (.agg #[.string y.1, .string y.2])).run Tryd.prog w = .ok (strEq x.1 y.1 && strEq x.2 y.2) w := by
  unfold strEq
  cases h1 : (x.1.toList == y.1.toList) <;> cases h2 : (x.2.toList == y.2.toList) <;> go_simp
def stPair (B : Nat) (T : TypeId) : St Grow := ⟨fun v w => ∃ p C, v = .pointer (some ⟨p, 0, none⟩) ∧ w.heap[p]? = some (.cells C T (0, 0)) ∧ C.size = 2 ∧ B ≤ p, fun v w w' h hg => let ⟨p, C, e, h1, h2, h3⟩ := h; ⟨p, C, e, (hg.block _ (block_lt h1)).trans h1, h2, h3⟩⟩
theorem pair_cells {C : Array Value} (h : C.size = 2) : ∃ u v, C = #[u, v] := by
  obtain ⟨l⟩ := C
  match l, h with
  | [u, v], _ => exact ⟨u, v, rfl⟩
/-- Block n of a text. -/
def findBlock (n : Nat) : Code → Option Code
  | .loop c => findBlock n c
  | .seq a b => match findBlock n a with
    | some c => some c
    | none => findBlock n b
  | .block m c => if m = n then some (.block m c) else findBlock n c
  | .scope c => findBlock n c
  | .cond _ a b => match findBlock n a with
    | some c => some c
    | none => findBlock n b
  | _ => none
theorem wp_last {P : Program} {s : Code} {Q : Exit → Act → World → Prop} {a : Act} {w : World} (h : ∀ K : Act → World → Prop, (∀ a' w', Q .normal a' w' → K a' w') → s.wp P (Exit.then K Q) a w) : s.wp P Q a w := by
  refine wp_mono (h (Q .normal) (fun _ _ q => q)) ?_
  intro e a' w' hq
  cases e <;> exact hq
noncomputable def objSw : Code := (Tryd.f6.body.bind (findBlock 2)).getD .skip
noncomputable def objRd : Code := (Tryd.f6.body.bind (findBlock 1)).getD .skip
end Go.Proofs.YtgenbpndphdgnaaDoor
