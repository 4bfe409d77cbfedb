/- LifeMoves, LifeTime: plain laws of the dates. -/
import Derived.Test.YtkmagdhbbhemhaaLaw11Open
import Derived.Test.YtkmagdhbbhemhaaLife4
import Derived.Test.YtkmagdhbbhemhaaLife5
import Derived.Test.YtkmagdhbbhemhaaLifeTP
namespace Go.Proofs.Ytkmagdhbbhemhaa
open Go.RowKit
set_option linter.unusedVariables false
set_option linter.unusedSimpArgs false
set_option maxRecDepth 100000
set_option maxHeartbeats 4000000

/-- A date that is not there stands at 0. -/
def DatesOk (O : ObjD) : Prop := ∀ p ∈ O.dates, p.1 = false → p.2 = 0
theorem DatesOk.set {O : ObjD} (h : DatesOk O) (i : Nat) (t : Int) : DatesOk (O.setDate i (true, t)) := by
  intro p hp hf
  rcases List.mem_or_eq_of_mem_set hp with h' | h'
  · exact h p h' hf
  · subst h'; cases hf
theorem DatesOk.step {O : ObjD} (h : DatesOk O) (y : RawD) : DatesOk (objStep O y) := by
  unfold objStep
  repeat' split
  all_goals first | exact h.set _ _ | exact h
theorem DatesOk.fold (l : List RawD) : ∀ O : ObjD, DatesOk O → DatesOk (l.foldl objStep O) := by
  induction l with
  | nil => intro O h; exact h
  | cons y l ih => intro O h; exact ih _ (h.step y)
theorem DatesOk.raw (x : RawD) (l : List RawD) : DatesOk (objRaw x l) := by
  have h0 : DatesOk (objInit x) := by
    intro p hp hf
    have : p = (false, 0) := List.eq_of_mem_replicate hp
    subst this; rfl
  exact DatesOk.fold (l.take 10) _ (h0.set 0 _)
theorem DatesOk.dat {O : ObjD} (h : DatesOk O) (i : Nat) (hf : (O.dat i).1 = false) : (O.dat i).2 = 0 := by
  unfold ObjD.dat at hf ⊢
  rw [List.getD_eq_getElem?_getD] at hf ⊢
  cases hg : O.dates[i]? with
  | none => rfl
  | some p =>
    rw [hg] at hf
    exact h p (List.mem_of_getElem? hg) hf
theorem next_agree {O : ObjD} (h : DatesOk O) : refNextV O.st (O.dat 1) (O.dat 4) = ((nextOf O).2.2, (nextOf O).2.1) := by
  have h1 := h.dat 1
  have h4 := h.dat 4
  unfold nextOf nextV refNextV
  generalize O.dat 1 = d1 at *
  generalize O.dat 4 = d4 at *
  obtain ⟨a1, n1⟩ := d1
  obtain ⟨a4, n4⟩ := d4
  simp only at h1 h4
  by_cases e1 : O.st = 1
  · cases a1 with
    | true => simp [e1]
    | false => simp [e1, h1 rfl]
  · by_cases e2 : O.st = 2
    · cases a4 with
      | true => simp [e2]
      | false => simp [e2, h4 rfl]
    · simp [e1, e2]
end Go.Proofs.Ytkmagdhbbhemhaa
