/- LifeTime: the plain law. -/
import Derived.Test.YtgenbpndphdgnaaDoorObjPlain
namespace Go.Proofs.YtgenbpndphdgnaaDoor
open Go.RowKit
set_option linter.unusedVariables false
set_option linter.unusedSimpArgs false

/-- The state at a moment. -/
def lastSt (st : Int) (d1 d4 : Bool × Int) (now : Int) : Int := (dueV st d1 d4 now).getLast?.getD st
theorem moved_st (O : ObjD) (now : Int) : (movedOf O now).st = lastSt O.st (O.dat 1) (O.dat 4) now := by
  unfold movedOf lastSt dueOf
  cases (dueV O.st (O.dat 1) (O.dat 4) now).getLast? <;> rfl
theorem moved_dat (O : ObjD) (now : Int) (i : Nat) (hi : i ≠ 9) : (movedOf O now).dat i = O.dat i := by
  unfold movedOf
  cases (dueOf O now).getLast? with
  | none => rfl
  | some z =>
    show (O.dates.set 9 (true, now)).getD i (false, 0) = O.dates.getD i (false, 0)
    rw [List.getD_eq_getElem?_getD, List.getD_eq_getElem?_getD, List.getElem?_set_ne (by omega)]
theorem st_again (st : Int) (d1 d4 : Bool × Int) (t1 t2 : Int) (h : t1 ≤ t2) : lastSt (lastSt st d1 d4 t1) d1 d4 t2 = lastSt st d1 d4 t2 := by
  obtain ⟨a1, n1⟩ := d1
  obtain ⟨a4, n4⟩ := d4
  have key : ∀ (n : Int), n ≤ t1 → n ≤ t2 := fun n hn => by omega
  unfold lastSt dueV
  by_cases h1 : st = 1
  · subst h1
    by_cases c1 : a1 = true ∧ n1 ≤ t1
    · have c1' : a1 = true ∧ n1 ≤ t2 := ⟨c1.1, key _ c1.2⟩
      by_cases c4 : a4 = true ∧ n4 ≤ t1
      · have c4' : a4 = true ∧ n4 ≤ t2 := ⟨c4.1, key _ c4.2⟩
        simp [c1, c1', c4, c4']
      · by_cases c4' : a4 = true ∧ n4 ≤ t2
        · have c4n : ¬ n4 ≤ t1 := fun hh => c4 ⟨c4'.1, hh⟩
          simp [c1, c1', c4n, c4']
        · simp [c1, c1', c4, c4']
    · simp [c1]
  · by_cases h2 : st = 2
    · subst h2
      by_cases c4 : a4 = true ∧ n4 ≤ t1
      · have c4' : a4 = true ∧ n4 ≤ t2 := ⟨c4.1, key _ c4.2⟩
        simp [c4, c4']
      · simp [c4]
    · simp [h1, h2]
theorem moved_again (O : ObjD) (t1 t2 : Int) (h : t1 ≤ t2) : (movedOf (movedOf O t1) t2).st = (movedOf O t2).st := by
  rw [moved_st, moved_st, moved_dat _ _ 1 (by decide), moved_dat _ _ 4 (by decide), moved_st, st_again _ _ _ _ _ h]
/-- Ahead of the next moment nothing moves. -/
theorem moved_ahead (O : ObjD) (now : Int) (h : ¬ ((nextOf O).2.1 = true ∧ (nextOf O).2.2 ≤ now)) : movedOf O now = O := by
  unfold movedOf dueOf
  rw [dueV_no _ _ _ _ h]; rfl
/-- An object on its way: what LifeTime's loop keeps. -/
structure Moving (O P : ObjD) (t : Int) : Prop where
  d1 : P.dat 1 = O.dat 1
  d4 : P.dat 4 = O.dat 4
  st : ∀ t', t ≤ t' → lastSt P.st (O.dat 1) (O.dat 4) t' = lastSt O.st (O.dat 1) (O.dat 4) t'
theorem Moving.first (O : ObjD) (t : Int) : Moving O O t := ⟨rfl, rfl, fun _ _ => rfl⟩
theorem Moving.step {O P : ObjD} {t t2 : Int} (h : Moving O P t) (ht : t ≤ t2) : Moving O (movedOf P t2) t2 := by
  refine ⟨(moved_dat _ _ 1 (by decide)).trans h.d1, (moved_dat _ _ 4 (by decide)).trans h.d4, fun t' ht' => ?_⟩
  rw [moved_st, h.d1, h.d4, st_again _ _ _ _ _ ht', h.st t' (by omega)]
/-- Once it has moved at t, it stands where the first would. -/
theorem st_at (st : Int) (d1 d4 : Bool × Int) (t : Int) : lastSt (lastSt st d1 d4 t) d1 d4 t = lastSt st d1 d4 t := st_again _ _ _ _ _ (Int.le_refl _)
theorem Moving.stand {O P : ObjD} {t t2 : Int} (h : Moving O P t) (ht : t ≤ t2) : (movedOf P t2).st = (movedOf O t2).st := by
  rw [moved_st, moved_st, h.d1, h.d4, h.st t2 ht]
end Go.Proofs.YtgenbpndphdgnaaDoor
