/- life: Revoke without a date, and the plain laws of the calls: what they make of an object stands on an edge. -/
import Derived.Test.YtgenbpndphdgnaaDoorActs2
import Derived.Test.YtgenbpndphdgnaaDoorLifeTP
namespace Go.Proofs.YtgenbpndphdgnaaDoor
open Go.RowKit
set_option linter.unusedVariables false
set_option linter.unusedSimpArgs false
set_option maxRecDepth 100000
set_option maxHeartbeats 4000000

def revN (O : ObjD) (r : Int) (msg : ByteArray) (now : Int) : ObjD × Int :=
  if O.arch = true then (zObj, 13) else if revocB O.st r = false then (zObj, 11)
  else if r = 2 then ({ ((O.setDate 9 (true, now)).setDate 7 (true, now)).setDate 6 ((O.setDate 9 (true, now)).dat 0) with reason := 2, msg := msg, st := if O.st = 5 then 6 else 4 }, 0)
  else ({ (O.setDate 9 (true, now)).setDate 4 (true, now) with reason := r, msg := msg, st := 3 }, 0)
theorem rev_anyN (O : ObjD) (s : ObjV) (r now : Int) (msg : ByteArray) (w : World) (h : ObjM w O s) (hr1 : 1 ≤ r) (hr7 : r ≤ 7) (hm : msg.size ≤ 120) (hv : ∀ w, Calls Tryd.prog 24 #[.string msg] w fun e w' => e = .returned (.bool true) ∧ w = w') :
    Calls Tryd.prog 10 #[.agg (objCells O s), .int .i64 r, .string msg, .agg #[.bool false, .int .i64 0], .int .i64 now] w (ActRes w.heap.size w (revN O r msg now)) := by
  unfold revN
  by_cases ha : O.arch = true
  · rw [if_pos ha]; exact rev_archN O s r now msg w h hr1 hr7 hm hv ha
  · rw [if_neg ha]
    have ha' : O.arch = false := by simpa using ha
    cases hrv : revocB O.st r with
    | false => rw [if_pos rfl]; exact rev_notN O s r now msg w h hr1 hr7 hm hv ha' hrv
    | true =>
      rw [if_neg (by simp)]
      by_cases h2 : r = 2
      · rw [if_pos h2]
        by_cases h5 : O.st = 5
        · rw [if_pos h5]; subst h2; exact rev_twoN5 O s now msg w h hm hv ha' hrv h5
        · rw [if_neg h5]; subst h2; exact rev_twoN O s now msg w h hm hv ha' hrv h5
      · rw [if_neg h2]; exact rev_okN O s r now msg w h hr1 hr7 hm hv ha' hrv h2
/-- What LifePaths keeps of an object. -/
def PInv (O : ObjD) : Prop := 1 ≤ O.st ∧ O.st ≤ 6 ∧ (5 ≤ O.st → O.mat = [])
def StepOk (O P : ObjD) (ed : Int) : Prop := PInv P ∧ (P.st = O.st ∨ edgeB O.st P.st = true ∨ (ed = 2 ∧ edgeB O.st 2 = true ∧ edgeB 2 P.st = true))
theorem act_step (O : ObjD) (t : Int) (h : PInv O) : (actV O t).2 = 0 → StepOk O (actV O t).1 1 := by
  unfold actV
  split
  · intro h; cases h
  · split
    · rename_i h1
      intro _
      refine ⟨⟨by show (1 : Int) ≤ 2; omega, by show (2 : Int) ≤ 6; omega, fun h5 => by have : (5 : Int) ≤ 2 := h5; omega⟩, .inr (.inl ?_)⟩
      show edgeB O.st 2 = true
      rw [h1]; rfl
    · intro h; cases h
theorem arc_step (O : ObjD) (t : Int) (h : PInv O) : (arcV O t).2 = 0 → StepOk O (arcV O t).1 1 := by
  unfold arcV
  split
  · intro h; cases h
  · intro _; exact ⟨h, .inl rfl⟩
theorem rec_step (O : ObjD) (t : Int) (h : PInv O) : (recV O t).2 = 0 → StepOk O (recV O t).1 1 := by
  unfold recV
  split
  · intro _; exact ⟨h, .inl rfl⟩
  · intro h; cases h
theorem dst_step (O : ObjD) (t : Int) (h : PInv O) : (dstV O t).2 = 0 → StepOk O (dstV O t).1 1 := by
  unfold dstV
  split
  · intro h; cases h
  · split
    · intro h; cases h
    · rename_i h1
      intro _
      have he : edgeB O.st (dstTo O) = true := by
        cases hh : edgeB O.st (dstTo O) with
        | true => rfl
        | false => exact absurd (.inr hh) h1
      refine ⟨⟨?_, ?_, fun _ => rfl⟩, .inr (.inl he)⟩
      · show 1 ≤ dstTo O; unfold dstTo; split <;> omega
      · show dstTo O ≤ 6; unfold dstTo; split <;> omega
theorem rev_step (O : ObjD) (r : Int) (msg : ByteArray) (t : Int) (h : PInv O) : (revN O r msg t).2 = 0 → StepOk O (revN O r msg t).1 1 := by
  unfold revN
  split
  · intro h; cases h
  · split
    · intro h; cases h
    · rename_i h1
      have hr : revocB O.st r = true := by simpa using h1
      split
      · rename_i h2
        subst h2
        intro _
        have hst : O.st = 2 ∨ O.st = 1 ∨ O.st = 3 ∨ O.st = 5 := by
          unfold revocB at hr
          by_cases a2 : O.st = 2
          · exact .inl a2
          · rw [if_neg a2] at hr
            by_cases a1 : O.st = 1 ∨ O.st = 3 ∨ O.st = 5
            · exact .inr a1
            · rw [if_neg a1] at hr; cases hr
        refine ⟨⟨?_, ?_, ?_⟩, .inr (.inl ?_)⟩
        · show 1 ≤ (if O.st = 5 then (6 : Int) else 4); split <;> omega
        · show (if O.st = 5 then (6 : Int) else 4) ≤ 6; split <;> omega
        · show 5 ≤ (if O.st = 5 then (6 : Int) else 4) → O.mat = []
          split
          · intro _; exact h.2.2 (by omega)
          · intro h; omega
        · show edgeB O.st (if O.st = 5 then (6 : Int) else 4) = true
          rcases hst with e | e | e | e <;> rw [e] <;> rfl
      · rename_i h2
        intro _
        have hst : O.st = 2 := by
          unfold revocB at hr
          by_cases a2 : O.st = 2
          · exact a2
          · rw [if_neg a2] at hr
            by_cases a1 : O.st = 1 ∨ O.st = 3 ∨ O.st = 5
            · rw [if_pos a1] at hr; exact absurd (by simpa using hr) h2
            · rw [if_neg a1] at hr; cases hr
        refine ⟨⟨by show (1 : Int) ≤ 3; omega, by show (3 : Int) ≤ 6; omega, fun h5 => by have : (5 : Int) ≤ 3 := h5; omega⟩, .inr (.inl ?_)⟩
        show edgeB O.st 3 = true
        rw [hst]; rfl
theorem moved_mat (O : ObjD) (t : Int) : (movedOf O t).mat = O.mat := by
  unfold movedOf
  cases (dueOf O t).getLast? <;> rfl
theorem last_cases (st : Int) (d1 d4 : Bool × Int) (t : Int) : lastSt st d1 d4 t = st ∨ (st = 1 ∧ (lastSt st d1 d4 t = 2 ∨ lastSt st d1 d4 t = 3)) ∨ (st = 2 ∧ lastSt st d1 d4 t = 3) := by
  obtain ⟨a1, n1⟩ := d1
  obtain ⟨a4, n4⟩ := d4
  unfold lastSt dueV
  by_cases h1 : st = 1
  · subst h1
    by_cases c1 : a1 = true ∧ n1 ≤ t
    · by_cases c4 : a4 = true ∧ n4 ≤ t <;> simp [c1, c4]
    · simp [c1]
  · by_cases h2 : st = 2
    · subst h2
      by_cases c4 : a4 = true ∧ n4 ≤ t <;> simp [c4]
    · simp [h1, h2]
theorem move_step (O : ObjD) (t : Int) (h : PInv O) : StepOk O (movedOf O t) 2 := by
  unfold StepOk PInv
  rw [moved_mat, moved_st]
  rcases last_cases O.st (O.dat 1) (O.dat 4) t with e | ⟨e, e2⟩ | ⟨e, e2⟩
  · rw [e]; exact ⟨h, .inl rfl⟩
  · rcases e2 with e2 | e2
    · rw [e2, e]
      exact ⟨⟨by omega, by omega, fun h => by omega⟩, .inr (.inl rfl)⟩
    · rw [e2, e]
      exact ⟨⟨by omega, by omega, fun h => by omega⟩, .inr (.inr ⟨rfl, rfl, rfl⟩)⟩
  · rw [e2, e]
    exact ⟨⟨by omega, by omega, fun h => by omega⟩, .inr (.inl rfl)⟩
end Go.Proofs.YtgenbpndphdgnaaDoor
