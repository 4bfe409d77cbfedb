/- Chapter 6, as data; the small functions of ttlv. -/
import Derived.Test.YteenglgnakenmaaDoorItem4
import Derived.Test.YteenglgnakenmaaDoorOctPlain
import Derived.Lib.ValidU
namespace Go.Proofs.YteenglgnakenmaaDoor
open Go.RowKit
set_option linter.unusedVariables false
set_option linter.unusedSimpArgs false
set_option maxRecDepth 100000
set_option maxHeartbeats 1600000
def tagB (n : Int) : Bool := n / 65536 == 66 || n / 65536 == 84
def isD (k : Int) : Bool := k == 4 || (k == 7 || k == 8)
def isS (k : Int) : Bool := k == 2 || (k == 5 || k == 10)
def up8 (n : Nat) : Nat := (n + 7) / 8 * 8
def numB (k n : Int) : Bool :=
  if k = 2 then decide (-2147483648 ≤ n) && decide (n < 2147483648)
  else if k = 5 ∨ k = 10 then decide (0 ≤ n) && decide (n < 4294967296)
  else if k = 6 then n == 0 || n == 1
  else true
def datB (k : Int) (l : List UInt8) : Bool := if k = 4 then decide (0 < l.length) && decide (l.length % 8 = 0) else if k = 7 then Lib.validD l else true
theorem tag_any (n : Int) (w : World) : Calls Tryd.prog 53 #[.int .i64 n] w fun e w' => e = .returned (.bool (tagB n)) ∧ w = w' := by
  by_cases h : n / 65536 = 66
  · have h2 : tagB n = true := by unfold tagB; simp [h]
    have HT := hid h2
    clear h2
    go_enter Tryd.func53, Tryd.ntmps53
    go_wp2
    go_ret
    exact ⟨by rw [HT.out]; rfl, rfl⟩
  · have h2 : tagB n = (n / 65536 == 84) := by unfold tagB; simp [h]
    have HT := hid h2
    have h3 : (n / 65536 == 66) = false := by simpa using h
    clear h2
    go_enter Tryd.func53, Tryd.ntmps53
    go_wp2
    go_ret
    exact ⟨by rw [HT.out]; rfl, rfl⟩
theorem isData_any (k : Int) (w : World) : Calls Tryd.prog 43 #[.int .i64 k] w fun e w' => e = .returned (.bool (isD k)) ∧ w = w' := by
  by_cases h1 : k = 4
  · subst h1
    go_enter Tryd.func43, Tryd.ntmps43
    go_wp2
    go_ret
    exact ⟨rfl, rfl⟩
  by_cases h2 : k = 7
  · subst h2
    go_enter Tryd.func43, Tryd.ntmps43
    go_wp2
    go_ret
    exact ⟨rfl, rfl⟩
  · have e1 : (k == 4) = false := by simpa using h1
    have e2 : (k == 7) = false := by simpa using h2
    have HT : Hid (isD k = (k == 8)) := by show _ = _; unfold isD; rw [e1, e2]; rfl
    go_enter Tryd.func43, Tryd.ntmps43
    go_wp2
    go_ret
    exact ⟨by rw [HT.out]; rfl, rfl⟩
theorem isShort_any (k : Int) (w : World) : Calls Tryd.prog 45 #[.int .i64 k] w fun e w' => e = .returned (.bool (isS k)) ∧ w = w' := by
  by_cases h1 : k = 2
  · subst h1
    go_enter Tryd.func45, Tryd.ntmps45
    go_wp2
    go_ret
    exact ⟨rfl, rfl⟩
  by_cases h2 : k = 5
  · subst h2
    go_enter Tryd.func45, Tryd.ntmps45
    go_wp2
    go_ret
    exact ⟨rfl, rfl⟩
  · have e1 : (k == 2) = false := by simpa using h1
    have e2 : (k == 5) = false := by simpa using h2
    have HT : Hid (isS k = (k == 10)) := by show _ = _; unfold isS; rw [e1, e2]; rfl
    go_enter Tryd.func45, Tryd.ntmps45
    go_wp2
    go_ret
    exact ⟨by rw [HT.out]; rfl, rfl⟩
theorem up_any (n : Nat) (w : World) (hn : n ≤ 4611686018427387904) : Calls Tryd.prog 47 #[.int .i64 n] w fun e w' => e = .returned (.int .i64 (up8 n : Nat)) ∧ w = w' := by
  have h1 : IntKind.i64.wrap ((((n : Int) + 8) - 1).tdiv 8) = (((n + 7) / 8 : Nat) : Int) := by
    rw [Int.tdiv_eq_ediv_of_nonneg (by omega)]
    rw [IntWalk.i64_in _ (by omega)]
    omega
  have HU : Hid (up8 n = (n + 7) / 8 * 8) := rfl
  obtain ⟨q, hq⟩ : ∃ q, q = (n + 7) / 8 := ⟨_, rfl⟩
  rw [← hq] at h1 HU
  have hq2 : q ≤ 4611686018427387904 / 8 + 1 := by omega
  have HQ := hid hq
  clear hq
  go_enter Tryd.func47, Tryd.ntmps47
  go_wp2
  go_ret
  exact ⟨by rw [HU.out]; rfl, rfl⟩
theorem number_any (k n : Int) (w : World) : Calls Tryd.prog 65 #[.int .i64 k, .int .i64 n] w fun e w' => e = .returned (.bool (numB k n)) ∧ w = w' := by
  by_cases h1 : k = 2
  · subst h1
    by_cases h : -2147483648 ≤ n
    · have HT : Hid (numB 2 n = decide (n < 2147483648)) := by show _ = _; unfold numB; simp [h]
      go_enter Tryd.func65, Tryd.ntmps65
      go_wp2
      go_ret
      exact ⟨by rw [HT.out]; rfl, rfl⟩
    · have HT : Hid (numB 2 n = false) := by show _ = _; unfold numB; simp [h]
      have h' : n < -2147483648 := by omega
      clear h
      go_enter Tryd.func65, Tryd.ntmps65
      go_wp2
      go_ret
      exact ⟨by rw [HT.out]; rfl, rfl⟩
  have e1 : (k == 2) = false := by simpa using h1
  by_cases h2 : k = 5 ∨ k = 10
  · by_cases h : 0 ≤ n
    · have HT : Hid (numB k n = decide (n < 4294967296)) := by show _ = _; unfold numB; simp [h1, h2, h]
      rcases h2 with rfl | rfl
      · go_enter Tryd.func65, Tryd.ntmps65
        go_wp2
        go_ret
        exact ⟨by rw [HT.out]; rfl, rfl⟩
      · go_enter Tryd.func65, Tryd.ntmps65
        go_wp2
        go_ret
        exact ⟨by rw [HT.out]; rfl, rfl⟩
    · have HT : Hid (numB k n = false) := by show _ = _; unfold numB; simp [h1, h2, h]
      have h' : n < 0 := by omega
      clear h
      rcases h2 with rfl | rfl
      · go_enter Tryd.func65, Tryd.ntmps65
        go_wp2
        go_ret
        exact ⟨by rw [HT.out]; rfl, rfl⟩
      · go_enter Tryd.func65, Tryd.ntmps65
        go_wp2
        go_ret
        exact ⟨by rw [HT.out]; rfl, rfl⟩
  have h3 : ¬ k = 5 := fun e => h2 (.inl e)
  have h4 : ¬ k = 10 := fun e => h2 (.inr e)
  have e3 : (k == 5) = false := by simpa using h3
  have e4 : (k == 10) = false := by simpa using h4
  by_cases h5 : k = 6
  · subst h5
    by_cases h : n = 0
    · subst h
      go_enter Tryd.func65, Tryd.ntmps65
      go_wp2
      go_ret
      exact ⟨rfl, rfl⟩
    · have HT : Hid (numB 6 n = (n == 1)) := by show _ = _; unfold numB; simp [h]
      have h' : (n == 0) = false := by simpa using h
      clear h
      go_enter Tryd.func65, Tryd.ntmps65
      go_wp2
      go_ret
      exact ⟨by rw [HT.out]; rfl, rfl⟩
  · have HT : Hid (numB k n = true) := by show _ = _; unfold numB; simp [h1, h3, h4, h5]
    have e5 : (k == 6) = false := by simpa using h5
    clear h2
    go_enter Tryd.func65, Tryd.ntmps65
    go_wp2
    go_ret
    exact ⟨by rw [HT.out]; rfl, rfl⟩
end Go.Proofs.YteenglgnakenmaaDoor
