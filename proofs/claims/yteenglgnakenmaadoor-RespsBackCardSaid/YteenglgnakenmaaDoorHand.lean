/- locksmithhand: Pick, Bytes, Few. -/
import Derived.Test.YteenglgnakenmaaDoorRows
import Derived.Test.YteenglgnakenmaaDoorMem
import Derived.WalkLawsBesides
namespace Go.Proofs.YteenglgnakenmaaDoor
open Go.RowKit
set_option linter.unusedVariables false
set_option linter.unusedSimpArgs false

theorem infoB : (Tryd.prog.info? 5).map (fun i => (i.zero, i.size, i.bytes)) = some (some (.int .u8 0), 1, 1) := by kernel_rfl

/-- locksmithhand.Few -/
theorem few_any (a : Option Addr) (n c m : Nat) (l : List UInt8) (w : World) (hr : RdB w a n l) (hnc : n ≤ c) (hcap : n ≤ 140737488355328) (hc : a = none → c = 0) (hm : m ≤ maxLen) :
    Calls Tryd.prog 13 #[.slice a n c, .int .i64 m] w fun e w' => ∃ a' c', e = .returned (.slice a' (min n m) c') ∧ w'.ownsRow w.heap.size 5 1 (.slice a' (min n m) c') (min n m) ((l.take m).map B8) ∧ Below w.heap.size w w' := by
  unfold maxLen at hm
  obtain ⟨i, hi, hz0, hz1, hz2⟩ := info_parts infoB
  obtain ⟨k, hk⟩ : ∃ k, k = min n m := ⟨_, rfl⟩
  have hkr : RdB w a k (l.take m) := by
    have h1 := hr.take (k := k) (by omega)
    have h2 : l.take k = l.take m := by
      have hl := hr.len
      rcases Nat.le_total n m with h | h
      · rw [show k = l.length by omega, List.take_length, List.take_of_length_le (by omega)]
      · rw [show k = m by omega]
    rwa [h2] at h1
  have hsl := fun w => run_slice_front (P := Tryd.prog) 27 5 1 Tryd.underlying27 (fun w => by kernel_rfl) a n c k (by omega) w
  rw [← hk]
  clear hr
  have HR := hid hkr; clear hkr
  have HC := hid hc; clear hc
  have HK := hid hk
  rcases Nat.lt_trichotomy n m with h | h | h
  · obtain rfl : k = n := by omega
    clear hk
    go_enter Tryd.func13, Tryd.ntmps13
    go_wp2_with (at_builtin; refine wpList_append_bytes rfl _ _ 27 rfl w.heap.size 5 i _ Tryd.underlying27 hi hz0 hz1 hz2 rfl _ 0 [] rfl (World.ownsRow_made w #[] 0 (Nat.le_refl _) (by unfold maxLen; omega) rfl) _ _ _ _ rfl (HR.out.below (Below.alloc (Below.refl _ _) (Nat.le_refl _) _)) HC.out (by omega) (by simp) ?_; intro a' c' w1 hown hg)
    go_ret
    refine ⟨a', c', ?_, ?_, ?_⟩
    · simp
    · simpa using hown
    · exact ((Below.refl _ _).alloc (Nat.le_refl _) _).grown hg (by simp) (by intro q hq; cases hq; exact Nat.le_refl _)
  · subst h
    obtain rfl : k = n := by omega
    clear hk
    go_enter Tryd.func13, Tryd.ntmps13
    go_wp2_with (at_builtin; refine wpList_append_bytes rfl _ _ 27 rfl w.heap.size 5 i _ Tryd.underlying27 hi hz0 hz1 hz2 rfl _ 0 [] rfl (World.ownsRow_made w #[] 0 (Nat.le_refl _) (by unfold maxLen; omega) rfl) _ _ _ _ rfl (HR.out.below (Below.alloc (Below.refl _ _) (Nat.le_refl _) _)) HC.out (by omega) (by simp) ?_; intro a' c' w1 hown hg)
    go_ret
    refine ⟨a', c', ?_, ?_, ?_⟩
    · simp
    · simpa using hown
    · exact ((Below.refl _ _).alloc (Nat.le_refl _) _).grown hg (by simp) (by intro q hq; cases hq; exact Nat.le_refl _)
  · obtain rfl : k = m := by omega
    clear hk
    go_enter Tryd.func13, Tryd.ntmps13
    go_wp2_with (at_builtin; refine wpList_append_bytes rfl _ _ 27 rfl w.heap.size 5 i _ Tryd.underlying27 hi hz0 hz1 hz2 rfl _ 0 [] rfl (World.ownsRow_made w #[] 0 (Nat.le_refl _) (by unfold maxLen; omega) rfl) _ _ _ _ rfl (HR.out.below (Below.alloc (Below.refl _ _) (Nat.le_refl _) _)) HC.out (by omega) (by simp) ?_; intro a' c' w1 hown hg)
    go_ret
    refine ⟨a', c', ?_, ?_, ?_⟩
    · simp
    · simpa using hown
    · exact ((Below.refl _ _).alloc (Nat.le_refl _) _).grown hg (by simp) (by intro q hq; cases hq; exact Nat.le_refl _)

/-- A whole copy. -/
theorem few_all (a : Option Addr) (n c : Nat) (l : List UInt8) (w : World) (hr : RdB w a n l) (hnc : n ≤ c) (hcap : n ≤ 140737488355328) (hc : a = none → c = 0) :
    Calls Tryd.prog 13 #[.slice a n c, .int .i64 n] w fun e w' => ∃ a' c', e = .returned (.slice a' n c') ∧ w'.ownsRow w.heap.size 5 1 (.slice a' n c') n (l.map B8) ∧ Below w.heap.size w w' := by
  have h := few_any a n c n l w hr hnc hcap hc (by unfold maxLen; omega)
  simp only [Nat.min_self, ← hr.len, List.take_length] at h ⊢
  exact h

/-- locksmithhand.Pick: the remainder from 0 on. -/
def pick (n m : Int) : Int := n % m
theorem pick_of (n m : Int) (h0 : 1 ≤ m) : (n.tmod m < 0 → n.tmod m + m = n % m) ∧ (0 ≤ n.tmod m → n.tmod m = n % m) ∧ -m < n.tmod m ∧ n.tmod m < m := by
  have h1 := Int.tmod_eq_emod (a := n) (b := m)
  have h2 := Int.emod_nonneg n (show m ≠ 0 by omega)
  have h3 := Int.emod_lt_of_pos n (show 0 < m by omega)
  split at h1 <;> rename_i hc
  · omega
  · have : n % m ≠ 0 := fun h => hc (Or.inr (Int.dvd_of_emod_eq_zero h))
    omega
theorem i64_ret {a b : Int} (h : a = b) : Ending.returned (.int .i64 a) = .returned (.int .i64 b) := by rw [h]
theorem pick_any (n m : Int) (w : World) (h0 : 1 ≤ m) (h1 : m ≤ 4611686018427387904) :
    Calls Tryd.prog 12 #[.int .i64 n, .int .i64 m] w fun e w' => e = .returned (.int .i64 (pick n m)) ∧ w = w' := by
  obtain ⟨h2, h3, h4, h5⟩ := pick_of n m h0
  have H2 := hid h2; clear h2
  have H3 := hid h3; clear h3
  go_enter Tryd.func12, Tryd.ntmps12
  go_wp2
  · go_ret
    exact ⟨i64_ret (H2.out (by assumption)), rfl⟩
  · go_ret
    exact ⟨i64_ret (H3.out (by assumption)), rfl⟩
theorem pick_lo (n m : Int) (h0 : 1 ≤ m) : 0 ≤ pick n m := Int.emod_nonneg n (by omega)
theorem pick_hi (n m : Int) (h0 : 1 ≤ m) : pick n m < m := Int.emod_lt_of_pos n (by omega)

end Go.Proofs.YteenglgnakenmaaDoor
