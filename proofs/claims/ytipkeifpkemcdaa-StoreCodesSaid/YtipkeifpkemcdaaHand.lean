/- locksmithhand: Pick, Bytes, Few. -/
import Derived.Test.YtipkeifpkemcdaaRows
import Derived.Test.YtipkeifpkemcdaaMem
import Derived.WalkLawsBesides
namespace Go.Proofs.Ytipkeifpkemcdaa
open Go.RowKit
set_option linter.unusedVariables false
set_option linter.unusedSimpArgs false

theorem infoB : (Try.prog.info? 5).map (fun i => (i.zero, i.size, i.bytes)) = some (some (.int .u8 0), 1, 1) := by kernel_rfl

/-- locksmithhand.Few -/
theorem few_any (a : Option Addr) (n c m : Nat) (l : List UInt8) (w : World) (hr : RdB w a n l) (hnc : n ≤ c) (hcap : n ≤ 140737488355328) (hc : a = none → c = 0) (hm : m ≤ maxLen) :
    Calls Try.prog 12 #[.slice a n c, .int .i64 m] w fun e w' => ∃ a' c', e = .returned (.slice a' (min n m) c') ∧ w'.ownsRow w.heap.size 5 1 (.slice a' (min n m) c') (min n m) ((l.take m).map B8) ∧ Below w.heap.size w w' := by
  unfold maxLen at hm
  obtain ⟨i, hi, hz0, hz1, hz2⟩ := info_parts infoB
  obtain ⟨k, hk⟩ : ∃ k, k = min n m := ⟨_, rfl⟩
  have hkr : RdB w a k (l.take m) := by
    have h1 := hr.take (k := k) (by omega)
    have h2 : l.take k = l.take m := by
      have hl := hr.len
      rcases Nat.le_total n m with h | h
      · rw [show k = l.length by omega, List.take_length, List.take_of_length_le (by omega)]
      · rw [show k = m by omega]
    rwa [h2] at h1
  have hsl := fun w => run_slice_front (P := Try.prog) 24 5 1 Try.underlying24 (fun w => by kernel_rfl) a n c k (by omega) w
  rw [← hk]
  clear hr
  have HR := hid hkr; clear hkr
  have HC := hid hc; clear hc
  have HK := hid hk
  rcases Nat.lt_trichotomy n m with h | h | h
  · obtain rfl : k = n := by omega
    clear hk
    go_enter Try.func12, Try.ntmps12
    go_wp2_with (at_builtin; refine wpList_append_bytes rfl _ _ 24 rfl w.heap.size 5 i _ Try.underlying24 hi hz0 hz1 hz2 rfl _ 0 [] rfl (World.ownsRow_made w #[] 0 (Nat.le_refl _) (by unfold maxLen; omega) rfl) _ _ _ _ rfl (HR.out.below (Below.alloc (Below.refl _ _) (Nat.le_refl _) _)) HC.out (by omega) (by simp) ?_; intro a' c' w1 hown hg)
    go_ret
    refine ⟨a', c', ?_, ?_, ?_⟩
    · simp
    · simpa using hown
    · exact ((Below.refl _ _).alloc (Nat.le_refl _) _).grown hg (by simp) (by intro q hq; cases hq; exact Nat.le_refl _)
  · subst h
    obtain rfl : k = n := by omega
    clear hk
    go_enter Try.func12, Try.ntmps12
    go_wp2_with (at_builtin; refine wpList_append_bytes rfl _ _ 24 rfl w.heap.size 5 i _ Try.underlying24 hi hz0 hz1 hz2 rfl _ 0 [] rfl (World.ownsRow_made w #[] 0 (Nat.le_refl _) (by unfold maxLen; omega) rfl) _ _ _ _ rfl (HR.out.below (Below.alloc (Below.refl _ _) (Nat.le_refl _) _)) HC.out (by omega) (by simp) ?_; intro a' c' w1 hown hg)
    go_ret
    refine ⟨a', c', ?_, ?_, ?_⟩
    · simp
    · simpa using hown
    · exact ((Below.refl _ _).alloc (Nat.le_refl _) _).grown hg (by simp) (by intro q hq; cases hq; exact Nat.le_refl _)
  · obtain rfl : k = m := by omega
    clear hk
    go_enter Try.func12, Try.ntmps12
    go_wp2_with (at_builtin; refine wpList_append_bytes rfl _ _ 24 rfl w.heap.size 5 i _ Try.underlying24 hi hz0 hz1 hz2 rfl _ 0 [] rfl (World.ownsRow_made w #[] 0 (Nat.le_refl _) (by unfold maxLen; omega) rfl) _ _ _ _ rfl (HR.out.below (Below.alloc (Below.refl _ _) (Nat.le_refl _) _)) HC.out (by omega) (by simp) ?_; intro a' c' w1 hown hg)
    go_ret
    refine ⟨a', c', ?_, ?_, ?_⟩
    · simp
    · simpa using hown
    · exact ((Below.refl _ _).alloc (Nat.le_refl _) _).grown hg (by simp) (by intro q hq; cases hq; exact Nat.le_refl _)

/-- A whole copy. -/
theorem few_all (a : Option Addr) (n c : Nat) (l : List UInt8) (w : World) (hr : RdB w a n l) (hnc : n ≤ c) (hcap : n ≤ 140737488355328) (hc : a = none → c = 0) :
    Calls Try.prog 12 #[.slice a n c, .int .i64 n] w fun e w' => ∃ a' c', e = .returned (.slice a' n c') ∧ w'.ownsRow w.heap.size 5 1 (.slice a' n c') n (l.map B8) ∧ Below w.heap.size w w' := by
  have h := few_any a n c n l w hr hnc hcap hc (by unfold maxLen; omega)
  simp only [Nat.min_self, ← hr.len, List.take_length] at h ⊢
  exact h

/-- locksmithhand.Pick: the remainder from 0 on. -/
def pick (n m : Int) : Int := n % m
theorem pick_of (n m : Int) (h0 : 1 ≤ m) : (n.tmod m < 0 → n.tmod m + m = n % m) ∧ (0 ≤ n.tmod m → n.tmod m = n % m) ∧ -m < n.tmod m ∧ n.tmod m < m := by
  have h1 := Int.tmod_eq_emod (a := n) (b := m)
  have h2 := Int.emod_nonneg n (show m ≠ 0 by omega)
  have h3 := Int.emod_lt_of_pos n (show 0 < m by omega)
  split at h1 <;> rename_i hc
  · omega
  · have : n % m ≠ 0 := fun h => hc (Or.inr (Int.dvd_of_emod_eq_zero h))
    omega
theorem i64_ret {a b : Int} (h : a = b) : Ending.returned (.int .i64 a) = .returned (.int .i64 b) := by rw [h]
theorem pick_any (n m : Int) (w : World) (h0 : 1 ≤ m) (h1 : m ≤ 4611686018427387904) :
    Calls Try.prog 13 #[.int .i64 n, .int .i64 m] w fun e w' => e = .returned (.int .i64 (pick n m)) ∧ w = w' := by
  obtain ⟨h2, h3, h4, h5⟩ := pick_of n m h0
  have H2 := hid h2; clear h2
  have H3 := hid h3; clear h3
  go_enter Try.func13, Try.ntmps13
  go_wp2
  · go_ret
    exact ⟨i64_ret (H2.out (by assumption)), rfl⟩
  · go_ret
    exact ⟨i64_ret (H3.out (by assumption)), rfl⟩
theorem pick_lo (n m : Int) (h0 : 1 ≤ m) : 0 ≤ pick n m := Int.emod_nonneg n (by omega)
theorem pick_hi (n m : Int) (h0 : 1 ≤ m) : pick n m < m := Int.emod_lt_of_pos n (by omega)

def lcg (X : Int) : Int := IntKind.u64.wrap (IntKind.u64.wrap (X * 6364136223846793005) + 1442695040888963407)
def lcgAt (X : Int) : Nat → Int
  | 0 => X
  | k + 1 => lcg (lcgAt X k)
def lcgB (X : Int) (k : Nat) : UInt8 := UInt8.ofNat (lcgAt X (k + 1) / 1099511627776 % 256).toNat
def lcgs (X : Int) : Nat → List UInt8
  | 0 => []
  | k + 1 => lcgs X k ++ [lcgB X k]
theorem lcgs_len (X : Int) (k : Nat) : (lcgs X k).length = k := by
  induction k with
  | zero => rfl
  | succ k ih => simp [lcgs, ih]
theorem lcgs_set (X : Int) (k n : Nat) (h : k < n) : (lcgs X k ++ List.replicate (n - k) (0 : UInt8)).set k (lcgB X k) = lcgs X (k + 1) ++ List.replicate (n - (k + 1)) (0 : UInt8) := by
  rw [List.set_append_right _ _ (by rw [lcgs_len]; exact Nat.le_refl _), lcgs_len, Nat.sub_self, show n - k = (n - (k + 1)) + 1 by omega, List.replicate_succ, List.set_cons_zero]
  simp [lcgs]
theorem lcgB_val (X : Int) (k : Nat) : Value.int .u8 (IntKind.u64.wrap (IntKind.u64.wrap (lcgAt X k * 6364136223846793005) + 1442695040888963407) / 1099511627776 % 256) = B8 (lcgB X k) := by
  show Value.int .u8 (lcgAt X (k + 1) / 1099511627776 % 256) = _
  unfold B8 lcgB
  generalize lcgAt X (k + 1) / 1099511627776 = z
  rw [UInt8.toNat_ofNat_of_lt' (by show _ < 256; omega)]; congr 1; omega
/-- The bytes of a raw number. -/
def handBytes (n : Nat) (seed : Int) : List UInt8 := lcgs (IntKind.u64.wrap seed) n

/-- locksmithhand.Bytes -/
theorem bytes_any (n : Nat) (seed : Int) (w : World) (hn : n ≤ 140737488355328) :
    Calls Try.prog 29 #[.int .i64 n, .int .i64 seed] w fun e w' => ∃ a' c', e = .returned (.slice a' n c') ∧ w'.ownsRow w.heap.size 5 1 (.slice a' n c') n (List.map B8 (handBytes n seed)) ∧ Below w.heap.size w w' := by
  obtain ⟨i, hi, hz0, hz1, hz2⟩ := info_parts infoB
  go_enter Try.func29, Try.ntmps29
  go_wp2_with (at_make; refine wpList_make_full _ rfl _ _ 24 rfl w.heap.size 5 i _ 1 Try.underlying24 hi hz0 hz1 .i64 .i64 _ _ n rfl rfl rfl rfl (by rw [hz2]; omega) (by unfold maxLen; omega) (Nat.le_refl _) ?_; intro w1 hown hg)
  rw [made_bytes] at hown
  have hb : Below w.heap.size w w1 := (Below.refl _ _).grown hg (Nat.le_refl _) (fun k h => by cases h)
  go_loopw [6, 7] (fun x j wr => ∃ (k : Nat), k ≤ n ∧ j = .int .i64 k ∧ x = .int .u64 (lcgAt (IntKind.u64.wrap seed) k) ∧ wr.ownsRow w.heap.size 5 1 (.slice (some ⟨w.heap.size, 0, none⟩) n n) n ((lcgs (IntKind.u64.wrap seed) k ++ List.replicate (n - k) (0 : UInt8)).map B8) ∧ Below w.heap.size w wr) (fun _ j _ => n - (intOf j).toNat)
  case atStart => exact ⟨0, Nat.zero_le _, rfl, rfl, hown, hb⟩
  case round =>
    obtain ⟨k, hk, rfl, rfl, ho, hb'⟩ := hrel
    clear hown hb
    by_cases hlt : k < n
    · have hcell := ownB_cell ho k hlt
      have hfz := ho.frozenAt k
      generalize (lcgs (IntKind.u64.wrap seed) k ++ List.replicate (n - k) (0 : UInt8)).getD k 0 = old at *
      unfold B8 at hcell
      have HO := hid ho; clear ho
      have HB := hid hb'; clear hb'
      go_wp2
      go_roundw
      case rel =>
        rw [lcgB_val]
        refine ⟨k + 1, by omega, by go_num, rfl, ?_, HB.out.setCell (Nat.le_refl _) _⟩
        rw [← lcgs_set _ k n hlt]
        exact ownB_set HO.out k _
      case measure => simp [intOf]; omega
    · obtain rfl : k = n := by omega
      go_wp2
      go_ret
      refine ⟨_, _, rfl, ?_, hb'⟩
      simpa [handBytes] using ho
end Go.Proofs.Ytipkeifpkemcdaa
