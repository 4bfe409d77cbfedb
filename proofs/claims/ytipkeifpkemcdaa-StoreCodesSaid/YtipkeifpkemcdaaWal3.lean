/- wal: a log on a fresh disk: its half, room, units. -/
import Derived.Test.YtipkeifpkemcdaaWal2
import Derived.Test.YtipkeifpkemcdaaEqual
namespace Go.Proofs.Ytipkeifpkemcdaa
open Go.RowKit
set_option linter.unusedVariables false
set_option linter.unusedSimpArgs false
set_option maxRecDepth 100000
set_option maxHeartbeats 1600000
theorem Dk.lt {w : World} {p : Nat} {s : DSt} {F : List Nat} (h : Dk w p s F) : ∀ q ∈ F, q < w.heap.size := by
  obtain ⟨S, nS, cS, aQ, nQ, cQ, xs, qs, D, hd, rfl⟩ := h
  exact hd.lt
theorem Dk.keep {w w' : World} {p : Nat} {s : DSt} {F G : List Nat} (h : Dk w p s F) (hc : Chg G w w') (hd : Disj F G) : Dk w' p s F := by
  obtain ⟨S, nS, cS, aQ, nQ, cQ, xs, qs, D, h1, rfl⟩ := h
  exact ⟨S, nS, cS, aQ, nQ, cQ, xs, qs, D, h1.keep hc hd, rfl⟩
theorem Dk.below {w w' : World} {p : Nat} {s : DSt} {F : List Nat} (h : Dk w p s F) (hb : Below w.heap.size w w') : Dk w' p s F := h.keep (Chg.of_below hb []) (fun k _ hm => by cases hm)
/-- A log's cells. -/
def logArr (p e : Nat) (a u at_ : Int) (dead : Bool) : Array Value := #[.pointer (some ⟨p, 0, none⟩), .int .u64 e, .int .i64 a, .int .i64 u, .int .i64 at_, .bool dead]
theorem logHalf_any (pl p e : Nat) (a u at_ : Int) (dead : Bool) (T : TypeId) (s : DSt) (F : List Nat) (w : World) (hl : w.heap[pl]? = some (.cells (logArr p e a u at_ dead) T (0, 0))) (h : Dk w p s F) (h2 : 2 ≤ s.sec.length) (h3 : s.sec.length ≤ 1099511627776) :
    Calls Try.prog 58 #[.pointer (some ⟨pl, 0, none⟩)] w fun e w' => e = .returned (.int .i64 (((s.sec.length - 2) / 2 : Nat) : Int)) ∧ w = w' := by
  have H := hid h; clear h
  have c0 : w.cell? ⟨pl, 0, none⟩ = some (.pointer (some ⟨p, 0, none⟩)) := cell_of_block hl rfl
  clear hl
  go_enter Try.func58, Try.ntmps58
  go_wp2_with fail
  refine (half_any p s F _ H.out h2 h3).mono ?_
  rintro e w1 ⟨rfl, rfl⟩
  go_wp2_with fail
  go_ret
  exact ⟨rfl, rfl⟩
theorem logRoom_any (pl p e : Nat) (a at_ : Int) (u : Nat) (dead : Bool) (T : TypeId) (s : DSt) (F : List Nat) (w : World) (hl : w.heap[pl]? = some (.cells (logArr p e a u at_ dead) T (0, 0))) (h : Dk w p s F) (h2 : 2 ≤ s.sec.length) (h3 : s.sec.length ≤ 1099511627776) (hu : u ≤ (s.sec.length - 2) / 2) :
    Calls Try.prog 54 #[.pointer (some ⟨pl, 0, none⟩)] w fun e w' => e = .returned (.int .i64 (((s.sec.length - 2) / 2 - u : Nat) : Int)) ∧ Below w.heap.size w w' := by
  have H := hid h; clear h
  have HL := hid hl; clear hl
  obtain ⟨n, hn⟩ : ∃ n, (s.sec.length - 2) / 2 = n := ⟨_, rfl⟩
  have hnb : n ≤ 1099511627776 := by omega
  rw [hn] at hu ⊢
  have HN := hid hn; clear hn
  have HQ : Hid (IntKind.i64.wrap ((n : Int) - (u : Int)) = ((n - u : Nat) : Int)) := by show _ = _; rw [IntWalk.i64_in _ (by omega)]; omega
  go_enter Try.func54, Try.ntmps54
  go_upto_region 1 with (fail)
  refine wp_region_each 8 [.eq (.pointer (some ⟨pl, 0, none⟩)), .eq (.int .i64 (n : Int)), .eq (.pointer (some ⟨pl, 0, none⟩)), .eq (.pointer (some ⟨pl, 0, none⟩)), .eq (.pointer (some ⟨pl, 1, none⟩)), .eq (.pointer (some ⟨pl, 3, none⟩)), .eq (.int .i64 (u : Int)), .eq (.int .i64 ((n - u : Nat) : Int))] (by kernel_rfl) (by kernel_rfl) (by kernel_rfl) (by kernel_rfl) ?_ ?_
  · as_aux_lemma =>
      refine each_5 ?_ ?_ ?_ ?_ ?_ (each_c ?_ (each_c ?_ (each_c ?_ (each_n))))
      · intro w1 hg Ar seen
        have s0 := seen.sl 0 (.pointer (some ⟨pl, 0, none⟩))
        refine does_plain rfl fun K Q' hK => ?_
        go_simp; exact hK _ _ (Grow.refl _) rfl
      · intro w1 hg Ar seen
        have e0 := seen.de 0 3
        refine does_plain rfl fun K Q' hK => ?_
        go_simp
        refine (logHalf_any pl p e a u at_ dead T s F _ ((hg.block _ (block_lt HL.out)).trans HL.out) (H.out.below hg) h2 h3).mono ?_
        rintro r u2 ⟨rfl, rfl⟩
        rw [HN.out]
        exact hK _ _ (Grow.refl _) rfl
      · intro w1 hg Ar seen
        have s0 := seen.sl 0 (.pointer (some ⟨pl, 0, none⟩))
        refine does_plain rfl fun K Q' hK => ?_
        go_simp; exact hK _ _ (Grow.refl _) rfl
      · intro w1 hg Ar seen
        have e2 := seen.de 2 5
        refine does_plain rfl fun K Q' hK => ?_
        go_simp; exact hK _ _ (Grow.refl _) rfl
      · intro w1 hg Ar seen
        have e3 := seen.de 3 6
        refine does_plain rfl fun K Q' hK => ?_
        go_simp; exact hK _ _ (Grow.refl _) rfl
      · intro w1 hg Ar seen
        have e4 := seen.de 4 7
        refine does_plain rfl fun K Q' hK => ?_
        go_simp; exact hK _ _ (Grow.refl _) rfl
      · intro w1 hg Ar seen
        have e5 := seen.de 5 8
        refine does_plain rfl fun K Q' hK => ?_
        have hc := cell_of_block (j := 3) ((hg.block _ (block_lt HL.out)).trans HL.out) rfl
        go_simp; exact hK _ _ (Grow.refl _) rfl
      · intro w1 hg Ar seen
        have e1 := seen.de 1 4
        have e6 := seen.de 6 9
        refine does_plain rfl fun K Q' hK => ?_
        have hq := HQ.out
        go_simp; exact hK _ _ (Grow.refl _) rfl
  intro w1 hg
  refine upon_w' (js := [0, 1, 2, 3, 4, 5, 6, 7]) (by rfl) ?_
  refine upon_e (some 3) (upon_e (some 4) (upon_e (some 5) (upon_e (some 6) (upon_e (some 7) (upon_e (some 8) (upon_e (some 9) (upon_e (some 10) (upon_n ?_))))))))
  go_simp
  go_wp2_with fail
  go_ret
  exact ⟨rfl, hg⟩
theorem units0_any (pl p e : Nat) (a at_ : Int) (dead : Bool) (T : TypeId) (w : World) (hl : w.heap[pl]? = some (.cells (logArr p e a 0 at_ dead) T (0, 0))) :
    Calls Try.prog 72 #[.pointer (some ⟨pl, 0, none⟩)] w fun e w' => e = .returned (.tuple #[.slice none 0 0, .int .i64 0]) ∧ w = w' := by
  have c0 : w.cell? ⟨pl, 3, none⟩ = some (.int .i64 0) := cell_of_block hl rfl
  clear hl
  go_enter Try.func72, Try.ntmps72
  go_wp2_with fail
  go_loopw [4, 19] (fun x y wr => x = .slice none 0 0 ∧ y = .int .i64 0 ∧ wr = w) (fun _ _ _ => 0)
  case atStart => exact ⟨rfl, rfl, rfl⟩
  case round =>
    obtain ⟨rfl, rfl, hw⟩ := hrel
    have HW := hid hw.symm; clear hw
    go_wp2_with fail
    go_loopw [4, 8] (fun x y wx => x = .slice none 0 0 ∧ y = .slice none 0 0 ∧ w = wx) (fun _ _ _ => 0)
    case atStart => exact ⟨rfl, rfl, HW.out⟩
    case round =>
      obtain ⟨rfl, rfl, hw⟩ := hrel
      have HW2 := hid hw; clear hw
      go_wp2_with fail
      go_ret2
      exact ⟨rfl, HW2.out⟩
end Go.Proofs.Ytipkeifpkemcdaa
