/- disk: Pending. -/
import Derived.Test.YthcjiiknhldgoaaDisk6
import Derived.Test.YthcjiiknhldgoaaDisk5
namespace Go.Proofs.Ythcjiiknhldgoaa
open Go.RowKit
set_option linter.unusedVariables false
set_option linter.unusedSimpArgs false
set_option maxRecDepth 100000
set_option maxHeartbeats 1000000

theorem pending_any (p : Nat) (s : DSt) (F : List Nat) (w : World) (h : Dk w p s F) (hsm : s.pend.length < 1099511627776) :
    Calls Try.prog 18 #[.pointer (some ⟨p, 0, none⟩)] w fun e w' => ∃ a c, e = .returned (.slice a s.pend.length c) ∧ Below w.heap.size w w' := by
  obtain ⟨i, hi, hz0, hz1, hz2⟩ := info_parts dInfoW
  obtain ⟨S, nS, cS, aQ, nQ, cQ, xs, qs, D, hd, hF⟩ := h
  have hp1 := hd.cell1
  have hl := hd.lenPend
  rw [hl] at hsm ⊢
  have HD := hid hd
  clear hd hF hl
  go_enter Try.func18, Try.ntmps18
  go_wp2_with fail
  go_loopw [3, 11] (fun o x wr => ∃ (k : Nat) (aO : Option Addr) (cO : Nat) (ys : List (Value × Value)), k ≤ nQ ∧ x = .int .i64 k ∧ o = .slice aO k cO ∧ wr.ownsRow w.heap.size 56 2 (.slice aO k cO) k (pairs ys) ∧ Below w.heap.size w wr) (fun _ x _ => nQ - (intOf x).toNat)
  case atStart => exact ⟨0, none, 0, [], Nat.zero_le _, rfl, rfl, World.ownsRow_nil _ _ _ _, Below.refl _ _⟩
  case round =>
    obtain ⟨k, aO, cO, ys, hk, rfl, rfl, ho, hb⟩ := hrel
    by_cases hlt : k < nQ
    · have hd := HD.out.keep (Chg.of_below hb []) (fun _ _ hm => by cases hm)
      obtain ⟨g, z, v, d, rfl, e1, e2, hz, e3, e4, hdat⟩ := hd.pen (i := k) hlt
      obtain ⟨a, n, c, rfl, hr, hnc, hn0, hn47, _⟩ := hdat
      have hr1 := ((hr.below ((Below.refl _ _).alloc (Nat.le_refl _) (.cells #[.int .i64 (z : Int), .slice a n c] 56 (0, 0))))).drew
      have HR1 := hid hr1; have HN0 := hid hn0
      have n0 := cell_of_block (j := 0) (block_new wr (.cells #[.int .i64 (z : Int), .slice a n c] 56 (0, 0))) rfl
      have n1 := cell_of_block (j := 1) (block_new wr (.cells #[.int .i64 (z : Int), .slice a n c] 56 (0, 0))) rfl
      have HO := hid ho; have HB := hid hb
      clear e1 e2 hr hr1 hn0 hd ho hb
      go_wp2_with fail
      go_region_law (first
        | (refine step_append_c rfl _ _ 46 rfl w.heap.size 56 i _ 2 32 Try.underlying46 hi hz0 hz1 hz2 rfl (by decide) (.slice aO k cO) k _ rfl ((HC2.out.alloc _).owns HO.out (fun q hq hm => by cases hm)) _ 1 _ [.int .i64 (z : Int), .slice a2 n c2] rfl (RdC.new w2 _ _ _ _ rfl 2 rfl _ rfl) (by intro u hu; simp at hu; rcases hu with rfl | rfl <;> rfl) (by simp) (by unfold maxLen; omega) (by omega) (by have h1 := HB.out.size; have h2 := HC2.out.size; simp; omega) ?_
           intro a' c' w' ho hg hn
           have HO' := hid ho; have HG := hid hg
           clear ho hg hn)
        | (go_simp
           go_at_call 21
           refine (clone_any a n c d _ HR1.out hn47 HN0.out).mono ?_
           rintro e w2 ⟨a2, c2, rfl, ho2, hb2⟩
           have hc2 : Chg [] wr w2 := (((Chg.refl [] wr).alloc (.cells #[.int .i64 (z : Int), .slice a n c] 56 (0, 0))).drew).trans (Chg.of_below hb2 []) (fun _ hm => by cases hm)
           have HC2 := hid hc2
           have m0 := (hb2.cell (p := ⟨wr.heap.size, 0, none⟩) (by show _ < (World.alloc _ _).heap.size; simp)).trans n0
           clear ho2 hb2 hc2))
      all_goals
        try go_wp2_with fail
        go_roundw
        case rel =>
          refine ⟨k + 1, a', c', ys ++ [(.int .i64 (z : Int), .slice a2 n c2)], by omega, by go_num, rfl, ?_, ?_⟩
          · rw [pairs_append]; exact HO'.out
          · have h3 : Below w.heap.size w (w2.alloc _) := ((HB.out.trans ((HC2.out.below (B := w.heap.size) (fun _ h => by cases h) HB.out.size)))).alloc (by have h1 := HB.out.size; have h2 := HC2.out.size; omega) (.cells #[.int .i64 (z : Int), .slice a2 n c2] 56 (0, 0))
            exact h3.grown HG.out h3.size (fun q hq => by have := HO.out.lt q hq; omega)
        case measure => simp [intOf]; omega
    · obtain rfl : k = nQ := by omega
      have HB := hid hb
      clear ho hb
      go_wp2_with fail
      go_ret
      exact ⟨_, _, rfl, HB.out⟩
end Go.Proofs.Ythcjiiknhldgoaa
