/- wal: a log on a fresh disk: its half, room, units. -/
import Derived.Test.YtfabfemccnkboaaWal2
import Derived.Test.YtfabfemccnkboaaEqual
namespace Go.Proofs.Ytfabfemccnkboaa
open Go.RowKit
set_option linter.unusedVariables false
set_option linter.unusedSimpArgs false
set_option maxRecDepth 100000
set_option maxHeartbeats 1600000
theorem Dk.lt {w : World} {p : Nat} {s : DSt} {F : List Nat} (h : Dk w p s F) : ∀ q ∈ F, q < w.heap.size := by
  obtain ⟨S, nS, cS, aQ, nQ, cQ, xs, qs, D, hd, rfl⟩ := h
  exact hd.lt
theorem Dk.keep {w w' : World} {p : Nat} {s : DSt} {F G : List Nat} (h : Dk w p s F) (hc : Chg G w w') (hd : Disj F G) : Dk w' p s F := by
  obtain ⟨S, nS, cS, aQ, nQ, cQ, xs, qs, D, h1, rfl⟩ := h
  exact ⟨S, nS, cS, aQ, nQ, cQ, xs, qs, D, h1.keep hc hd, rfl⟩
theorem Dk.below {w w' : World} {p : Nat} {s : DSt} {F : List Nat} (h : Dk w p s F) (hb : Below w.heap.size w w') : Dk w' p s F := h.keep (Chg.of_below hb []) (fun k _ hm => by cases hm)
/-- A log's cells. -/
def logArr (p e : Nat) (a u at_ : Int) (dead : Bool) : Array Value := #[.pointer (some ⟨p, 0, none⟩), .int .u64 e, .int .i64 a, .int .i64 u, .int .i64 at_, .bool dead]
theorem logHalf_any (pl p e : Nat) (a u at_ : Int) (dead : Bool) (T : TypeId) (s : DSt) (F : List Nat) (w : World) (hl : w.heap[pl]? = some (.cells (logArr p e a u at_ dead) T (0, 0))) (h : Dk w p s F) (h2 : 2 ≤ s.sec.length) (h3 : s.sec.length ≤ 1099511627776) :
    Calls Try.prog 22 #[.pointer (some ⟨pl, 0, none⟩)] w fun e w' => e = .returned (.int .i64 (((s.sec.length - 2) / 2 : Nat) : Int)) ∧ w = w' := by
  have H := hid h; clear h
  have c0 : w.cell? ⟨pl, 0, none⟩ = some (.pointer (some ⟨p, 0, none⟩)) := cell_of_block hl rfl
  clear hl
  go_enter Try.func22, Try.ntmps22
  go_wp2_with fail
  refine (half_any p s F _ H.out h2 h3).mono ?_
  rintro e w1 ⟨rfl, rfl⟩
  go_wp2_with fail
  go_ret
  exact ⟨rfl, rfl⟩
theorem logRoom_any (pl p e : Nat) (a at_ : Int) (u : Nat) (dead : Bool) (T : TypeId) (s : DSt) (F : List Nat) (w : World) (hl : w.heap[pl]? = some (.cells (logArr p e a u at_ dead) T (0, 0))) (h : Dk w p s F) (h2 : 2 ≤ s.sec.length) (h3 : s.sec.length ≤ 1099511627776) (hu : u ≤ (s.sec.length - 2) / 2) :
    Calls Try.prog 21 #[.pointer (some ⟨pl, 0, none⟩)] w fun e w' => e = .returned (.int .i64 (((s.sec.length - 2) / 2 - u : Nat) : Int)) ∧ Below w.heap.size w w' := by
  have H := hid h; clear h
  have HL := hid hl; clear hl
  obtain ⟨n, hn⟩ : ∃ n, (s.sec.length - 2) / 2 = n := ⟨_, rfl⟩
  have hnb : n ≤ 1099511627776 := by omega
  rw [hn] at hu ⊢
  have HN := hid hn; clear hn
  have HQ : Hid (IntKind.i64.wrap ((n : Int) - (u : Int)) = ((n - u : Nat) : Int)) := by show _ = _; rw [IntWalk.i64_in _ (by omega)]; omega
  go_enter Try.func21, Try.ntmps21
  go_upto_region 1 with (fail)
  refine wp_region_each 8 [.eq (.pointer (some ⟨pl, 0, none⟩)), .eq (.int .i64 (n : Int)), .eq (.pointer (some ⟨pl, 0, none⟩)), .eq (.pointer (some ⟨pl, 0, none⟩)), .eq (.pointer (some ⟨pl, 1, none⟩)), .eq (.pointer (some ⟨pl, 3, none⟩)), .eq (.int .i64 (u : Int)), .eq (.int .i64 ((n - u : Nat) : Int))] (by kernel_rfl) (by kernel_rfl) (by kernel_rfl) (by kernel_rfl) ?_ ?_
  · as_aux_lemma =>
      refine each_c (o' := _) ?_ (each_c (o' := _) ?_ (each_c (o' := _) ?_ (each_c (o' := _) ?_ (each_c (o' := _) ?_ (each_c (o' := _) ?_ (each_c (o' := _) ?_ (each_c (o' := _) ?_ (each_n))))))))
      -- 0: move t0
      · intro w1 hg Ar seen
        have s0 := seen.slot 0 (v := .pointer (some ⟨pl, 0, none⟩)) (by kernel_rfl) rfl
        refine does_plain rfl fun K Q' hK => ?_
        go_simp; exact hK _ _ (Grow.refl _) rfl
      -- 1: call fn22<wal.Log).Half> [t3] T[29]
      · intro w1 hg Ar seen
        obtain ⟨v0, e0, h0⟩ := seen.dep 0 (d := 3) (by kernel_rfl) (by kernel_rfl) rfl
        rcases h0 with rfl
        refine does_plain rfl fun K Q' hK => ?_
        go_simp
        refine (logHalf_any pl p e a u at_ dead T s F _ ((hg.block _ (block_lt HL.out)).trans HL.out) (H.out.below hg) h2 h3).mono ?_
        rintro r u2 ⟨rfl, rfl⟩
        rw [HN.out]
        exact hK _ _ (Grow.refl _) rfl
      -- 2: move t0
      · intro w1 hg Ar seen
        have s0 := seen.slot 0 (v := .pointer (some ⟨pl, 0, none⟩)) (by kernel_rfl) rfl
        refine does_plain rfl fun K Q' hK => ?_
        go_simp; exact hK _ _ (Grow.refl _) rfl
      -- 3: nilCheck t5
      · intro w1 hg Ar seen
        obtain ⟨v2, e2, h2⟩ := seen.dep 2 (d := 5) (by kernel_rfl) (by kernel_rfl) rfl
        rcases h2 with rfl
        refine does_plain rfl fun K Q' hK => ?_
        go_simp; exact hK _ _ (Grow.refl _) rfl
      -- 4: fieldAddr 65 t6 1
      · intro w1 hg Ar seen
        obtain ⟨v3, e3, h3⟩ := seen.dep 3 (d := 6) (by kernel_rfl) (by kernel_rfl) rfl
        rcases h3 with rfl
        refine does_plain rfl fun K Q' hK => ?_
        go_simp; exact hK _ _ (Grow.refl _) rfl
      -- 5: fieldAddr 41 t7 2
      · intro w1 hg Ar seen
        obtain ⟨v4, e4, h4⟩ := seen.dep 4 (d := 7) (by kernel_rfl) (by kernel_rfl) rfl
        rcases h4 with rfl
        refine does_plain rfl fun K Q' hK => ?_
        go_simp; exact hK _ _ (Grow.refl _) rfl
      -- 6: load 3 t8
      · intro w1 hg Ar seen
        obtain ⟨v5, e5, h5⟩ := seen.dep 5 (d := 8) (by kernel_rfl) (by kernel_rfl) rfl
        rcases h5 with rfl
        refine does_plain rfl fun K Q' hK => ?_
        have hc := cell_of_block (j := 3) ((hg.block _ (block_lt HL.out)).trans HL.out) rfl
        go_simp; exact hK _ _ (Grow.refl _) rfl
      -- 7: binOp BinOp.sub 3 t4 t9 3
      · intro w1 hg Ar seen
        obtain ⟨v1, e1, h1⟩ := seen.dep 1 (d := 4) (by kernel_rfl) (by kernel_rfl) rfl
        rcases h1 with rfl
        obtain ⟨v6, e6, h6⟩ := seen.dep 6 (d := 9) (by kernel_rfl) (by kernel_rfl) rfl
        rcases h6 with rfl
        refine does_plain rfl fun K Q' hK => ?_
        have hq := HQ.out
        go_simp; exact hK _ _ (Grow.refl _) rfl
  intro w1 hg
  refine upon_w' (js := [0, 1, 2, 3, 4, 5, 6, 7]) (by rfl) ?_
  refine upon_c (x := some 3) (by kernel_rfl) rfl fun v0 h0 => ?_
  rcases h0 with rfl
  refine upon_c (x := some 4) (by kernel_rfl) rfl fun v1 h1 => ?_
  rcases h1 with rfl
  refine upon_c (x := some 5) (by kernel_rfl) rfl fun v2 h2 => ?_
  rcases h2 with rfl
  refine upon_c (x := some 6) (by kernel_rfl) rfl fun v3 h3 => ?_
  rcases h3 with rfl
  refine upon_c (x := some 7) (by kernel_rfl) rfl fun v4 h4 => ?_
  rcases h4 with rfl
  refine upon_c (x := some 8) (by kernel_rfl) rfl fun v5 h5 => ?_
  rcases h5 with rfl
  refine upon_c (x := some 9) (by kernel_rfl) rfl fun v6 h6 => ?_
  rcases h6 with rfl
  refine upon_c (x := some 10) (by kernel_rfl) rfl fun v7 h7 => ?_
  rcases h7 with rfl
  refine upon_n ?_
  go_simp
  go_wp2_with fail
  go_ret
  exact ⟨rfl, hg⟩
theorem units0_any (pl p e : Nat) (a at_ : Int) (dead : Bool) (T : TypeId) (w : World) (hl : w.heap[pl]? = some (.cells (logArr p e a 0 at_ dead) T (0, 0))) :
    Calls Try.prog 37 #[.pointer (some ⟨pl, 0, none⟩)] w fun e w' => e = .returned (.tuple #[.slice none 0 0, .int .i64 0]) ∧ w = w' := by
  have c0 : w.cell? ⟨pl, 3, none⟩ = some (.int .i64 0) := cell_of_block hl rfl
  clear hl
  go_enter Try.func37, Try.ntmps37
  go_wp2_with fail
  go_loopw [4, 19] (fun x y wr => x = .slice none 0 0 ∧ y = .int .i64 0 ∧ wr = w) (fun _ _ _ => 0)
  case atStart => exact ⟨rfl, rfl, rfl⟩
  case round =>
    obtain ⟨rfl, rfl, hw⟩ := hrel
    have HW := hid hw.symm; clear hw
    go_wp2_with fail
    go_loopw [4, 8] (fun x y wx => x = .slice none 0 0 ∧ y = .slice none 0 0 ∧ w = wx) (fun _ _ _ => 0)
    case atStart => exact ⟨rfl, rfl, HW.out⟩
    case round =>
      obtain ⟨rfl, rfl, hw⟩ := hrel
      have HW2 := hid hw; clear hw
      go_wp2_with fail
      go_ret2
      exact ⟨rfl, HW2.out⟩
end Go.Proofs.Ytfabfemccnkboaa
