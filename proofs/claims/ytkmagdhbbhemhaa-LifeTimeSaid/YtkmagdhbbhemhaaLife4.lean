/- locksmithref10: Due. -/
import Derived.Test.YtkmagdhbbhemhaaLife3
namespace Go.Proofs.Ytkmagdhbbhemhaa
open Go.RowKit
set_option linter.unusedVariables false
set_option linter.unusedSimpArgs false
set_option maxRecDepth 100000
set_option maxHeartbeats 1600000

theorem dueV_at (st : Int) (d1 d4 : Bool × Int) (now : Int) : dueV st d1 d4 now = if st = 1 ∧ atV d1 now = true then 2 :: (if atV d4 now = true then [3] else []) else if st = 2 ∧ atV d4 now = true then [3] else [] := by
  have e : ∀ d : Bool × Int, atV d now = true ↔ d.1 = true ∧ d.2 ≤ now := fun d => by simp [atV]
  unfold dueV
  simp only [e]
  by_cases h1 : st = 1
  · subst h1
    by_cases h : d1.1 = true ∧ d1.2 ≤ now <;> simp [h]
  · by_cases h2 : st = 2
    · subst h2
      by_cases h : d4.1 = true ∧ d4.2 ≤ now <;> simp [h]
    · simp [h1, h2]
theorem refDue_any (O : ObjD) (s : ObjV) (now : Int) (w : World) :
    Calls Try.prog 12 #[.agg (objCells O s), .int .i64 now] w fun e w' => ∃ a n c, e = .returned (.slice a n c) ∧ w'.ownsRow w.heap.size 3 1 (.slice a n c) n ((dueOf O now).map I64) ∧ Below w.heap.size w w' := by
  obtain ⟨i, hi, hz0, hz1, hz2⟩ := info_parts lInfoI
  have A1 := hid (fun O' s w => at1_any O' s now w)
  have A4 := hid (fun O' s w => at4_any O' s now w)
  generalize hbe : w.heap.size = b
  have HBE := hid hbe; clear hbe
  have HD : Hid (dueOf O now = if O.st = 1 ∧ atV (O.dat 1) now = true then 2 :: (if atV (O.dat 4) now = true then [3] else []) else if O.st = 2 ∧ atV (O.dat 4) now = true then [3] else []) := dueV_at _ _ _ _
  go_enter Try.func12, Try.ntmps12
  go_upto_region 2 with (fail)
  rw [HBE.out]
  have B0 : Hid (Box1 39 O s w (w.alloc (.cells (objCells O s) 39)) b) := by rw [← HBE.out]; exact ⟨block_new _ _, (Below.refl _ _).alloc (Nat.le_refl _) _⟩
  generalize w.alloc (.cells (objCells O s) 39) = W at *
  rcases Classical.em (O.st = 1) with hst | hst
  · cases hv1 : atV (O.dat 1) now with
    | true =>
      have V1 := hid hv1; clear hv1
      have h1 : Hid (O.st = 1) := hst
      have hc6 := B0.out.cell (oc6 _ _)
      rw [hst] at hc6
      clear hst
      go_wp2_with (first | (refine wpList_load_on rfl 39 _ rfl b rfl _ _ _ _ B0.out.obj Try.underlying39 rfl (by rw [objCells_size]; exact oSizeO) ?_) | fail)
      clear hc6
      refine (A1.out _ _ _).mono ?_
      rintro e b2 ⟨rfl, hb⟩
      rw [V1.out]
      have B2 := hid (B0.out.below hb); clear hb B0
      go_upto_region 5 with (
                   at_builtin
                   go_must (refine wpList_append_c rfl _ _ 41 rfl (b + 1) 3 i _ 1 8 Try.underlying41 hi hz0 hz1 hz2 rfl (by decide) _ 0 _ rfl (World.ownsRow_nil _ _ _ _) _ _ _ [I64 2] rfl (RdC.new _ _ _ _ [I64 2] rfl 1 rfl _ (by simp)) (I64_one [2]) (fun hx => by cases hx) (by unfold maxLen; omega) (by omega) (by have := block_lt B2.out.obj; simp; omega) ?_)
                   intro aB3 cB3 wB3 hown hgw hfr
                   have hb : Below (b + 1) b2 wB3 := ((Below.refl _ _).alloc (by have := block_lt B2.out.obj; omega) _).grown hgw (by have := block_lt B2.out.obj; simp; omega) (fun k hk => by cases hk)
                   have B3 : Hid (Box1 39 _ s w wB3 b) := ⟨(hb.block b (by omega)).trans B2.out.obj, B2.out.bel.trans (hb.mono (by omega))⟩
                   have HOB3 := hid hown
                   clear hown hgw hfr hb B2
                   have hc6 := B3.out.cell (oc6 _ _); have hfz := B3.out.fz)
      have B4 := hid (B3.out.set 6 (.int .i64 2) (os6 _ _ 2))
      have HO4 := hid (ownsRow_setCell_below HOB3.out (a := ⟨b, 6, none⟩) (by simp) (.int .i64 2))
      clear hc6 hfz B3 HOB3
      generalize hW4 : wB3.setCell ⟨b, 6, none⟩ (.int .i64 2) = w4 at *
      clear hW4
      cases hv4 : atV (O.dat 4) now with
      | true =>
        have V4 := hid hv4; clear hv4
        have hc6 := B4.out.cell (oc6 _ _)
        go_wp2_with (first | (refine wpList_load_on rfl 39 _ rfl b rfl _ _ _ _ B4.out.obj Try.underlying39 rfl (by rw [objCells_size]; exact oSizeO) ?_) | fail)
        clear hc6
        refine (A4.out _ _ _).mono ?_
        rintro e b5 ⟨rfl, hb⟩
        have V4' : Hid (atV (({ O with st := 2 } : ObjD).dat 4) now = true) := V4.out
        rw [V4'.out]
        have HO5 := hid ((Chg.of_below hb []).owns HO4.out (fun k _ hm => by cases hm))
        have B5 := hid (B4.out.below hb); clear hb B4
        go_wp2_with (
                     at_builtin
                     go_must (refine wpList_append_c rfl _ _ 41 rfl (b + 1) 3 i _ 1 8 Try.underlying41 hi hz0 hz1 hz2 rfl (by decide) _ 1 _ rfl (((Chg.refl [] _).alloc _).owns HO5.out (fun k _ hm => by cases hm)) _ _ _ [I64 3] rfl (RdC.new _ _ _ _ [I64 3] rfl 1 rfl _ (by simp)) (I64_one [3]) (fun hx => by cases hx) (by unfold maxLen; omega) (by omega) (by have := block_lt B5.out.obj; simp; omega) ?_)
                     intro aB6 cB6 wB6 hown hgw hfr
                     have hb : Below (b + 1) b5 wB6 := ((Below.refl _ _).alloc (by have := block_lt B5.out.obj; omega) _).grown hgw (by have := block_lt B5.out.obj; simp; omega) (fun k hk => by have := HO5.out.lt k hk; omega)
                     have B6 : Hid (Box1 39 _ s w wB6 b) := ⟨(hb.block b (by omega)).trans B5.out.obj, B5.out.bel.trans (hb.mono (by omega))⟩
                     have HOB6 := hid hown
                     clear hown hgw hfr hb B5)
        go_ret
        refine ⟨_, _, _, rfl, ?_, B6.out.bel⟩
        rw [HD.out, if_pos ⟨h1.out, V1.out⟩, if_pos V4.out]
        exact ownsRow_base HOB6.out (fun k hk => by have := (HOB6.out.lt k hk).1; omega)
      | false =>
        have V4 := hid hv4; clear hv4
        have hc6 := B4.out.cell (oc6 _ _)
        go_wp2_with (first | (refine wpList_load_on rfl 39 _ rfl b rfl _ _ _ _ B4.out.obj Try.underlying39 rfl (by rw [objCells_size]; exact oSizeO) ?_) | fail)
        clear hc6
        refine (A4.out _ _ _).mono ?_
        rintro e b5 ⟨rfl, hb⟩
        have V4' : Hid (atV (({ O with st := 2 } : ObjD).dat 4) now = false) := V4.out
        rw [V4'.out]
        have HO5 := hid ((Chg.of_below hb []).owns HO4.out (fun k _ hm => by cases hm))
        have B5 := hid (B4.out.below hb); clear hb B4
        go_wp2
        go_ret
        refine ⟨_, _, _, rfl, ?_, B5.out.bel⟩
        rw [HD.out, if_pos ⟨h1.out, V1.out⟩, if_neg (by rw [V4.out]; decide)]
        exact ownsRow_base HO5.out (fun k hk => by have := (HO5.out.lt k hk).1; omega)
    | false =>
      have V1 := hid hv1; clear hv1
      have h1 : Hid (O.st = 1) := hst
      have hc6 := B0.out.cell (oc6 _ _)
      rw [hst] at hc6
      clear hst
      go_wp2_with (first | (refine wpList_load_on rfl 39 _ rfl b rfl _ _ _ _ B0.out.obj Try.underlying39 rfl (by rw [objCells_size]; exact oSizeO) ?_) | fail)
      clear hc6
      refine (A1.out _ _ _).mono ?_
      rintro e b2 ⟨rfl, hb⟩
      rw [V1.out]
      have B2 := hid (B0.out.below hb); clear hb B0
      have hc6 := B2.out.cell (oc6 _ _)
      rw [h1.out] at hc6
      go_wp2
      go_ret
      refine ⟨_, _, _, rfl, ?_, B2.out.bel⟩
      rw [HD.out, if_neg (fun h => by rw [V1.out] at h; exact absurd h.2 (by decide)), if_neg (fun h => by rw [h1.out] at h; exact absurd h.1 (by decide))]
      exact World.ownsRow_nil _ _ _ _
  · rcases Classical.em (O.st = 2) with hst2 | hst2
    · have h2 : Hid (O.st = 2) := hst2
      cases hv4 : atV (O.dat 4) now with
      | true =>
        have V4 := hid hv4; clear hv4
        have hc6 := B0.out.cell (oc6 _ _)
        rw [hst2] at hc6
        clear hst hst2
        go_wp2_with (first | (refine wpList_load_on rfl 39 _ rfl b rfl _ _ _ _ B0.out.obj Try.underlying39 rfl (by rw [objCells_size]; exact oSizeO) ?_) | fail)
        clear hc6
        refine (A4.out _ _ _).mono ?_
        rintro e b2 ⟨rfl, hb⟩
        rw [V4.out]
        have B2 := hid (B0.out.below hb); clear hb B0
        go_wp2_with (
                     at_builtin
                     go_must (refine wpList_append_c rfl _ _ 41 rfl (b + 1) 3 i _ 1 8 Try.underlying41 hi hz0 hz1 hz2 rfl (by decide) _ 0 _ rfl (World.ownsRow_nil _ _ _ _) _ _ _ [I64 3] rfl (RdC.new _ _ _ _ [I64 3] rfl 1 rfl _ (by simp)) (I64_one [3]) (fun hx => by cases hx) (by unfold maxLen; omega) (by omega) (by have := block_lt B2.out.obj; simp; omega) ?_)
                     intro aB3 cB3 wB3 hown hgw hfr
                     have hb : Below (b + 1) b2 wB3 := ((Below.refl _ _).alloc (by have := block_lt B2.out.obj; omega) _).grown hgw (by have := block_lt B2.out.obj; simp; omega) (fun k hk => by cases hk)
                     have B3 : Hid (Box1 39 _ s w wB3 b) := ⟨(hb.block b (by omega)).trans B2.out.obj, B2.out.bel.trans (hb.mono (by omega))⟩
                     have HOB3 := hid hown
                     clear hown hgw hfr hb B2)
        go_ret
        refine ⟨_, _, _, rfl, ?_, B3.out.bel⟩
        rw [HD.out, if_neg (fun h => by rw [h2.out] at h; exact absurd h.1 (by decide)), if_pos ⟨h2.out, V4.out⟩]
        exact ownsRow_base HOB3.out (fun k hk => by have := (HOB3.out.lt k hk).1; omega)
      | false =>
        have V4 := hid hv4; clear hv4
        have hc6 := B0.out.cell (oc6 _ _)
        rw [hst2] at hc6
        clear hst hst2
        go_wp2_with (first | (refine wpList_load_on rfl 39 _ rfl b rfl _ _ _ _ B0.out.obj Try.underlying39 rfl (by rw [objCells_size]; exact oSizeO) ?_) | fail)
        clear hc6
        refine (A4.out _ _ _).mono ?_
        rintro e b2 ⟨rfl, hb⟩
        rw [V4.out]
        have B2 := hid (B0.out.below hb); clear hb B0
        go_wp2
        go_ret
        refine ⟨_, _, _, rfl, ?_, B2.out.bel⟩
        rw [HD.out, if_neg (fun h => by rw [h2.out] at h; exact absurd h.1 (by decide)), if_neg (fun h => by rw [V4.out] at h; exact absurd h.2 (by decide))]
        exact World.ownsRow_nil _ _ _ _
    · have e1 : (O.st == 1) = false := by simpa using hst
      have e2 : (O.st == 2) = false := by simpa using hst2
      have hc6 := B0.out.cell (oc6 _ _)
      have HN : Hid (dueOf O now = []) := by
        show _ = _
        rw [HD.out, if_neg (fun h => hst h.1), if_neg (fun h => hst2 h.1)]
      clear hst hst2
      go_wp2
      go_ret
      refine ⟨_, _, _, rfl, ?_, B0.out.bel⟩
      rw [HN.out]
      exact World.ownsRow_nil _ _ _ _

end Go.Proofs.Ytkmagdhbbhemhaa
