/- locksmithref10: Move. -/
import Derived.Test.YtkmagdhbbhemhaaLife4
namespace Go.Proofs.Ytkmagdhbbhemhaa
open Go.RowKit
set_option linter.unusedVariables false
set_option linter.unusedSimpArgs false
set_option maxRecDepth 100000
set_option maxHeartbeats 1600000

theorem due_le2 (O : ObjD) (now : Int) : (dueOf O now).length ≤ 2 := by
  unfold dueOf dueV
  split
  · split
    · split <;> simp
    · simp
  · split
    · split <;> simp
    · simp
theorem refMove_any (O : ObjD) (s : ObjV) (now : Int) (w : World) (h : ObjM w O s) :
    Calls Try.prog 17 #[.agg (objCells O s), .int .i64 now] w fun e w' => e = .returned (.agg (objCells (movedOf O now) s)) ∧ Below w.heap.size w w' := by
  have DL := hid h.dl; clear h
  generalize hbe : w.heap.size = b
  have HBE := hid hbe; clear hbe
  go_enter Try.func17, Try.ntmps17
  go_upto_region 1 with (refine wpList_alloc_obj rfl 39 rfl _ oZeroO ?_)
  go_simp
  have B0 := hid (box2_start (T := 39) (O := O) (s := s) (w := w) HBE.out)
  rw [HBE.out]
  generalize (w.alloc (.cells (objCells O s) 39)).alloc (.cells (objCells zObj zObjV) 39) = W at *
  go_wp2_with (first | (refine wpList_load_row rfl 39 _ rfl b rfl _ _ _ _ B0.out.obj Try.underlying39 rfl (by rw [objCells_size]; exact oSizeO) ?_) | fail)
  refine (refDue_any O s now _).mono ?_
  rintro e w2 ⟨a, n, c, rfl, ho2, hb2⟩
  have B2 := hid (B0.out.below hb2)
  have HO2 := hid ho2
  have HSZ := hid B0.out.size
  have hl : (dueOf O now).length = n := by simpa using ho2.1
  have HL := hid hl
  clear ho2 hb2 B0 hl
  by_cases hn : n = 0
  · subst hn
    have HMV : Hid (movedOf O now = O) := by unfold movedOf; rw [List.eq_nil_of_length_eq_zero HL.out]; rfl
    go_wp2_with (first | (refine wpList_load_row rfl 39 _ rfl b rfl _ _ _ _ B2.out.obj Try.underlying39 rfl (by rw [objCells_size]; exact oSizeO) ?_) | (refine wpList_store_obj rfl 39 _ _ rfl (b + 1) rfl _ rfl _ _ B2.out.res rfl (by rw [objCells_size]; exact oSizeO) (oc_one _ _) ?_; intro w6 hb6 hc6 hs6; have HB6 := hid hb6; have HC6 := hid hc6; clear hb6 hc6 hs6))
    refine bodyPost_ret (results_cell_row rfl _ _ (b + 1) _ _ _ _ rfl HB6.out Try.underlying39 rfl (by rw [objCells_size]; exact oSizeO)) rfl ?_
    exact ⟨ret_agg HMV.out.symm, B2.out.bel.trans (HC6.out.below (fun k hk => by rw [List.mem_singleton.1 hk]; omega) (by have := B2.out.size; omega))⟩
  · obtain ⟨m, rfl⟩ : ∃ m, n = m + 1 := ⟨n - 1, by omega⟩
    obtain ⟨z, hz⟩ : ∃ z, (dueOf O now)[m]? = some z := ⟨(dueOf O now)[m]'(by rw [HL.out]; omega), List.getElem?_eq_getElem _⟩
    have HMV : Hid (movedOf O now = { O.setDate 9 (true, now) with st := z }) := by
      unfold movedOf
      rw [List.getLast?_eq_getElem?, HL.out, Nat.add_sub_cancel, hz]
      try rfl
    obtain ⟨g, hg, hgb, hglt⟩ := (own_slice HO2.out).2.2 (by omega)
    subst hg
    have hcz : w2.cell? ⟨g, m, none⟩ = some (.int .i64 z) := by
      rw [HO2.out.cellAt m (by omega), List.getElem?_map, hz]; rfl
    have hm63 : m ≤ 2 := by have := due_le2 O now; have := HL.out; omega
    have hpos : (0 : Int) < (m : Int) + 1 := by omega
    have hfz := B2.out.fz
    have c6 := B2.out.cell (oc6 _ s)
    have B5 := hid (B2.out.set 6 (.int .i64 z) (os6 _ s z))
    clear hz hn hglt hgb HSZ HO2 B2
    go_upto_region 4 with (fail)
    clear hcz hfz c6
    generalize w2.setCell ⟨b, 6, none⟩ (.int .i64 z) = w5 at *
    go_wp2_with fail
    refine (refDate_any now _).mono ?_
    rintro e w4 ⟨rfl, hb4⟩
    have b4 := B5.out.below hb4
    have hfz := b4.fz
    have c25 := b4.cell (j := 25) rfl
    have c26 := b4.cell (j := 26) rfl
    have B6 := hid (b4.date DL.out 9 (by decide) true now)
    clear hb4 b4 B5
    go_upto_region 5 with (fail)
    simp only [Nat.reduceMul, Nat.reduceAdd] at B6
    generalize (w4.setCell ⟨b, 25, none⟩ (.bool true)).setCell ⟨b, 26, none⟩ (.int .i64 now) = w7 at *
    clear hfz c25 c26
    go_wp2_with (first | (refine wpList_load_row rfl 39 _ rfl b rfl _ _ _ _ B6.out.obj Try.underlying39 rfl (by rw [objCells_size]; exact oSizeO) ?_) | (refine wpList_store_obj rfl 39 _ _ rfl (b + 1) rfl _ rfl _ _ B6.out.res rfl (by rw [objCells_size]; exact oSizeO) (oc_one _ _) ?_; intro w6 hb6 hc6 hs6; have HB6 := hid hb6; have HC6 := hid hc6; clear hb6 hc6 hs6))
    refine bodyPost_ret (results_cell_row rfl _ _ (b + 1) _ _ _ _ rfl HB6.out Try.underlying39 rfl (by rw [objCells_size]; exact oSizeO)) rfl ?_
    exact ⟨ret_agg HMV.out.symm, B6.out.bel.trans (HC6.out.below (fun k hk => by rw [List.mem_singleton.1 hk]; omega) (by have := B6.out.size; omega))⟩
end Go.Proofs.Ytkmagdhbbhemhaa
