/- life: dates, edges, next, Due. -/
import Derived.Test.YtgenbpndphdgnaaDoorObj
import Derived.Deep.LoopGhost
import Derived.Deep.DeepMust
namespace Go.Proofs.YtgenbpndphdgnaaDoor
open Go.RowKit
set_option linter.unusedVariables false
set_option linter.unusedSimpArgs false
set_option maxRecDepth 100000
set_option maxHeartbeats 1600000

theorem lawDate_any (t : Int) (w : World) : Calls Tryd.prog 16 #[.int .i64 t] w fun e w' => e = .returned (.agg #[.bool true, .int .i64 t]) ∧ Below w.heap.size w w' := by
  go_enter Tryd.func16, Tryd.ntmps16
  go_wp2
  exact bodyPost_ret (v := .agg #[.bool true, .int .i64 t]) (by simp [results, Tryd.results16, go_sem]) rfl ⟨rfl, (Below.refl _ _).alloc (Nat.le_refl _) _⟩
theorem at_any (t : Int) (w : World) : Calls Tryd.prog 23 #[.int .i64 t] w fun e w' => e = .returned (.agg #[.bool true, .int .i64 t]) ∧ Below w.heap.size w w' := by
  go_enter Tryd.func23, Tryd.ntmps23
  go_wp2
  exact bodyPost_ret (v := .agg #[.bool true, .int .i64 t]) (by simp [results, Tryd.results23, go_sem]) rfl ⟨rfl, (Below.refl _ _).alloc (Nat.le_refl _) _⟩

/-- An edge of the diagram. -/
def edgeB (a b : Int) : Bool :=
  if a = 1 then (b == 2 || b == 4 || b == 5) else if a = 2 then (b == 3 || b == 4) else if a = 3 then (b == 4 || b == 5) else if a = 4 then b == 6 else if a = 5 then b == 6 else false
theorem bool_ret {x y : Bool} (h : x = y) : Ending.returned (.bool x) = .returned (.bool y) := by rw [h]
theorem edge_any (a b : Int) (w : World) : Calls Tryd.prog 15 #[.int .i64 a, .int .i64 b] w fun e w' => e = .returned (.bool (edgeB a b)) ∧ w = w' := by
  go_enter Tryd.func15, Tryd.ntmps15
  go_wp2
  all_goals (go_ret; exact ⟨bool_ret (by simp_all [edgeB]), rfl⟩)

theorem next_any (O : ObjD) (s : ObjV) (w : World) :
    Calls Tryd.prog 27 #[.agg (objCells O s)] w fun e w' => e = .returned (.tuple #[.int .i64 (nextOf O).1, .agg #[.bool (nextOf O).2.1, .int .i64 (nextOf O).2.2]]) ∧ Below w.heap.size w w' := by
  have f6 := oc6 O s
  have f9 : (objCells O s)[9]? = some (.bool (O.dat 1).1) := rfl
  have f10 : (objCells O s)[10]? = some (.int .i64 (O.dat 1).2) := rfl
  have f15 : (objCells O s)[15]? = some (.bool (O.dat 4).1) := rfl
  have f16 : (objCells O s)[16]? = some (.int .i64 (O.dat 4).2) := rfl
  generalize hA : objCells O s = A at *
  by_cases h1 : O.st = 1
  · have hn : nextOf O = (2, O.dat 1) := by simp [nextOf, nextV, h1]
    rw [hn]
    generalize O.dat 1 = d at *
    rw [h1] at f6
    clear hn h1 hA f15 f16
    go_enter Tryd.func27, Tryd.ntmps27
    go_wp2
    go_region
    all_goals
      go_wp2
      exact bodyPost_ret (v := .tuple #[.int .i64 2, .agg #[.bool d.1, .int .i64 d.2]]) (by simp [results, Tryd.results27, go_sem]) rfl ⟨rfl, (((Below.refl _ _).alloc (Nat.le_refl _) _).alloc (by simp) _).drew⟩
  · by_cases h2 : O.st = 2
    · have hn : nextOf O = (3, O.dat 4) := by simp [nextOf, nextV, h2]
      rw [hn]
      generalize O.dat 4 = d at *
      rw [h2] at f6
      clear hn h1 h2 hA f9 f10
      go_enter Tryd.func27, Tryd.ntmps27
      go_wp2
      go_region
      all_goals
        go_wp2
        exact bodyPost_ret (v := .tuple #[.int .i64 3, .agg #[.bool d.1, .int .i64 d.2]]) (by simp [results, Tryd.results27, go_sem]) rfl ⟨rfl, (((Below.refl _ _).alloc (Nat.le_refl _) _).alloc (by simp) _).drew⟩
    · have hn : nextOf O = (0, false, 0) := by simp [nextOf, nextV, h1, h2]
      rw [hn]
      have e1 : (O.st == 1) = false := by simpa using h1
      have e2 : (O.st == 2) = false := by simpa using h2
      generalize O.st = z at *
      clear hn h1 h2 hA f9 f10 f15 f16
      go_enter Tryd.func27, Tryd.ntmps27
      go_wp2
      exact bodyPost_ret (v := .tuple #[.int .i64 0, .agg #[.bool false, .int .i64 0]]) (by simp [results, Tryd.results27, go_sem]) rfl ⟨rfl, ((Below.refl _ _).alloc (Nat.le_refl _) _).alloc (by simp) _⟩
def I64 (z : Int) : Value := .int .i64 z
theorem I64_one (l : List Int) : ∀ u ∈ l.map I64, u.oneCell' = true := by
  intro u hu
  obtain ⟨x, _, rfl⟩ := List.mem_map.1 hu
  rfl
theorem lInfoI : (Tryd.prog.info? 3).map (fun i => (i.zero, i.size, i.bytes)) = some (some (.int .i64 0), 1, 8) := by kernel_rfl
theorem due_any (O : ObjD) (s : ObjV) (now : Int) (w : World) :
    Calls Tryd.prog 21 #[.agg (objCells O s), .int .i64 now] w fun e w' => ∃ a n c, e = .returned (.slice a n c) ∧ w'.ownsRow w.heap.size 3 1 (.slice a n c) n ((dueOf O now).map I64) ∧ Below w.heap.size w w' := by
  obtain ⟨i, hi, hz0, hz1, hz2⟩ := info_parts lInfoI
  generalize hbe : w.heap.size = b
  have HBE := hid hbe; clear hbe
  go_enter Tryd.func21, Tryd.ntmps21
  go_wp2
  rw [HBE.out]
  have h0 : (w.alloc (.cells (objCells O s) 35)).heap[b]? = some (.cells (objCells O s) 35 (0, 0)) := by rw [← HBE.out]; exact block_new _ _
  have hb0 : Below b w (w.alloc (.cells (objCells O s) 35)) := by rw [← HBE.out]; exact (Below.refl _ _).alloc (Nat.le_refl _) _
  have hsz : (w.alloc (.cells (objCells O s) 35)).heap.size = b + 1 := by rw [← HBE.out]; simp
  generalize w.alloc (.cells (objCells O s) 35) = W at *
  have H0 := hid h0; have HB0 := hid hb0; have HSZ := hid hsz
  clear h0 hb0 hsz
  go_loopg [5] 2 (fun g x wr => ∃ (O' : ObjD) (l : List Int) (a : Option Addr) (n c : Nat), x = .slice a n c ∧ wr.heap[b]? = some (.cells (objCells O' s) 35 (0, 0)) ∧ wr.ownsRow (b + 1) 3 1 (.slice a n c) n (l.map I64) ∧ dueOf O now = l ++ dueOf O' now ∧ Below b w wr ∧ n ≤ 2 - g ∧ (g = 2 ∨ g = 1 ∧ O'.st ≠ 1 ∨ g = 0 ∧ O'.st ≠ 1 ∧ O'.st ≠ 2))
  case atStart => exact ⟨O, [], none, 0, 0, rfl, H0.out, World.ownsRow_nil _ _ _ _, rfl, HB0.out, by omega, .inl rfl⟩
  case round =>
    clear H0 HB0 HSZ
    obtain ⟨O', l, a, n, c, rfl, h1, ho, hd, hb, hn, hg⟩ := hrel
    have H1 := hid h1; have HO := hid ho; have HD := hid hd; have HB := hid hb; have HG := hid hg
    clear h1 ho hd hb hg
    go_wp2_with (first | (refine wpList_load_row rfl 35 _ rfl b rfl _ _ _ _ H1.out Tryd.underlying35 rfl (by rw [objCells_size]; exact oSizeO) ?_) | fail)
    refine (next_any O' s _).mono ?_
    rintro e w2 ⟨rfl, hb2⟩
    have H2 := hid ((hb2.block _ (block_lt H1.out)).trans H1.out)
    have HB2 := hid (HB.out.trans (hb2.mono (by have := block_lt H1.out; omega)))
    have HO2 := hid ((Chg.of_below hb2 []).owns HO.out (fun k _ hm => by cases hm))
    clear hb2 H1 HB HO
    have hno := dueV_no O'.st (O'.dat 1) (O'.dat 4) now
    have hyes := dueV_yes O'.st (O'.dat 1) (O'.dat 4) now
    unfold nextOf
    generalize nextV O'.st (O'.dat 1) (O'.dat 4) = nx at *
    obtain ⟨z, h, t⟩ := nx
    simp only at hno hyes ⊢
    by_cases hdue : h = true ∧ t ≤ now
    · obtain ⟨rfl, ht⟩ := hdue
      have HY := hid (hyes rfl ht)
      clear hno hyes
      have hlt : decide (now < t) = false := by simpa using ht
      clear ht
      go_wp2_with (at_builtin
                   go_must (refine wpList_append_c rfl _ _ 62 rfl (b + 1) 3 i _ 1 8 Tryd.underlying62 hi hz0 hz1 hz2 rfl (by decide) _ _ _ rfl (((Chg.refl [] _).alloc _ |>.alloc _ |>.owns HO2.out (fun k _ hm => by cases hm))) _ _ _ [I64 z] rfl (RdC.new _ _ _ _ [I64 z] rfl 1 rfl _ (by simp)) (I64_one [z]) (fun hx => by cases hx) (by unfold maxLen; omega) (by omega) (by have := block_lt H2.out; simp; omega) ?_)
                   intro a' c' w3 hown hgw hfr
                   have HO3 := hid hown; have HG3 := hid hgw; clear hown hgw hfr
                   have hb3 : Below (b + 1) w2 w3 := (((Below.refl _ _).alloc (by have := block_lt H2.out; omega) _).alloc (by have := block_lt H2.out; simp; omega) _).grown HG3.out (by have := block_lt H2.out; simp; omega) (fun k hk => by
                     rcases HO2.out.2 with ⟨hv, _⟩ | ⟨g, cap, cur, hv, hg, _⟩
                     · rw [hv] at hk; cases hk
                     · rw [hv] at hk; cases hk; exact hg)
                   have h3 := (hb3.block b (by omega)).trans H2.out
                   have hc6 := cell_of_block h3 (oc6 O' s)
                   have hfz : ∀ j, w3.frozen? ⟨b, j, none⟩ = false := fun j => frozen_of_block h3
                   have HB3 := hid (HB2.out.trans (hb3.mono (by omega)))
                   have H3 := hid h3
                   clear hb3 h3 HB2 HO2 H2 HG3)
      have hcont : Hid (∃ g', g' < gk ∧ n + 1 ≤ 2 - g' ∧ (g' = 2 ∨ g' = 1 ∧ z ≠ 1 ∨ g' = 0 ∧ z ≠ 1 ∧ z ≠ 2)) := by
        have hn' := hn
        rcases HY.out.2 with ⟨e1, e2⟩ | ⟨e1, e2⟩
        · rcases HG.out with h | h | h
          · exact ⟨1, by omega, by omega, .inr (.inl ⟨rfl, by omega⟩)⟩
          · exact absurd e1 h.2
          · exact absurd e1 h.2.1
        · rcases HG.out with h | h | h
          · exact ⟨0, by omega, by omega, .inr (.inr ⟨rfl, by omega, by omega⟩)⟩
          · exact ⟨0, by omega, by omega, .inr (.inr ⟨rfl, by omega, by omega⟩)⟩
          · exact absurd e1 h.2.2
      obtain ⟨g', hg1, hg2, hg3⟩ := hcont.out
      go_roundg g'
      case measure => exact hg1
      case rel =>
        refine ⟨{ O' with st := z }, l ++ [z], a', n + 1, c', rfl, ?_, ?_, ?_, HB3.out.setCell (Nat.le_refl _) _, hg2, hg3⟩
        · rw [← os6]; exact block_setCell H3.out _
        · rw [List.map_append]; exact ownsRow_setCell_below HO3.out (by simp) _
        · rw [HD.out, List.append_assoc]
          show l ++ dueV O'.st (O'.dat 1) (O'.dat 4) now = _
          rw [HY.out.1]; rfl
    · have hnil := hno hdue
      have hx : h = false ∨ h = true ∧ decide (now < t) = true := by
        cases h with
        | false => exact .inl rfl
        | true => exact .inr ⟨rfl, by simp; simpa using hdue⟩
      have HN := hid hnil
      clear hno hyes hdue hnil
      rcases hx with rfl | ⟨rfl, hlt⟩
      all_goals
        go_wp2_with fail
        go_ret
        have hl : dueOf O now = l := by
          rw [HD.out]
          show l ++ dueV O'.st (O'.dat 1) (O'.dat 4) now = l
          rw [HN.out, List.append_nil]
        refine ⟨a, n, c, rfl, ?_, HB2.out.alloc (by have := block_lt H2.out; omega) _⟩
        rw [hl]
        exact ownsRow_base (((Chg.refl [] w2).alloc _).owns HO2.out (fun k _ hm => by cases hm)) (fun k hk => by have := (HO2.out.lt k hk).1; omega)
end Go.Proofs.YtgenbpndphdgnaaDoor
