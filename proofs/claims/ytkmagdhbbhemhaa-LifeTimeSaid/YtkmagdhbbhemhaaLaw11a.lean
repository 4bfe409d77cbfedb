/- LifeMoves: the walk. -/
import Derived.Test.YtkmagdhbbhemhaaLaw11Open
import Derived.Test.YtkmagdhbbhemhaaObjMake3
import Derived.Test.YtkmagdhbbhemhaaLife5
import Derived.Test.YtkmagdhbbhemhaaLaw11P
namespace Go.Proofs.Ytkmagdhbbhemhaa
open Go.RowKit
set_option linter.unusedVariables false
set_option linter.unusedSimpArgs false
set_option maxRecDepth 100000
set_option maxHeartbeats 4000000

theorem raws_below {w w' : World} {v : Value} {l : List RawD} (h : ArgSl 4 RawR w v l) (hb : Below w.heap.size w w') : ArgSl 4 RawR w' v l := by
  obtain ⟨a, n, c, hv, hl, h1, h2, h3, hc⟩ := h
  refine ⟨a, n, c, hv, hl, h1, h2, h3, fun k hk => ?_⟩
  obtain ⟨b, off, cs, ha, g0, g1, g3⟩ := hc k hk
  refine ⟨b, off, cs, ha, g0, fun j hj => ?_, g3⟩
  have hj' := g1 j hj
  rw [List.getElem?_eq_getElem (by omega)] at hj' ⊢
  exact cell_later hb hj'
theorem ObjM.moved {w : World} {O : ObjD} {s : ObjV} (h : ObjM w O s) (t : Int) : ObjM w (movedOf O t) s := by
  unfold movedOf
  cases (dueOf O t).getLast? with
  | none => exact h
  | some z => exact h.data rfl rfl rfl rfl (by have := h.dl; simpa [ObjD.setDate] using this)
def stMoved (O : ObjD) : St Grow := ⟨fun v w => ∃ s', v = .agg (objCells O s') ∧ ObjM w O s', fun v w w' h hg => let ⟨s', e, h1⟩ := h; ⟨s', e, h1.below hg⟩⟩
theorem rawSize : ∀ w : World, (sizeOf 27).run Try.prog w = .ok 4 w := fun w => by kernel_rfl
theorem lifeMoves_walk (x : RawD) (hx : x.ok) (l : List RawD) (aL : Option Addr) (nL cL : Nat) (z : Int) (w : World) (hz : -9223372036854775808 ≤ z ∧ z ≤ 9223372036854775807) (hal : ArgSl 4 RawR w (.slice aL nL cL) l) :
    Calls Try.prog 4 #[.agg x.cells, .slice aL nL cL, .int .i64 z] w fun e w' => e = .returned (.bool true) ∧ Below w.heap.size w w' := by
  have HA := hid (raws_below hal ((Below.refl _ _).alloc (Nat.le_refl _) (.cells x.cells 27)))
  have OBJ := hid (fun w' h' => object_any x hx l aL nL cL w' h')
  have HZ := hid hz
  clear hal hz
  generalize hbe : w.heap.size = b
  have HBE := hid hbe; clear hbe
  go_enter Try.func4, Try.ntmps4
  go_upto_region 1 with (fail)
  have H1 := hid (block_new w (.cells x.cells 27))
  have HB1 := hid ((Below.refl w.heap.size w).alloc (Nat.le_refl _) (.cells x.cells 27))
  have HS1 : Hid ((w.alloc (.cells x.cells 27)).heap.size = w.heap.size + 1) := by show _ = _; simp
  rw [HBE.out] at H1 HB1 HS1 ⊢
  generalize w.alloc (.cells x.cells 27) = W at *
  have q0 := cell_of_block (j := 0) H1.out rfl
  have q1 := cell_of_block (j := 1) H1.out rfl
  have q2 := cell_of_block (j := 2) H1.out rfl
  have q3 := cell_of_block (j := 3) H1.out rfl
  go_wp2_with fail
  clear q0 q1 q2 q3
  refine (OBJ.out _ HA.out).mono ?_
  rintro e w2 ⟨s, rfl, hm2, hf2, hb2⟩
  have HM2 := hid hm2; have HB2 := hid hb2; have HF2 := hid hf2
  have hb2s := hb2.size
  rw [HS1.out] at hb2s
  clear hm2 hb2 hf2
  have HD := hid (DatesOk.raw x l)
  generalize objRaw x l = O at *
  have HBW : Hid (Below b w w2) := HB1.out.trans (HB2.out.mono (by rw [HS1.out]; omega))
  clear HB2 HB1 HS1 HF2 HA OBJ H1 HBE
  have HZP : Hid (b ≤ w2.heap.size) := by show _ ≤ _; have h1 := hb2s; omega
  clear hb2s
  go_upto_region 2 with (first | (refine wpList_alloc_obj rfl 39 rfl _ oZeroO ?_) | (refine wpList_store_obj rfl 39 _ _ rfl w2.heap.size rfl _ rfl _ _ (block_new w2 _) rfl (by rw [objCells_size]; exact oSizeO) (oc_one _ _) ?_; intro w3 hb3 hc3 hs3; have HB3 := hid hb3; have HC3 := hid hc3; clear hb3 hc3 hs3))
  go_simp
  have hbel : Below w2.heap.size w2 w3 := ((Below.refl _ w2).alloc (Nat.le_refl _) _).trans (HC3.out.below (fun k hk => by rw [List.mem_singleton.1 hk]; exact Nat.le_refl _) (by simp))
  have HM3 := hid (HM2.out.below hbel)
  have B3 : Hid (Box1 39 O s w2 w3 w2.heap.size) := ⟨HB3.out, hbel⟩
  clear HB3 HC3 hbel HM2
  generalize hp : w2.heap.size = p at *
  clear hp
  go_wp2_with fail
  refine (pick_any z 70 _ (by omega) (by omega)).mono ?_
  rintro e u ⟨rfl, rfl⟩
  generalize pick z 70 = t at *
  go_wp2_with (refine wpList_load_row rfl 39 _ rfl p rfl _ _ _ _ B3.out.obj Try.underlying39 rfl (by rw [objCells_size]; exact oSizeO) ?_)
  refine (due_any O s t _).mono ?_
  rintro e w4 ⟨a1, n1, k1, rfl, ho1, hb4⟩
  have B4 := hid (B3.out.below hb4)
  have HM4 := hid (HM3.out.below hb4)
  have HO1 := hid ho1
  clear ho1 hb4 B3 HM3
  go_wp2_with (refine wpList_load_row rfl 39 _ rfl p rfl _ _ _ _ B4.out.obj Try.underlying39 rfl (by rw [objCells_size]; exact oSizeO) ?_)
  refine (refDue_any O s t _).mono ?_
  rintro e w5 ⟨a2, n2, k2, rfl, ho2, hb5⟩
  have B5 := hid (B4.out.below hb5)
  have HM5 := hid (HM4.out.below hb5)
  have HO2 := hid ho2
  have HO1' := hid ((Chg.of_below hb5 []).owns HO1.out (fun k _ hm => by cases hm))
  have HLT := hid (fun k hk => Nat.lt_of_lt_of_le ((HO1.out.lt k hk).2) hb5.size)
  clear ho2 hb5 B4 HM4 HO1
  have hl1 : (dueOf O t).length = n1 := by simpa using HO1'.out.1
  have hl2 : (dueOf O t).length = n2 := by simpa using HO2.out.1
  obtain rfl : n1 = n2 := by omega
  have hl3 := due_le2 O t
  have HL := hid hl1
  have hn2 : n1 ≤ 2 := by omega
  clear hl1 hl2 hl3
  go_wp2_with fail
  go_loopw [11] (fun i wr => ∃ k : Nat, k ≤ n1 ∧ i = .int .i64 k ∧ Below w5.heap.size w5 wr) (fun i _ => n1 - (intOf i).toNat)
  case atStart => exact ⟨0, Nat.zero_le _, rfl, Below.refl _ _⟩
  case round =>
    obtain ⟨k, hk, rfl, hbr⟩ := hrel
    have HBR := hid hbr; clear hbr
    by_cases hlt : k < n1
    · obtain ⟨g1, e1, _, hg1⟩ := (own_slice HO1'.out).2.2 (by omega)
      obtain ⟨g2, e2, _, hg2⟩ := (own_slice HO2.out).2.2 (by omega)
      subst e1; subst e2
      obtain ⟨y, hy⟩ : ∃ y, (dueOf O t)[k]? = some y := ⟨(dueOf O t)[k]'(by rw [HL.out]; omega), List.getElem?_eq_getElem _⟩
      have c1 : w5.cell? ⟨g1, k, none⟩ = some (.int .i64 y) := by rw [HO1'.out.cellAt k (by omega), List.getElem?_map, hy]; rfl
      have c2 : w5.cell? ⟨g2, k, none⟩ = some (.int .i64 y) := by rw [HO2.out.cellAt k (by omega), List.getElem?_map, hy]; rfl
      have d1 := cell_later HBR.out c1
      have d2 := cell_later HBR.out c2
      clear c1 c2 hy hg1 hg2
      go_wp2_with fail
      go_quiet (fail)
      go_wp2_with fail
      go_roundw
      case rel => exact ⟨k + 1, by omega, by go_num, Go.below_drewN HBR.out _⟩
      case measure => simp [intOf]; omega
    · obtain rfl : k = n1 := by omega
      have B6 := hid (B5.out.below HBR.out)
      have HM6 := hid (HM5.out.below HBR.out)
      obtain ⟨⟨z0, hh, tt⟩, hno⟩ : ∃ y, nextOf O = y := ⟨_, rfl⟩
      have hrn := next_agree HD.out
      rw [hno] at hrn
      have NX := hid (fun w => lifeNext_any O s z0 tt hh w hno)
      have RX := hid (fun w => refNext_any O s w)
      rw [hrn] at RX
      clear hno hrn HBR HM5 B5 HO1' HO2 HL HLT
      go_wp2_with (refine wpList_load_row rfl 39 _ rfl p rfl _ _ _ _ B6.out.obj Try.underlying39 rfl (by rw [objCells_size]; exact oSizeO) ?_)
      refine (NX.out _).mono ?_
      rintro e w7 ⟨rfl, hb7⟩
      have B7 := hid (B6.out.below hb7)
      have HM7 := hid (HM6.out.below hb7)
      clear hb7 B6 HM6 NX
      go_wp2_with (refine wpList_load_row rfl 39 _ rfl p rfl _ _ _ _ B7.out.obj Try.underlying39 rfl (by rw [objCells_size]; exact oSizeO) ?_)
      refine (RX.out _).mono ?_
      rintro e w8 ⟨rfl, hb8⟩
      have B6 := hid (B7.out.below hb8)
      have HM6 := hid (HM7.out.below hb8)
      clear hb8 B7 HM7 RX
      go_upto_region 14 with (fail)
      refine wp_region_each 20 [.eq (.bool true), .eq (.bool true), .eq (.agg (objCells O s)), .eq (.int .i64 t), stMoved (movedOf O t), .eq (.agg (objCells O s)), .eq (.int .i64 t), .eq (.agg (objCells (movedOf O t) s)), .eq (.bool true), .eq (.bool true), .eq (.bool true), .eq (.int .i64 tt), .eq (.int .i64 tt), .eq (.bool true), .eq (.bool true), .eq (.bool true), .eq (.bool hh), .eq (.bool hh), .eq (.bool true), .eq (.bool true)] (by kernel_rfl) (by kernel_rfl) (by kernel_rfl) (by kernel_rfl) ?_ ?_
      · as_aux_lemma =>
          refine each_c (o' := _) ?_ (each_c (o' := _) ?_ (each_c (o' := _) ?_ (each_c (o' := _) ?_ (each_c (o' := _) ?_ (each_c (o' := _) ?_ (each_c (o' := _) ?_ (each_c (o' := _) ?_ (each_c (o' := _) ?_ (each_c (o' := _) ?_ (each_c (o' := _) ?_ (each_c (o' := _) ?_ (each_c (o' := _) ?_ (each_c (o' := _) ?_ (each_c (o' := _) ?_ (each_c (o' := _) ?_ (each_c (o' := _) ?_ (each_c (o' := _) ?_ (each_c (o' := _) ?_ (each_c (o' := _) ?_ (each_n))))))))))))))))))))
          -- 0: call fn7<locksmithlaw11.known> [] T[]
          · intro w1 hg Ar seen
            refine does_plain rfl fun K Q' hK => ?_
            go_simp
            refine (known11_any _).mono ?_
            rintro e u ⟨rfl, hb⟩
            exact hK _ _ hb rfl
          -- 1: move t57
          · intro w1 hg Ar seen
            obtain ⟨v0, e0, h0⟩ := seen.dep 0 (d := 57) (by kernel_rfl) (by kernel_rfl) rfl
            rcases h0 with rfl
            refine does_plain rfl fun K Q' hK => ?_
            go_simp; exact hK _ _ (Grow.refl _) rfl
          -- 2: load 39 t7
          · intro w1 hg Ar seen
            obtain ⟨v1, e1, h1⟩ := seen.dep 1 (d := 58) (by kernel_rfl) (by kernel_rfl) rfl
            rcases h1 with rfl
            have s7 := seen.slot 7 (v := .pointer (some ⟨p, 0, none⟩)) (by kernel_rfl) rfl
            refine does_on rfl (by kernel_rfl) e1 fun K Q' hK => ?_
            clear e1
            refine wp_load_row 39 _ rfl p (by simp [Act.eval, s7]) _ _ _ _ ((hg.block _ (block_lt B6.out.obj)).trans B6.out.obj) Try.underlying39 rfl (by rw [objCells_size]; exact oSizeO) ?_
            exact hK _ _ (Grow.refl _) rfl
          -- 3: move t8
          · intro w1 hg Ar seen
            obtain ⟨v1, e1, h1⟩ := seen.dep 1 (d := 58) (by kernel_rfl) (by kernel_rfl) rfl
            rcases h1 with rfl
            have s8 := seen.slot 8 (v := .int .i64 t) (by kernel_rfl) rfl
            refine does_on rfl (by kernel_rfl) e1 fun K Q' hK => ?_
            clear e1
            go_simp; exact hK _ _ (Grow.refl _) rfl
          -- 4: call fn16<life.Move> [t59, t60] T[39, 2]
          · intro w1 hg Ar seen
            obtain ⟨v2, e2, h2⟩ := seen.dep 2 (d := 59) (by kernel_rfl) (by kernel_rfl) rfl
            rcases h2 with rfl
            obtain ⟨v3, e3, h3⟩ := seen.dep 3 (d := 60) (by kernel_rfl) (by kernel_rfl) rfl
            rcases h3 with rfl
            obtain ⟨v1, e1, h1⟩ := seen.dep 1 (d := 58) (by kernel_rfl) (by kernel_rfl) rfl
            rcases h1 with rfl
            refine does_on rfl (by kernel_rfl) e1 fun K Q' hK => ?_
            clear e1
            go_simp
            refine (move_any O s t _ (HM6.out.below hg)).mono ?_
            rintro e u ⟨s', rfl, hm, _, hb⟩
            exact hK _ _ hb ⟨s', rfl, hm⟩
          -- 5: load 39 t7
          · intro w1 hg Ar seen
            obtain ⟨v1, e1, h1⟩ := seen.dep 1 (d := 58) (by kernel_rfl) (by kernel_rfl) rfl
            rcases h1 with rfl
            have s7 := seen.slot 7 (v := .pointer (some ⟨p, 0, none⟩)) (by kernel_rfl) rfl
            refine does_on rfl (by kernel_rfl) e1 fun K Q' hK => ?_
            clear e1
            refine wp_load_row 39 _ rfl p (by simp [Act.eval, s7]) _ _ _ _ ((hg.block _ (block_lt B6.out.obj)).trans B6.out.obj) Try.underlying39 rfl (by rw [objCells_size]; exact oSizeO) ?_
            exact hK _ _ (Grow.refl _) rfl
          -- 6: move t8
          · intro w1 hg Ar seen
            obtain ⟨v1, e1, h1⟩ := seen.dep 1 (d := 58) (by kernel_rfl) (by kernel_rfl) rfl
            rcases h1 with rfl
            have s8 := seen.slot 8 (v := .int .i64 t) (by kernel_rfl) rfl
            refine does_on rfl (by kernel_rfl) e1 fun K Q' hK => ?_
            clear e1
            go_simp; exact hK _ _ (Grow.refl _) rfl
          -- 7: call fn17<locksmithref10.Move> [t62, t63] T[39, 2]
          · intro w1 hg Ar seen
            obtain ⟨v5, e5, h5⟩ := seen.dep 5 (d := 62) (by kernel_rfl) (by kernel_rfl) rfl
            rcases h5 with rfl
            obtain ⟨v6, e6, h6⟩ := seen.dep 6 (d := 63) (by kernel_rfl) (by kernel_rfl) rfl
            rcases h6 with rfl
            obtain ⟨v1, e1, h1⟩ := seen.dep 1 (d := 58) (by kernel_rfl) (by kernel_rfl) rfl
            rcases h1 with rfl
            refine does_on rfl (by kernel_rfl) e1 fun K Q' hK => ?_
            clear e1
            go_simp
            refine (refMove_any O s t _ (HM6.out.below hg)).mono ?_
            rintro e u ⟨rfl, hb⟩
            exact hK _ _ hb rfl
          -- 8: call fn15<locksmithref10.Same> [t61, t64] T[39, 39]
          · intro w1 hg Ar seen
            obtain ⟨v4, e4, h4⟩ := seen.dep 4 (d := 61) (by kernel_rfl) (by kernel_rfl) rfl
            obtain ⟨v7, e7, h7⟩ := seen.dep 7 (d := 64) (by kernel_rfl) (by kernel_rfl) rfl
            rcases h7 with rfl
            obtain ⟨v1, e1, h1⟩ := seen.dep 1 (d := 58) (by kernel_rfl) (by kernel_rfl) rfl
            rcases h1 with rfl
            refine does_on rfl (by kernel_rfl) e1 fun K Q' hK => ?_
            clear e1
            obtain ⟨s', rfl, hm⟩ := h4
            go_simp
            refine (same_any (movedOf O t) s' s _ hm ((HM6.out.below hg).moved t)).mono ?_
            rintro e u ⟨rfl, hb⟩
            exact hK _ _ hb rfl
          -- 9: pick t58 t65 false
          · intro w1 hg Ar seen
            obtain ⟨v1, e1, h1⟩ := seen.dep 1 (d := 58) (by kernel_rfl) (by kernel_rfl) rfl
            rcases h1 with rfl
            obtain ⟨v8, e8, h8⟩ := seen.dep 8 (d := 65) (by kernel_rfl) (by kernel_rfl) rfl
            rcases h8 with rfl
            refine does_plain rfl fun K Q' hK => ?_
            go_simp; exact hK _ _ (Grow.refl _) rfl
          -- 10: move t66
          · intro w1 hg Ar seen
            obtain ⟨v9, e9, h9⟩ := seen.dep 9 (d := 66) (by kernel_rfl) (by kernel_rfl) rfl
            rcases h9 with rfl
            refine does_plain rfl fun K Q' hK => ?_
            go_simp; exact hK _ _ (Grow.refl _) rfl
          -- 11: move t12
          · intro w1 hg Ar seen
            obtain ⟨v10, e10, h10⟩ := seen.dep 10 (d := 67) (by kernel_rfl) (by kernel_rfl) rfl
            rcases h10 with rfl
            have s12 := seen.slot 12 (v := .int .i64 tt) (by kernel_rfl) rfl
            refine does_on rfl (by kernel_rfl) e10 fun K Q' hK => ?_
            clear e10
            go_simp; exact hK _ _ (Grow.refl _) rfl
          -- 12: move t14
          · intro w1 hg Ar seen
            obtain ⟨v10, e10, h10⟩ := seen.dep 10 (d := 67) (by kernel_rfl) (by kernel_rfl) rfl
            rcases h10 with rfl
            have s14 := seen.slot 14 (v := .int .i64 tt) (by kernel_rfl) rfl
            refine does_on rfl (by kernel_rfl) e10 fun K Q' hK => ?_
            clear e10
            go_simp; exact hK _ _ (Grow.refl _) rfl
          -- 13: binOp BinOp.eql 2 t68 t69 2
          · intro w1 hg Ar seen
            obtain ⟨v11, e11, h11⟩ := seen.dep 11 (d := 68) (by kernel_rfl) (by kernel_rfl) rfl
            rcases h11 with rfl
            obtain ⟨v12, e12, h12⟩ := seen.dep 12 (d := 69) (by kernel_rfl) (by kernel_rfl) rfl
            rcases h12 with rfl
            obtain ⟨v10, e10, h10⟩ := seen.dep 10 (d := 67) (by kernel_rfl) (by kernel_rfl) rfl
            rcases h10 with rfl
            refine does_on rfl (by kernel_rfl) e10 fun K Q' hK => ?_
            clear e10
            go_simp; exact hK _ _ (Grow.refl _) rfl
          -- 14: pick t67 t70 false
          · intro w1 hg Ar seen
            obtain ⟨v10, e10, h10⟩ := seen.dep 10 (d := 67) (by kernel_rfl) (by kernel_rfl) rfl
            rcases h10 with rfl
            obtain ⟨v13, e13, h13⟩ := seen.dep 13 (d := 70) (by kernel_rfl) (by kernel_rfl) rfl
            rcases h13 with rfl
            refine does_plain rfl fun K Q' hK => ?_
            go_simp; exact hK _ _ (Grow.refl _) rfl
          -- 15: move t71
          · intro w1 hg Ar seen
            obtain ⟨v14, e14, h14⟩ := seen.dep 14 (d := 71) (by kernel_rfl) (by kernel_rfl) rfl
            rcases h14 with rfl
            refine does_plain rfl fun K Q' hK => ?_
            go_simp; exact hK _ _ (Grow.refl _) rfl
          -- 16: move t13
          · intro w1 hg Ar seen
            obtain ⟨v15, e15, h15⟩ := seen.dep 15 (d := 72) (by kernel_rfl) (by kernel_rfl) rfl
            rcases h15 with rfl
            have s13 := seen.slot 13 (v := .bool hh) (by kernel_rfl) rfl
            refine does_on rfl (by kernel_rfl) e15 fun K Q' hK => ?_
            clear e15
            go_simp; exact hK _ _ (Grow.refl _) rfl
          -- 17: move t15
          · intro w1 hg Ar seen
            obtain ⟨v15, e15, h15⟩ := seen.dep 15 (d := 72) (by kernel_rfl) (by kernel_rfl) rfl
            rcases h15 with rfl
            have s15 := seen.slot 15 (v := .bool hh) (by kernel_rfl) rfl
            refine does_on rfl (by kernel_rfl) e15 fun K Q' hK => ?_
            clear e15
            go_simp; exact hK _ _ (Grow.refl _) rfl
          -- 18: binOp BinOp.eql 4 t73 t74 4
          · intro w1 hg Ar seen
            obtain ⟨v16, e16, h16⟩ := seen.dep 16 (d := 73) (by kernel_rfl) (by kernel_rfl) rfl
            rcases h16 with rfl
            obtain ⟨v17, e17, h17⟩ := seen.dep 17 (d := 74) (by kernel_rfl) (by kernel_rfl) rfl
            rcases h17 with rfl
            obtain ⟨v15, e15, h15⟩ := seen.dep 15 (d := 72) (by kernel_rfl) (by kernel_rfl) rfl
            rcases h15 with rfl
            refine does_on rfl (by kernel_rfl) e15 fun K Q' hK => ?_
            clear e15
            go_simp; exact hK _ _ (Grow.refl _) rfl
          -- 19: pick t72 t75 false
          · intro w1 hg Ar seen
            obtain ⟨v15, e15, h15⟩ := seen.dep 15 (d := 72) (by kernel_rfl) (by kernel_rfl) rfl
            rcases h15 with rfl
            obtain ⟨v18, e18, h18⟩ := seen.dep 18 (d := 75) (by kernel_rfl) (by kernel_rfl) rfl
            rcases h18 with rfl
            refine does_plain rfl fun K Q' hK => ?_
            go_simp; exact hK _ _ (Grow.refl _) rfl
      intro w1 hg
      refine upon_w' (js := [0, 1, 2, 3, 4, 5, 6, 7, 8, 9, 10, 11, 12, 13, 14, 15, 16, 17, 18, 19]) (by rfl) ?_
      refine upon_c (x := some 57) (by kernel_rfl) rfl fun v0 h0 => ?_
      rcases h0 with rfl
      refine upon_c (x := some 58) (by kernel_rfl) rfl fun v1 h1 => ?_
      rcases h1 with rfl
      refine upon_c (x := some 59) (by kernel_rfl) rfl fun v2 h2 => ?_
      rcases h2 with rfl
      refine upon_c (x := some 60) (by kernel_rfl) rfl fun v3 h3 => ?_
      rcases h3 with rfl
      refine upon_c (x := some 61) (by kernel_rfl) rfl fun v4 h4 => ?_
      refine upon_c (x := some 62) (by kernel_rfl) rfl fun v5 h5 => ?_
      rcases h5 with rfl
      refine upon_c (x := some 63) (by kernel_rfl) rfl fun v6 h6 => ?_
      rcases h6 with rfl
      refine upon_c (x := some 64) (by kernel_rfl) rfl fun v7 h7 => ?_
      rcases h7 with rfl
      refine upon_c (x := some 65) (by kernel_rfl) rfl fun v8 h8 => ?_
      rcases h8 with rfl
      refine upon_c (x := some 66) (by kernel_rfl) rfl fun v9 h9 => ?_
      rcases h9 with rfl
      refine upon_c (x := some 67) (by kernel_rfl) rfl fun v10 h10 => ?_
      rcases h10 with rfl
      refine upon_c (x := some 68) (by kernel_rfl) rfl fun v11 h11 => ?_
      rcases h11 with rfl
      refine upon_c (x := some 69) (by kernel_rfl) rfl fun v12 h12 => ?_
      rcases h12 with rfl
      refine upon_c (x := some 70) (by kernel_rfl) rfl fun v13 h13 => ?_
      rcases h13 with rfl
      refine upon_c (x := some 71) (by kernel_rfl) rfl fun v14 h14 => ?_
      rcases h14 with rfl
      refine upon_c (x := some 72) (by kernel_rfl) rfl fun v15 h15 => ?_
      rcases h15 with rfl
      refine upon_c (x := some 73) (by kernel_rfl) rfl fun v16 h16 => ?_
      rcases h16 with rfl
      refine upon_c (x := some 74) (by kernel_rfl) rfl fun v17 h17 => ?_
      rcases h17 with rfl
      refine upon_c (x := some 75) (by kernel_rfl) rfl fun v18 h18 => ?_
      rcases h18 with rfl
      refine upon_c (x := some 76) (by kernel_rfl) rfl fun v19 h19 => ?_
      rcases h19 with rfl
      refine upon_n ?_
      go_wp2_with fail
      go_ret
      exact ⟨rfl, HBW.out.trans (Below.mono (B6.out.bel.trans (Below.mono hg (Nat.le_of_lt (block_lt B6.out.obj)))) HZP.out)⟩
end Go.Proofs.Ytkmagdhbbhemhaa
