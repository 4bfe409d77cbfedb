/- TtlvDecodes' walk. -/
import Derived.Test.YtmpajhacigjloaaDoorTtlZ
import Derived.Test.YtmpajhacigjloaaDoorRefT8
import Derived.Test.YtmpajhacigjloaaDoorInts
namespace Go.Proofs.YtmpajhacigjloaaDoor
open Go.RowKit
set_option linter.unusedVariables false
set_option linter.unusedSimpArgs false
set_option maxRecDepth 1000000
set_option maxHeartbeats 6400000
theorem wpList_load_on6 {P : Program} {w : World} {ops : Array Oper} {rest : List Oper} {o : Oper} {a : Act} {Q : Exit → Act → World → Prop} (ty : TypeId) (x : Operand) (ho : o.op = .load ty x) (hgd : Region.wanted o (yielded ops a.tmps) = true)
    (g : Nat) (hx : a.eval x = .pointer (some ⟨g, 0, none⟩)) (t : TypeId) (cs : Array Value) (fr : Nat × Nat) (d : TypeDesc) (hg : w.heap[g]? = some (.cells cs t fr))
    (hu : P.underlying ty = some d) (hd : (match d with | .struct _ | .array _ _ => true | _ => false) = true) (hi : (P.info? ty).map (·.size) = some cs.size)
    (h : wpList P ops Q rest (a.put o.dst (.agg cs)) w) : wpList P ops Q (o :: rest) a w := wpList_load_on hgd ty x ho g hx t cs fr d hg hu hd hi h
/-- The loop that turns bytes. -/
structure BxL (w : World) (a : Option Addr) (n c : Nat) (y : Value) (wr : World) : Prop where
  ex : ∃ (k : Nat) (l : List UInt8), y = .int .i64 (k : Int) ∧ k ≤ 3 ∧ wr.ownsRow w.heap.size 5 1 (.slice a n c) n (l.map B8) ∧ Below w.heap.size w wr
theorem ttlvDecodes_walk (aL : Option Addr) (nL cL : Nat) (l : List R6) (aR : Option Addr) (nR cR : Nat) (lr : List UInt8) (zh : Int) (hz : -9223372036854775808 ≤ zh ∧ zh ≤ 9223372036854775807) (aI : Option Addr) (nI cI : Nat) (li : List Int) (aY : Option Addr) (nY cY : Nat) (lb2 : List UInt8) (w : World)
    (hal : R6Args w aL nL l) (hr : RdB w aR nR lr) (hno : aR = none → cR = 0) (hnc : nR ≤ cR) (hn : nR ≤ 140737488355328) (hin : ArgSl 1 IntR w (.slice aI nI cI) li) (hby : RdB w aY nY lb2) (hT : UT w) :
    Calls Tryd.prog 10 #[.slice aL nL cL, .slice aR nR cR, .int .i64 zh, .slice aI nI cI, .slice aY nY cY] w fun e w' => e = .returned (.bool true) ∧ Below w.heap.size w w' := by
  have HAL := hid hal; have HT := hid hT; have HRD := hid hr; have HIN := hid hin; have HBY := hid hby
  have HNN := hid (And.intro hno (And.intro hnc hn))
  have HW0 := hid (tree6_wt l)
  clear hal hT hr hno hnc hn hin hby
  go_enter Tryd.func10, Tryd.ntmps10
  go_wp2_with fail
  refine (few_all aR nR cR lr _ HRD.out HNN.out.2.1 HNN.out.2.2 HNN.out.1).mono ?_
  rintro e w2 ⟨aF, cF, rfl, ho, hb⟩
  dsimp only
  have HO := hid ho; have HB := hid hb
  clear ho hb
  go_upto_if 25 with (fail)
  go_cut [11] (fun v wx => ∃ (a : Option Addr) (n c : Nat) (l : List UInt8), v = .slice a n c ∧ GB wx a n c l ∧ Below w.heap.size w wx)
  case first =>
    as_aux_lemma =>
    by_cases hh : 0 < zh.tmod 5
    · have hw5 : IntKind.i64.wrap (zh.tmod 5) = zh.tmod 5 := by
        have h1 := Int.lt_tmod_of_pos zh (show (0 : Int) < 5 by omega)
        have h2 := Int.tmod_lt_of_pos zh (show (0 : Int) < 5 by omega)
        exact IntWalk.i64_in _ (by omega)
      go_wp2_with fail
      refine (tree_any aL nL cL l 30 0 w2 (by decide) (HAL.out.below HB.out)).mono ?_
      rintro e w3 ⟨hb, v, rfl, hvi, hvo, hvf⟩
      dsimp only
      have HB3 := hid (HB.out.trans (Below.mono hb HB.out.size))
      have HO3 := hid ((Chg.of_below hb []).owns HO.out (fun _ _ hm => by cases hm))
      have HVO := hid hvo
      have HWT : Hid (v.it.wt ≤ 1000000) := by have h := HW0.out; rw [← hvi] at h; show _ ≤ _; omega
      clear hb hvi hvo hvf hw5 hh HO HB
      go_wp2_with fail
      refine (rEncode_any v _ HVO.out HWT.out (HT.out.below HB3.out)).mono ?_
      intro e w4 h
      have HB4 := hid (HB3.out.trans (Below.mono h.1 HB3.out.size))
      have HO4 := hid ((Chg.of_below h.1 []).owns HO3.out (fun _ _ hm => by cases hm))
      obtain ⟨aE, nE, cE, lE, zE, rfl, hE⟩ : ∃ a n c l z, e = .returned (.tuple #[.slice a n c, .int .i64 z]) ∧ (z = 0 → GB w4 a n c l) := by
        rcases h.2 with ⟨_, rfl⟩ | ⟨_, a, n, c, rfl, hg⟩
        · exact ⟨none, 0, 0, [], 1, rfl, fun h => by cases h⟩
        · exact ⟨a, n, c, _, 0, rfl, fun _ => hg⟩
      dsimp only
      have HE := hid hE
      clear hE h HB3 HO3 HVO HWT
      go_upto_if 33 with (fail)
      go_cut [11] (fun v wx => ∃ (a : Option Addr) (n c : Nat) (l : List UInt8), v = .slice a n c ∧ wx.ownsRow w.heap.size 5 1 (.slice a n c) n (l.map B8) ∧ n ≤ 140737488355328 ∧ Below w.heap.size w wx)
      case first =>
        by_cases hz0 : zE = 0
        · subst hz0
          have HGE := hid (HE.out rfl)
          go_wp2_with fail
          refine (few_all aE nE cE lE _ HGE.out.rd HGE.out.nc HGE.out.le HGE.out.no).mono ?_
          rintro e w5 ⟨aD, cD, rfl, ho, hb⟩
          dsimp only
          have HO5 := hid (own_lower6 ho HB4.out.size)
          have HB5 := hid (HB4.out.trans (Below.mono hb HB4.out.size))
          clear ho hb
          go_wp2_with fail
          go_meet
          exact ⟨_, _, _, _, rfl, HO5.out, HGE.out.le, HB5.out⟩
        · have hzz : (zE == 0) = false := beq_eq_false_iff_ne.2 hz0
          go_wp2_with fail
          go_meet
          exact ⟨_, _, _, _, rfl, HO4.out, HNN.out.2.2, HB4.out⟩
      case rest =>
        obtain ⟨a, n, c, lb, rfl, ho, hn, hb⟩ := hcut
        have HO := hid ho; have HN := hid hn; have HB := hid hb
        clear ho hn hb HO4 HB4 HE
        go_wp2_with fail
        refine (pick_any zh 4 _ (by omega) (by omega)).mono ?_
        rintro e wz ⟨rfl, rfl⟩
        dsimp only
        generalize pick zh 4 = z4 at *
        by_cases h4 : z4 = 0
        · as_aux_lemma =>
          subst h4
          go_wp2_with fail
          go_loopw [14] (fun y wr => BxL w a n c y wr) (fun y _ => 3 - (intOf y).toNat)
          case atStart => exact ⟨⟨0, lb, rfl, by omega, HO.out, HB.out⟩⟩
          case round =>
            as_aux_lemma =>
            obtain ⟨k, lk, rfl, hk3, ho, hb⟩ := hrel.ex
            clear hrel HO HB
            have HO := hid ho; have HB := hid hb
            clear ho hb
            by_cases k1 : k < nI
            · have k1z : (k : Int) < (nI : Int) := by omega
              by_cases k2 : k < nY
              · have k2z : (k : Int) < (nY : Int) := by omega
                by_cases k3 : k < 3
                · have k3z : (k : Int) < 3 := by omega
                  by_cases k4 : 0 < n
                  · have k4z : (0 : Int) < (n : Int) := by omega
                    obtain ⟨_, _, h3g⟩ := own_slice HO.out
                    obtain ⟨g, rfl, hg1, hg2⟩ := h3g (by omega)
                    obtain ⟨bI, oI, zk, rfl, hz1, hz2, hz3⟩ := Ints.get HIN.out k1
                    obtain ⟨bY, oY, rfl, hy1⟩ := HBY.out.cell k k2
                    have hy2 := hy1 k k2
                    have HCI := hid ((Chg.of_below HB.out []).cell hz3 (by simp))
                    have HCY := hid ((Chg.of_below HB.out []).cell hy2 (by simp))
                    have hlo := pick_lo zk n (by omega)
                    have hhi := pick_hi zk n (by omega)
                    obtain ⟨i, hi⟩ := Int.eq_ofNat_of_zero_le hlo
                    have HPI := hid hi
                    have hin : i < n := by omega
                    have hinz : (i : Int) < (n : Int) := by omega
                    clear hlo hhi hi hz1 hz2 hz3 hy1 hy2 h3g hg1 hg2
                    have hn62 : (n : Int) ≤ 4611686018427387904 := by have := HN.out; omega
                    have HCX := hid (ownB_cell HO.out i hin)
                    have HX := hid (bits_xor8 (lk.getD i 0) (lb2.getD k 0))
                    have HGW : Hid (w.heap.size ≤ g) := (HO.out.lt g rfl).1
                    unfold B8 at HCX
                    generalize lk.getD i 0 = x1 at *
                    generalize lb2.getD k 0 = x2 at *
                    go_upto_region 11 with (fail)
                    refine wp_region_each 16 [.eq (.slice (some ⟨g, 0, none⟩) n c), .eq (.slice (some ⟨bI, oI, none⟩) nI cI), .eq (.int .i64 (k : Int)), .eq (.pointer (some ⟨bI, oI + k, none⟩)), .eq (.int .i64 zk), .eq (.slice (some ⟨g, 0, none⟩) n c), .eq (.int .i64 (n : Int)), .eq (.int .i64 (i : Int)), .eq (.pointer (some ⟨g, i, none⟩)), .eq (.int .u8 (x1.toNat : Int)), .eq (.slice (some ⟨bY, oY, none⟩) nY cY), .eq (.int .i64 (k : Int)), .eq (.pointer (some ⟨bY, oY + k, none⟩)), .eq (.int .u8 (x2.toNat : Int)), .eq (.int .u8 ((x1 ^^^ x2).toNat : Int)), .eq (.pointer (some ⟨g, i, none⟩))] (by kernel_rfl) (by kernel_rfl) (by kernel_rfl) (by kernel_rfl) ?_ ?_
                    · all_goals
                        refine each_5 ?_ ?_ ?_ ?_ ?_ (each_5 ?_ ?_ ?_ ?_ ?_ (each_5 ?_ ?_ ?_ ?_ ?_ (each_c ?_ (each_n))))
                        · intro w1 hg Ar seen
                          have s11 := seen.sl 11 (.slice (some ⟨g, 0, none⟩) n c)
                          refine does_plain rfl fun K Q' hK => ?_
                          go_simp; exact hK _ _ (Grow.refl _) rfl
                        · intro w1 hg Ar seen
                          have s3 := seen.sl 3 (.slice (some ⟨bI, oI, none⟩) nI cI)
                          refine does_plain rfl fun K Q' hK => ?_
                          go_simp; exact hK _ _ (Grow.refl _) rfl
                        · intro w1 hg Ar seen
                          have s14 := seen.sl 14 (.int .i64 (k : Int))
                          refine does_plain rfl fun K Q' hK => ?_
                          go_simp; exact hK _ _ (Grow.refl _) rfl
                        · intro w1 hg Ar seen
                          have e1 := seen.de 1 64
                          have e2 := seen.de 2 65
                          refine does_plain rfl fun K Q' hK => ?_
                          go_simp; exact hK _ _ (Grow.refl _) rfl
                        · intro w1 hg Ar seen
                          have e3 := seen.de 3 66
                          refine does_plain rfl fun K Q' hK => ?_
                          have hc := (Chg.of_below hg []).cell HCI.out (by simp)
                          go_simp; exact hK _ _ (Grow.refl _) rfl
                        · intro w1 hg Ar seen
                          have s11 := seen.sl 11 (.slice (some ⟨g, 0, none⟩) n c)
                          refine does_plain rfl fun K Q' hK => ?_
                          go_simp; exact hK _ _ (Grow.refl _) rfl
                        · intro w1 hg Ar seen
                          have e5 := seen.de 5 68
                          refine does_plain rfl fun K Q' hK => ?_
                          go_simp; exact hK _ _ (Grow.refl _) rfl
                        · intro w1 hg Ar seen
                          have e4 := seen.de 4 67
                          have e6 := seen.de 6 69
                          refine does_plain rfl fun K Q' hK => ?_
                          go_simp
                          refine (pick_any zk n _ (by omega) (by omega)).mono ?_
                          rintro e u ⟨rfl, rfl⟩
                          exact hK _ _ (Grow.refl _) (congrArg (Value.int .i64) HPI.out)
                        · intro w1 hg Ar seen
                          have e0 := seen.de 0 63
                          have e7 := seen.de 7 70
                          refine does_plain rfl fun K Q' hK => ?_
                          go_simp; exact hK _ _ (Grow.refl _) rfl
                        · intro w1 hg Ar seen
                          have e8 := seen.de 8 71
                          refine does_plain rfl fun K Q' hK => ?_
                          have hc := (Chg.of_below hg []).cell HCX.out (by simp)
                          go_simp; exact hK _ _ (Grow.refl _) rfl
                        · intro w1 hg Ar seen
                          have s4 := seen.sl 4 (.slice (some ⟨bY, oY, none⟩) nY cY)
                          refine does_plain rfl fun K Q' hK => ?_
                          go_simp; exact hK _ _ (Grow.refl _) rfl
                        · intro w1 hg Ar seen
                          have s14 := seen.sl 14 (.int .i64 (k : Int))
                          refine does_plain rfl fun K Q' hK => ?_
                          go_simp; exact hK _ _ (Grow.refl _) rfl
                        · intro w1 hg Ar seen
                          have e10 := seen.de 10 73
                          have e11 := seen.de 11 74
                          refine does_plain rfl fun K Q' hK => ?_
                          go_simp; exact hK _ _ (Grow.refl _) rfl
                        · intro w1 hg Ar seen
                          have e12 := seen.de 12 75
                          refine does_plain rfl fun K Q' hK => ?_
                          have hc := (Chg.of_below hg []).cell HCY.out (by simp)
                          go_simp; exact hK _ _ (Grow.refl _) rfl
                        · intro w1 hg Ar seen
                          have e9 := seen.de 9 72
                          have e13 := seen.de 13 76
                          refine does_plain rfl fun K Q' hK => ?_
                          have hx := HX.out
                          go_simp; exact hK _ _ (Grow.refl _) rfl
                        · intro w1 hg Ar seen
                          have e0 := seen.de 0 63
                          have e7 := seen.de 7 70
                          refine does_plain rfl fun K Q' hK => ?_
                          go_simp; exact hK _ _ (Grow.refl _) rfl
                    intro w1 hg
                    refine upon_w' (js := [0, 1, 2, 3, 4, 5, 6, 7, 8, 9, 10, 11, 12, 13, 14, 15]) (by rfl) ?_
                    refine upon_e (some 63) (upon_e (some 64) (upon_e (some 65) (upon_e (some 66) (upon_e (some 67) (upon_e (some 68) (upon_e (some 69) (upon_e (some 70) (upon_e (some 71) (upon_e (some 72) (upon_e (some 73) (upon_e (some 74) (upon_e (some 75) (upon_e (some 76) (upon_e (some 77) (upon_e (some 78) (upon_n ?_))))))))))))))))
                    have HG := hid hg
                    clear hg
                    have HO1 := hid ((Chg.of_below HG.out []).owns HO.out (fun _ _ hm => by cases hm))
                    have HB1 := hid (HB.out.trans (Below.mono HG.out HB.out.size))
                    have HS := hid (ownB_set HO1.out i (x1 ^^^ x2))
                    have HCB := hid (HB1.out.setCell (p := ⟨g, i, none⟩) HGW.out (B8 (x1 ^^^ x2)))
                    unfold B8 at HS HCB
                    have hfz := HO1.out.frozenAt i
                    have hcx := (Chg.of_below HG.out []).cell HCX.out (by simp)
                    clear HO1 HB1 HO HB HCX HCI HCY
                    go_simp
                    go_wp2_with fail
                    have HRR : BxL w (some ⟨g, 0, none⟩) n c (.int .i64 ((k : Int) + 1)) _ := ⟨⟨k + 1, _, by go_num, by omega, HS.out, HCB.out⟩⟩
                    go_roundw
                    case rel => first | exact HRR | ((repeat apply Exists.intro); exact HRR) | ((repeat apply Exists.intro); exact ⟨HRR, rfl⟩)
                    case measure => (simp [intOf] <;> omega)
                  · have k4z : ¬ (0 : Int) < (n : Int) := by omega
                    go_wp2_with fail
                    go_meet
                    exact ⟨_, _, _, _, rfl, GB.of_own HO.out (by have := HN.out; omega), HB.out⟩
                · have k3z : ¬ (k : Int) < 3 := by omega
                  go_wp2_with fail
                  go_meet
                  exact ⟨_, _, _, _, rfl, GB.of_own HO.out (by have := HN.out; omega), HB.out⟩
              · have k2z : ¬ (k : Int) < (nY : Int) := by omega
                go_wp2_with fail
                go_meet
                exact ⟨_, _, _, _, rfl, GB.of_own HO.out (by have := HN.out; omega), HB.out⟩
            · have k1z : ¬ (k : Int) < (nI : Int) := by omega
              go_wp2_with fail
              go_meet
              exact ⟨_, _, _, _, rfl, GB.of_own HO.out (by have := HN.out; omega), HB.out⟩
        by_cases h5 : z4 = 1
        · as_aux_lemma =>
          subst h5
          have hsl := fun k hk w => run_slice_front (P := Tryd.prog) 23 5 1 Tryd.underlying23 (fun w => by kernel_rfl) a n c k hk w
          by_cases k1 : 0 < nI
          · have k1z : (0 : Int) < (nI : Int) := by omega
            obtain ⟨bI, oI, zk, rfl, hz1, hz2, hz3⟩ := Ints.get HIN.out k1
            rw [Nat.add_zero] at hz3
            have hci := (Chg.of_below HB.out []).cell hz3 (by simp)
            have hn1 : IntKind.i64.wrap ((n : Int) + 1) = (n : Int) + 1 := IntWalk.i64_in _ (by have := HN.out; omega)
            have hlo := pick_lo zk ((n : Int) + 1) (by omega)
            have hhi := pick_hi zk ((n : Int) + 1) (by omega)
            go_wp2_with fail
            refine (pick_any zk ((n : Int) + 1) _ (by omega) (by have := HN.out; omega)).mono ?_
            rintro e wz ⟨rfl, rfl⟩
            dsimp only
            generalize pick zk ((n : Int) + 1) = z at *
            obtain ⟨i, rfl⟩ := Int.eq_ofNat_of_zero_le hlo
            have hi : i ≤ n := by omega
            have hncD := (own_slice HO.out).1
            have hsk := fun w => hsl i (by omega) w
            clear hsl
            go_wp2_with fail
            go_meet
            exact ⟨_, _, _, _, rfl, (GB.of_own HO.out (by have := HN.out; omega)).take hi, HB.out⟩
          · have k1z : ¬ (0 : Int) < (nI : Int) := by omega
            clear hsl
            go_wp2_with fail
            go_meet
            exact ⟨_, _, _, _, rfl, GB.of_own HO.out (by have := HN.out; omega), HB.out⟩
        by_cases h6 : z4 = 2
        · as_aux_lemma =>
          subst h6
          by_cases k1 : 0 < nI
          · have k1z : (0 : Int) < (nI : Int) := by omega
            by_cases k4 : 8 ≤ n
            · have k4z : (8 : Int) ≤ (n : Int) := by omega
              have k7 : (7 : Int) < (n : Int) := by omega
              obtain ⟨_, _, h3g⟩ := own_slice HO.out
              obtain ⟨g, rfl, hg1, hg2⟩ := h3g (by omega)
              obtain ⟨bI, oI, zk, rfl, hz1, hz2, hz3⟩ := Ints.get HIN.out k1
              rw [Nat.add_zero] at hz3
              have HCI := hid ((Chg.of_below HB.out []).cell hz3 (by simp))
              have hlo := pick_lo zk 17 (by omega)
              have hhi := pick_hi zk 17 (by omega)
              obtain ⟨i, hi⟩ := Int.eq_ofNat_of_zero_le hlo
              have HPI := hid hi
              have hin : (i : Int) < 17 := by omega
              clear hlo hhi hi hz1 hz2 hz3 h3g hg1 hg2
              have HW8 : Hid (IntKind.u8.wrap (i : Int) = (i : Int)) := IntWalk.u8_in _ (by omega)
              have HCX := hid (ownB_cell HO.out 7 (by omega))
              unfold B8 at HCX
              generalize lb.getD 7 0 = x1 at *
              obtain ⟨V1, hV1⟩ : ∃ V, IntKind.u8.wrap ((x1.toNat : Int) + (i : Int)) = V := ⟨_, rfl⟩
              have HV1 := hid hV1
              obtain ⟨x3, hx3⟩ : ∃ x : UInt8, IntKind.u8.wrap (V1 - 8) = (x.toNat : Int) := by
                refine ⟨UInt8.ofNat (IntKind.u8.wrap (V1 - 8)).toNat, ?_⟩
                rw [IntKind.wrap_u8]
                have h1 : (0 : Int) ≤ (V1 - 8) % 256 ∧ (V1 - 8) % 256 < 256 := by omega
                generalize (V1 - 8) % 256 = V at *
                rw [UInt8.toNat_ofNat']
                omega
              have HV2 := hid hx3
              have HGW : Hid (w.heap.size ≤ g) := (HO.out.lt g rfl).1
              clear hV1 hx3
              go_upto_region 17 with (fail)
              refine wp_region_each 12 [.eq (.slice (some ⟨g, 0, none⟩) n c), .eq (.slice (some ⟨g, 0, none⟩) n c), .eq (.pointer (some ⟨g, 7, none⟩)), .eq (.int .u8 (x1.toNat : Int)), .eq (.slice (some ⟨bI, oI, none⟩) nI cI), .eq (.pointer (some ⟨bI, oI, none⟩)), .eq (.int .i64 zk), .eq (.int .i64 (i : Int)), .eq (.int .u8 (i : Int)), .eq (.int .u8 V1), .eq (.int .u8 (x3.toNat : Int)), .eq (.pointer (some ⟨g, 7, none⟩))] (by kernel_rfl) (by kernel_rfl) (by kernel_rfl) (by kernel_rfl) ?_ ?_
              · all_goals
                  refine each_5 ?_ ?_ ?_ ?_ ?_ (each_5 ?_ ?_ ?_ ?_ ?_ (each_c ?_ (each_c ?_ (each_n))))
                  · intro w1 hg Ar seen
                    have s11 := seen.sl 11 (.slice (some ⟨g, 0, none⟩) n c)
                    refine does_plain rfl fun K Q' hK => ?_
                    go_simp; exact hK _ _ (Grow.refl _) rfl
                  · intro w1 hg Ar seen
                    have s11 := seen.sl 11 (.slice (some ⟨g, 0, none⟩) n c)
                    refine does_plain rfl fun K Q' hK => ?_
                    go_simp; exact hK _ _ (Grow.refl _) rfl
                  · intro w1 hg Ar seen
                    have e1 := seen.de 1 104
                    refine does_plain rfl fun K Q' hK => ?_
                    go_simp; exact hK _ _ (Grow.refl _) rfl
                  · intro w1 hg Ar seen
                    have e2 := seen.de 2 105
                    refine does_plain rfl fun K Q' hK => ?_
                    have hc := (Chg.of_below hg []).cell HCX.out (by simp)
                    go_simp; exact hK _ _ (Grow.refl _) rfl
                  · intro w1 hg Ar seen
                    have s3 := seen.sl 3 (.slice (some ⟨bI, oI, none⟩) nI cI)
                    refine does_plain rfl fun K Q' hK => ?_
                    go_simp; exact hK _ _ (Grow.refl _) rfl
                  · intro w1 hg Ar seen
                    have e4 := seen.de 4 107
                    refine does_plain rfl fun K Q' hK => ?_
                    go_simp; exact hK _ _ (Grow.refl _) rfl
                  · intro w1 hg Ar seen
                    have e5 := seen.de 5 108
                    refine does_plain rfl fun K Q' hK => ?_
                    have hc := (Chg.of_below hg []).cell HCI.out (by simp)
                    go_simp; exact hK _ _ (Grow.refl _) rfl
                  · intro w1 hg Ar seen
                    have e6 := seen.de 6 109
                    refine does_plain rfl fun K Q' hK => ?_
                    go_simp
                    refine (pick_any zk 17 _ (by omega) (by omega)).mono ?_
                    rintro e u ⟨rfl, rfl⟩
                    exact hK _ _ (Grow.refl _) (congrArg (Value.int .i64) HPI.out)
                  · intro w1 hg Ar seen
                    have e7 := seen.de 7 110
                    refine does_plain rfl fun K Q' hK => ?_
                    have hx := HW8.out
                    go_simp; exact hK _ _ (Grow.refl _) rfl
                  · intro w1 hg Ar seen
                    have e3 := seen.de 3 106
                    have e8 := seen.de 8 111
                    refine does_plain rfl fun K Q' hK => ?_
                    have hx := HV1.out
                    go_simp; exact hK _ _ (Grow.refl _) rfl
                  · intro w1 hg Ar seen
                    have e9 := seen.de 9 112
                    refine does_plain rfl fun K Q' hK => ?_
                    have hx := HV2.out
                    go_simp; exact hK _ _ (Grow.refl _) rfl
                  · intro w1 hg Ar seen
                    have e0 := seen.de 0 103
                    refine does_plain rfl fun K Q' hK => ?_
                    go_simp; exact hK _ _ (Grow.refl _) rfl
              intro w1 hg
              refine upon_w' (js := [0, 1, 2, 3, 4, 5, 6, 7, 8, 9, 10, 11]) (by rfl) ?_
              refine upon_e (some 103) (upon_e (some 104) (upon_e (some 105) (upon_e (some 106) (upon_e (some 107) (upon_e (some 108) (upon_e (some 109) (upon_e (some 110) (upon_e (some 111) (upon_e (some 112) (upon_e (some 113) (upon_e (some 114) (upon_n ?_))))))))))))
              have HG := hid hg
              clear hg
              have HO1 := hid ((Chg.of_below HG.out []).owns HO.out (fun _ _ hm => by cases hm))
              have HB1 := hid (HB.out.trans (Below.mono HG.out HB.out.size))
              have HS := hid (ownB_set HO1.out 7 x3)
              have HCB := hid (HB1.out.setCell (p := ⟨g, 7, none⟩) HGW.out (B8 x3))
              unfold B8 at HS HCB
              have hfz := HO1.out.frozenAt 7
              have hcx := (Chg.of_below HG.out []).cell HCX.out (by simp)
              clear HO1 HB1 HO HB HCX HCI
              go_simp
              go_wp2_with fail
              go_meet
              exact ⟨_, _, _, _, rfl, GB.of_own HS.out (by have := HN.out; omega), HCB.out⟩
            · have k4z : ¬ (8 : Int) ≤ (n : Int) := by omega
              go_wp2_with fail
              go_meet
              exact ⟨_, _, _, _, rfl, GB.of_own HO.out (by have := HN.out; omega), HB.out⟩
          · have k1z : ¬ (0 : Int) < (nI : Int) := by omega
            go_wp2_with fail
            go_meet
            exact ⟨_, _, _, _, rfl, GB.of_own HO.out (by have := HN.out; omega), HB.out⟩
        have hz4 : (z4 == 0) = false := beq_eq_false_iff_ne.2 h4
        have hz5 : (z4 == 1) = false := beq_eq_false_iff_ne.2 h5
        have hz6 : (z4 == 2) = false := beq_eq_false_iff_ne.2 h6
        go_wp2_with fail
        go_meet
        exact ⟨_, _, _, _, rfl, GB.of_own HO.out (by have := HN.out; omega), HB.out⟩
    · have hw5 : IntKind.i64.wrap (zh.tmod 5) = zh.tmod 5 := by
        have h1 := Int.lt_tmod_of_pos zh (show (0 : Int) < 5 by omega)
        have h2 := Int.tmod_lt_of_pos zh (show (0 : Int) < 5 by omega)
        exact IntWalk.i64_in _ (by omega)
      have hh2 : zh.tmod 5 ≤ 0 := by omega
      go_wp2_with fail
      go_meet
      exact ⟨_, _, _, _, rfl, GB.of_own HO.out HNN.out.2.2, HB.out⟩
  case rest =>
    obtain ⟨a, n, c, lb, rfl, hg, hb⟩ := hcut
    have HG := hid hg
    clear HB HO HAL HRD HIN HBY HNN HW0 hg
    have HB := hid hb
    clear hb
    go_wp2_with fail
    refine (Decode_any a n c lb _ HG.out (HT.out.below HB.out)).mono ?_
    rintro e w3 ⟨hb3, x, rfl, hxi, hxo, hxf⟩
    dsimp only
    have HB3 := hid (HB.out.trans (Below.mono hb3 HB.out.size))
    have HG3 := hid (HG.out.below hb3)
    have HXI := hid hxi; have HXO := hid hxo
    clear hb3 hxi hxo hxf HB HG
    go_upto_region 19 with (first | (refine wpList_alloc_obj rfl 29 rfl _ iZero ?_) | (refine wpList_store_obj rfl 29 _ _ rfl w3.heap.size rfl _ rfl _ _ (block_new w3 _) rfl iSize (arr_one x) ?_; intro w4 hb5 hc5 hs5; have HK1 := hid hb5; have HC5 := hid hc5; clear hb5 hc5 hs5))
    have hbel : Below w3.heap.size w3 w4 := ((Below.refl _ w3).alloc (Nat.le_refl _) _).trans (HC5.out.below (fun k hk => by rw [List.mem_singleton.1 hk]; exact Nat.le_refl _) (by simp))
    have HB4 := hid (HB3.out.trans (Below.mono hbel HB3.out.size))
    have HG4 := hid (HG3.out.below hbel)
    have HXO4 := hid (HXO.out.below hbel)
    clear hbel HC5 HB3 HG3 HXO
    generalize w3.heap.size = b1 at *
    go_wp2_with fail
    refine (rDecode_any a n c lb _ HG4.out (HT.out.below HB4.out)).mono ?_
    rintro e w6 ⟨hb6, y, rfl, hyi, hyo, hyf⟩
    dsimp only
    have HB6 := hid (HB4.out.trans (Below.mono hb6 HB4.out.size))
    have HXO6 := hid (HXO4.out.below hb6)
    have HK6 := hid ((hb6.block _ (block_lt HK1.out)).trans HK1.out)
    have HYI := hid hyi; have HYO := hid hyo
    clear hb6 hyi hyo hyf HB4 HG4 HXO4 HK1
    go_upto_region 20 with (first | (refine wpList_alloc_obj rfl 29 rfl _ iZero ?_) | (refine wpList_store_obj rfl 29 _ _ rfl w6.heap.size rfl _ rfl _ _ (block_new w6 _) rfl iSize (arr_one y) ?_; intro w7 hb5 hc5 hs5; have HK2 := hid hb5; have HC5 := hid hc5; clear hb5 hc5 hs5))
    have hbel : Below w6.heap.size w6 w7 := ((Below.refl _ w6).alloc (Nat.le_refl _) _).trans (HC5.out.below (fun k hk => by rw [List.mem_singleton.1 hk]; exact Nat.le_refl _) (by simp))
    have HB7 := hid (HB6.out.trans (Below.mono hbel HB6.out.size))
    have HXO7 := hid (HXO6.out.below hbel)
    have HYO7 := hid (HYO.out.below hbel)
    have HK7 := hid ((hbel.block _ (block_lt HK6.out)).trans HK6.out)
    clear hbel HC5 HB6 HXO6 HYO HK6
    generalize w6.heap.size = b2 at *
    generalize (decP lb).2 = zz at *
    go_wp2_with fail
    refine (known6_any _ (HT.out.below HB7.out)).mono ?_
    rintro e w8 ⟨rfl, hb8⟩
    dsimp only
    have HB8 := hid (HB7.out.trans (Below.mono hb8 HB7.out.size))
    have HXO8 := hid (HXO7.out.below hb8)
    have HYO8 := hid (HYO7.out.below hb8)
    have HK8 := hid ((hb8.block _ (block_lt HK7.out)).trans HK7.out)
    have HK9 := hid ((hb8.block _ (block_lt HK2.out)).trans HK2.out)
    clear hb8 HB7 HXO7 HYO7 HK7 HK2
    go_wp2_with (first | (refine wpList_load_on6 29 _ rfl (by kernel_rfl) b1 rfl _ _ _ _ HK8.out Tryd.underlying29 rfl iSize ?_) | (refine wpList_load_on6 29 _ rfl (by kernel_rfl) b2 rfl _ _ _ _ HK9.out Tryd.underlying29 rfl iSize ?_))
    refine (same6_any x y _ HXO8.out HYO8.out).mono ?_
    rintro e w9 ⟨rfl, hb9⟩
    dsimp only
    have hsm : sameI x.it y.it = true := by rw [HXI.out, HYI.out]; exact sameI_yes rfl
    rw [hsm]
    have HB9 := hid (HB8.out.trans (Below.mono hb9 HB8.out.size))
    clear hsm hb9
    go_wp2_with fail
    go_ret
    exact ⟨rfl, HB9.out⟩
end Go.Proofs.YtmpajhacigjloaaDoor
