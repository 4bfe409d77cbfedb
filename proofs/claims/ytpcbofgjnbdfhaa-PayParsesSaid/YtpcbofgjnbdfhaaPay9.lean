/- law15: kids. -/
import Derived.Test.YtpcbofgjnbdfhaaPay7
import Derived.Test.YtpcbofgjnbdfhaaRaw
namespace Go.Proofs.Ytpcbofgjnbdfhaa
open Go.RowKit
set_option linter.unusedVariables false
set_option linter.unusedSimpArgs false
set_option maxRecDepth 100000
set_option maxHeartbeats 1600000
def kidOf (y : RawD) : Itm := { tag := 1 + pick y.a 4, typ := 1 + pick y.b 12 / 6, int := y.c }
def kidV (y : RawD) : ItV := { tag := 1 + pick y.a 4, typ := 1 + pick y.b 12 / 6, int := y.c }
theorem kidV_it (y : RawD) : (kidV y).it = kidOf y := it_flat _ _ _ _ _
theorem kidV_foot (y : RawD) : (kidV y).foot = [] := rfl
def stItem (x : ItV) (T : TypeId) : St Grow := ⟨fun v w => ∃ p, v = .slice (some ⟨p, 0, none⟩) 1 1 ∧ w.heap[p]? = some (.cells x.arr T (0, 0)), fun v w w' h hg => let ⟨p, e, h0⟩ := h; ⟨p, e, (hg.block _ (block_lt h0)).trans h0⟩⟩
/-- What kids makes: the items of raw numbers, in new memory. -/
def KidsMade (l : List RawD) (w : World) (e : Ending) (w' : World) : Prop :=
  ∃ (so : Sl), e = .returned (.slice so.a so.n so.c) ∧ OwnIt 33 w' w.heap.size w.heap.size so ((l.take 8).map kidV) ∧ Below w.heap.size w w'
theorem kids_any (l : List RawD) (aL : Option Addr) (nL cL : Nat) (w : World) (hal : ArgSl 4 RawR w (.slice aL nL cL) l) :
    Calls Try.prog 8 #[.slice aL nL cL] w (KidsMade l w) := by
  obtain ⟨i, hi, hz0, hz1, hz2⟩ := info_parts iInfo
  have HA := hid hal
  have HLEN := hid (argSl_len hal)
  have hnL : nL ≤ 140737488355328 := HLEN.out.2
  clear hal
  generalize hbe : w.heap.size = b
  have HBE := hid hbe; clear hbe
  go_enter Try.func8, Try.ntmps8
  go_wp2_with fail
  go_loopw [3, 4] (fun u y wr => ∃ (k : Nat) (so : Sl), k ≤ nL ∧ k ≤ 8 ∧ y = .int .i64 k ∧ u = .slice so.a so.n so.c ∧ so.n = k ∧ OwnIt 33 wr b b so ((l.take k).map kidV) ∧ Below b w wr) (fun _ y _ => 8 - (intOf y).toNat)
  case atStart => exact ⟨0, {}, Nat.zero_le _, Nat.zero_le _, rfl, rfl, rfl, OwnIt.nil _ _ _ _, Below.refl _ _⟩
  case round =>
    obtain ⟨k, so, hk, hk8, rfl, rfl, hs, ho, hb⟩ := hrel
    have HO := hid ho; have B := hid hb; have HS := hid hs
    clear ho hb hs
    by_cases hlt : k < nL
    · by_cases hlt8 : k < 8
      · obtain ⟨bL, oL, y, hae, hy, hok, hd0, hd1, hd2, hd3⟩ := raw_get HA.out hlt
        have hbel : Below w.heap.size w wr := by rw [HBE.out]; exact B.out
        have C1 := hid (cell_later hbel hd1); have C2 := hid (cell_later hbel hd2); have C3 := hid (cell_later hbel hd3)
        have HBW : Hid (b ≤ wr.heap.size) := by show _ ≤ _; rw [← HBE.out]; exact hbel.size
        have HE : Hid ((l.take (k + 1)).map kidV = (l.take k).map kidV ++ [kidV y]) := by
          show _ = _
          rw [List.take_add_one, hy]; simp
        subst hae
        clear hd0 hd1 hd2 hd3 hbel hy
        have ha0 := pick_lo y.a 4 (by omega)
        have ha1 := pick_hi y.a 4 (by omega)
        have hb0 := pick_lo y.b 12 (by omega)
        have hb1 := pick_hi y.b 12 (by omega)
        go_upto_region 5 with (fail)
        refine wp_region_eachA 23 #[true, true, true, true, true, true, true, true, true, true, true, true, true, true, true, true, true, true, true, true, true, true, true, false, false] [.eq (.slice so.a so.n so.c), .eq (.slice (some ⟨bL, oL, none⟩) nL cL), .eq (.int .i64 (k : Int)), .eq (.pointer (some ⟨bL, oL + k * 4, none⟩)), .eq (.pointer (some ⟨bL, oL + k * 4 + 1, none⟩)), .eq (.int .i64 y.a), .eq (.int .i64 (pick y.a 4)), .eq (.int .i64 (1 + pick y.a 4)), .eq (.slice (some ⟨bL, oL, none⟩) nL cL), .eq (.int .i64 (k : Int)), .eq (.pointer (some ⟨bL, oL + k * 4, none⟩)), .eq (.pointer (some ⟨bL, oL + k * 4 + 2, none⟩)), .eq (.int .i64 y.b), .eq (.int .i64 (pick y.b 12)), .eq (.int .i64 (pick y.b 12 / 6)), .eq (.int .i64 (1 + pick y.b 12 / 6)), .eq (.slice (some ⟨bL, oL, none⟩) nL cL), .eq (.int .i64 (k : Int)), .eq (.pointer (some ⟨bL, oL + k * 4, none⟩)), .eq (.pointer (some ⟨bL, oL + k * 4 + 3, none⟩)), .eq (.int .i64 y.c), .eq (.agg (kidV y).arr), stItem (kidV y) 33] (by kernel_rfl) (by kernel_rfl) (by kernel_rfl) (by kernel_rfl) (by kernel_rfl) ?_ ?_
        · as_aux_lemma =>
            refine each_c (o' := _) ?_ (each_c (o' := _) ?_ (each_c (o' := _) ?_ (each_c (o' := _) ?_ (each_c (o' := _) ?_ (each_c (o' := _) ?_ (each_c (o' := _) ?_ (each_c (o' := _) ?_ (each_c (o' := _) ?_ (each_c (o' := _) ?_ (each_c (o' := _) ?_ (each_c (o' := _) ?_ (each_c (o' := _) ?_ (each_c (o' := _) ?_ (each_c (o' := _) ?_ (each_c (o' := _) ?_ (each_c (o' := _) ?_ (each_c (o' := _) ?_ (each_c (o' := _) ?_ (each_c (o' := _) ?_ (each_c (o' := _) ?_ (each_c (o' := _) ?_ (each_c (o' := _) ?_ (each_n)))))))))))))))))))))))
            -- 0: move t3
            · intro w1 hg Ar seen
              have s3 := seen.slot 3 (v := .slice so.a so.n so.c) (by kernel_rfl) rfl
              refine does_plain rfl fun K Q' hK => ?_
              go_simp; exact hK _ _ (Grow.refl _) rfl
            -- 1: move t0
            · intro w1 hg Ar seen
              have s0 := seen.slot 0 (v := .slice (some ⟨bL, oL, none⟩) nL cL) (by kernel_rfl) rfl
              refine does_plain rfl fun K Q' hK => ?_
              go_simp; exact hK _ _ (Grow.refl _) rfl
            -- 2: move t4
            · intro w1 hg Ar seen
              have s4 := seen.slot 4 (v := .int .i64 (k : Int)) (by kernel_rfl) rfl
              refine does_plain rfl fun K Q' hK => ?_
              go_simp; exact hK _ _ (Grow.refl _) rfl
            -- 3: indexAddr 22 t16 t17
            · intro w1 hg Ar seen
              obtain ⟨v1, e1, h1⟩ := seen.dep 1 (d := 16) (by kernel_rfl) (by kernel_rfl) rfl
              rcases h1 with rfl
              obtain ⟨v2, e2, h2⟩ := seen.dep 2 (d := 17) (by kernel_rfl) (by kernel_rfl) rfl
              rcases h2 with rfl
              refine does_plain rfl fun K Q' hK => ?_
              go_simp; exact hK _ _ (Grow.refl _) rfl
            -- 4: fieldAddr 26 t18 1
            · intro w1 hg Ar seen
              obtain ⟨v3, e3, h3⟩ := seen.dep 3 (d := 18) (by kernel_rfl) (by kernel_rfl) rfl
              rcases h3 with rfl
              refine does_plain rfl fun K Q' hK => ?_
              go_simp; exact hK _ _ (Grow.refl _) rfl
            -- 5: load 3 t19
            · intro w1 hg Ar seen
              obtain ⟨v4, e4, h4⟩ := seen.dep 4 (d := 19) (by kernel_rfl) (by kernel_rfl) rfl
              rcases h4 with rfl
              refine does_plain rfl fun K Q' hK => ?_
              have hc := cell_later hg C1.out
              go_simp; exact hK _ _ (Grow.refl _) rfl
            -- 6: call fn7<locksmithhand.Pick> [t20, 4:i64] T[3, 3]
            · intro w1 hg Ar seen
              obtain ⟨v5, e5, h5⟩ := seen.dep 5 (d := 20) (by kernel_rfl) (by kernel_rfl) rfl
              rcases h5 with rfl
              refine does_plain rfl fun K Q' hK => ?_
              go_simp
              refine (pick_any y.a 4 _ (by omega) (by omega)).mono ?_
              rintro e u ⟨rfl, rfl⟩
              exact hK _ _ (Grow.refl _) rfl
            -- 7: binOp BinOp.add 3 1:i64 t21 3
            · intro w1 hg Ar seen
              obtain ⟨v6, e6, h6⟩ := seen.dep 6 (d := 21) (by kernel_rfl) (by kernel_rfl) rfl
              rcases h6 with rfl
              refine does_plain rfl fun K Q' hK => ?_
              have hs := IntWalk.i64_in (1 + pick y.a 4) (by omega)
              go_simp; exact hK _ _ (Grow.refl _) rfl
            -- 8: move t0
            · intro w1 hg Ar seen
              have s0 := seen.slot 0 (v := .slice (some ⟨bL, oL, none⟩) nL cL) (by kernel_rfl) rfl
              refine does_plain rfl fun K Q' hK => ?_
              go_simp; exact hK _ _ (Grow.refl _) rfl
            -- 9: move t4
            · intro w1 hg Ar seen
              have s4 := seen.slot 4 (v := .int .i64 (k : Int)) (by kernel_rfl) rfl
              refine does_plain rfl fun K Q' hK => ?_
              go_simp; exact hK _ _ (Grow.refl _) rfl
            -- 10: indexAddr 22 t23 t24
            · intro w1 hg Ar seen
              obtain ⟨v8, e8, h8⟩ := seen.dep 8 (d := 23) (by kernel_rfl) (by kernel_rfl) rfl
              rcases h8 with rfl
              obtain ⟨v9, e9, h9⟩ := seen.dep 9 (d := 24) (by kernel_rfl) (by kernel_rfl) rfl
              rcases h9 with rfl
              refine does_plain rfl fun K Q' hK => ?_
              go_simp; exact hK _ _ (Grow.refl _) rfl
            -- 11: fieldAddr 26 t25 2
            · intro w1 hg Ar seen
              obtain ⟨v10, e10, h10⟩ := seen.dep 10 (d := 25) (by kernel_rfl) (by kernel_rfl) rfl
              rcases h10 with rfl
              refine does_plain rfl fun K Q' hK => ?_
              go_simp; exact hK _ _ (Grow.refl _) rfl
            -- 12: load 3 t26
            · intro w1 hg Ar seen
              obtain ⟨v11, e11, h11⟩ := seen.dep 11 (d := 26) (by kernel_rfl) (by kernel_rfl) rfl
              rcases h11 with rfl
              refine does_plain rfl fun K Q' hK => ?_
              have hc := cell_later hg C2.out
              go_simp; exact hK _ _ (Grow.refl _) rfl
            -- 13: call fn7<locksmithhand.Pick> [t27, 12:i64] T[3, 3]
            · intro w1 hg Ar seen
              obtain ⟨v12, e12, h12⟩ := seen.dep 12 (d := 27) (by kernel_rfl) (by kernel_rfl) rfl
              rcases h12 with rfl
              refine does_plain rfl fun K Q' hK => ?_
              go_simp
              refine (pick_any y.b 12 _ (by omega) (by omega)).mono ?_
              rintro e u ⟨rfl, rfl⟩
              exact hK _ _ (Grow.refl _) rfl
            -- 14: binOp BinOp.quo 3 t28 6:i64 3
            · intro w1 hg Ar seen
              obtain ⟨v13, e13, h13⟩ := seen.dep 13 (d := 28) (by kernel_rfl) (by kernel_rfl) rfl
              rcases h13 with rfl
              refine does_plain rfl fun K Q' hK => ?_
              have hq : IntKind.i64.wrap ((pick y.b 12).tdiv 6) = pick y.b 12 / 6 := by rw [Int.tdiv_eq_ediv_of_nonneg hb0]; exact IntWalk.i64_in _ (by omega)
              go_simp; exact hK _ _ (Grow.refl _) rfl
            -- 15: binOp BinOp.add 3 1:i64 t29 3
            · intro w1 hg Ar seen
              obtain ⟨v14, e14, h14⟩ := seen.dep 14 (d := 29) (by kernel_rfl) (by kernel_rfl) rfl
              rcases h14 with rfl
              refine does_plain rfl fun K Q' hK => ?_
              have hs := IntWalk.i64_in (1 + pick y.b 12 / 6) (by omega)
              go_simp; exact hK _ _ (Grow.refl _) rfl
            -- 16: move t0
            · intro w1 hg Ar seen
              have s0 := seen.slot 0 (v := .slice (some ⟨bL, oL, none⟩) nL cL) (by kernel_rfl) rfl
              refine does_plain rfl fun K Q' hK => ?_
              go_simp; exact hK _ _ (Grow.refl _) rfl
            -- 17: move t4
            · intro w1 hg Ar seen
              have s4 := seen.slot 4 (v := .int .i64 (k : Int)) (by kernel_rfl) rfl
              refine does_plain rfl fun K Q' hK => ?_
              go_simp; exact hK _ _ (Grow.refl _) rfl
            -- 18: indexAddr 22 t31 t32
            · intro w1 hg Ar seen
              obtain ⟨v16, e16, h16⟩ := seen.dep 16 (d := 31) (by kernel_rfl) (by kernel_rfl) rfl
              rcases h16 with rfl
              obtain ⟨v17, e17, h17⟩ := seen.dep 17 (d := 32) (by kernel_rfl) (by kernel_rfl) rfl
              rcases h17 with rfl
              refine does_plain rfl fun K Q' hK => ?_
              go_simp; exact hK _ _ (Grow.refl _) rfl
            -- 19: fieldAddr 26 t33 3
            · intro w1 hg Ar seen
              obtain ⟨v18, e18, h18⟩ := seen.dep 18 (d := 33) (by kernel_rfl) (by kernel_rfl) rfl
              rcases h18 with rfl
              refine does_plain rfl fun K Q' hK => ?_
              go_simp; exact hK _ _ (Grow.refl _) rfl
            -- 20: load 3 t34
            · intro w1 hg Ar seen
              obtain ⟨v19, e19, h19⟩ := seen.dep 19 (d := 34) (by kernel_rfl) (by kernel_rfl) rfl
              rcases h19 with rfl
              refine does_plain rfl fun K Q' hK => ?_
              have hc := cell_later hg C3.out
              go_simp; exact hK _ _ (Grow.refl _) rfl
            -- 21: build 33 [(0, t22), (1, t30), (2, t35)]
            · intro w1 hg Ar seen
              obtain ⟨v7, e7, h7⟩ := seen.dep 7 (d := 22) (by kernel_rfl) (by kernel_rfl) rfl
              rcases h7 with rfl
              obtain ⟨v15, e15, h15⟩ := seen.dep 15 (d := 30) (by kernel_rfl) (by kernel_rfl) rfl
              rcases h15 with rfl
              obtain ⟨v20, e20, h20⟩ := seen.dep 20 (d := 35) (by kernel_rfl) (by kernel_rfl) rfl
              rcases h20 with rfl
              refine does_plain rfl fun K Q' hK => ?_
              go_simp; exact hK _ _ (Grow.refl _) rfl
            -- 22: buildSlice 29 1 [(0, t36)]
            · intro w1 hg Ar seen
              obtain ⟨v21, e21, h21⟩ := seen.dep 21 (d := 36) (by kernel_rfl) (by kernel_rfl) rfl
              rcases h21 with rfl
              refine does_plain rfl fun K Q' hK => ?_
              refine wp_build_item _ 33 _ rfl (kidV y) (by simp [Act.eval, e21]) i Try.underlying29 hi hz0 hz1 ?_
              exact hK _ _ ((Below.refl _ _).alloc (Nat.le_refl _) _) ⟨_, rfl, block_new _ _⟩
        intro w1 hg
        refine upon_w' (js := [0, 1, 2, 3, 4, 5, 6, 7, 8, 9, 10, 11, 12, 13, 14, 15, 16, 17, 18, 19, 20, 21, 22]) (by rfl) ?_
        refine upon_c (x := some 15) (by kernel_rfl) rfl fun v0 h0 => ?_
        rcases h0 with rfl
        refine upon_c (x := some 16) (by kernel_rfl) rfl fun v1 h1 => ?_
        rcases h1 with rfl
        refine upon_c (x := some 17) (by kernel_rfl) rfl fun v2 h2 => ?_
        rcases h2 with rfl
        refine upon_c (x := some 18) (by kernel_rfl) rfl fun v3 h3 => ?_
        rcases h3 with rfl
        refine upon_c (x := some 19) (by kernel_rfl) rfl fun v4 h4 => ?_
        rcases h4 with rfl
        refine upon_c (x := some 20) (by kernel_rfl) rfl fun v5 h5 => ?_
        rcases h5 with rfl
        refine upon_c (x := some 21) (by kernel_rfl) rfl fun v6 h6 => ?_
        rcases h6 with rfl
        refine upon_c (x := some 22) (by kernel_rfl) rfl fun v7 h7 => ?_
        rcases h7 with rfl
        refine upon_c (x := some 23) (by kernel_rfl) rfl fun v8 h8 => ?_
        rcases h8 with rfl
        refine upon_c (x := some 24) (by kernel_rfl) rfl fun v9 h9 => ?_
        rcases h9 with rfl
        refine upon_c (x := some 25) (by kernel_rfl) rfl fun v10 h10 => ?_
        rcases h10 with rfl
        refine upon_c (x := some 26) (by kernel_rfl) rfl fun v11 h11 => ?_
        rcases h11 with rfl
        refine upon_c (x := some 27) (by kernel_rfl) rfl fun v12 h12 => ?_
        rcases h12 with rfl
        refine upon_c (x := some 28) (by kernel_rfl) rfl fun v13 h13 => ?_
        rcases h13 with rfl
        refine upon_c (x := some 29) (by kernel_rfl) rfl fun v14 h14 => ?_
        rcases h14 with rfl
        refine upon_c (x := some 30) (by kernel_rfl) rfl fun v15 h15 => ?_
        rcases h15 with rfl
        refine upon_c (x := some 31) (by kernel_rfl) rfl fun v16 h16 => ?_
        rcases h16 with rfl
        refine upon_c (x := some 32) (by kernel_rfl) rfl fun v17 h17 => ?_
        rcases h17 with rfl
        refine upon_c (x := some 33) (by kernel_rfl) rfl fun v18 h18 => ?_
        rcases h18 with rfl
        refine upon_c (x := some 34) (by kernel_rfl) rfl fun v19 h19 => ?_
        rcases h19 with rfl
        refine upon_c (x := some 35) (by kernel_rfl) rfl fun v20 h20 => ?_
        rcases h20 with rfl
        refine upon_c (x := some 36) (by kernel_rfl) rfl fun v21 h21 => ?_
        rcases h21 with rfl
        refine upon_c (x := some 37) (by kernel_rfl) rfl fun v22 h22 => ?_
        refine upon_n ?_
        go_simp
        obtain ⟨p, rfl, hp⟩ := h22
        have HP := hid hp
        have HO1 := hid (HO.out.below hg)
        have HB1 := hid (B.out.trans (hg.mono HBW.out))
        have HBZ := hid (Nat.le_trans HBW.out hg.size)
        clear hp hg HO B HBW ha0 ha1 hb0 hb1
        refine wpAny_ready (rs := [23]) (by kernel_rfl) (by simp) ?_
        refine AllReady.cons rfl (fun K hK => ?_) AllReady.nil
        refine step_append_c rfl _ _ 29 rfl b 33 i _ 5 72 Try.underlying29 hi hz0 hz1 hz2 rfl (by decide) (.slice so.a so.n so.c) so.n _ rfl HO1.out.own _ 1 _ (kidV y).arr.toList rfl (RdC.of_block HP.out) (by have := itm_one [kidV y]; simpa [itmCells, ItV.cells] using this) (fun hx => by cases hx) (by unfold maxLen; have := HS.out; omega) (by have := HS.out; omega) HBZ.out ?_
        intro a' c' w7 hown hgw hfr
        have HO7 := hid hown; have HG7 := hid hgw; have HF7 := hid hfr
        clear hown hgw hfr
        refine hK _ _ ?_
        clear hK K
        go_simp
        refine wpAny_ready (rs := [24]) (by kernel_rfl) (by simp) ?_
        refine AllReady.cons rfl (fun K hK => ?_) AllReady.nil
        go_simp
        refine hK _ _ ?_
        clear hK K
        refine wpAny_done (by kernel_rfl) ?_ _
        have ho7 : OwnIt 33 w7 b b ⟨a', so.n + 1, c'⟩ ((l.take k).map kidV ++ [kidV y]) :=
          HO1.out.app (Below.refl _ _) (kidV y) (ItV.ok.zero _ _ _ _) (by rw [kidV_foot]; simp) (by rw [kidV_foot]; simp) (by rw [itm_app]; simpa [itmCells, ItV.cells] using HO7.out) HG7.out HF7.out
        have hb7 : Below b w w7 := HB1.out.grown HG7.out HBZ.out (fun q hq => (HO1.out.own.lt q hq).1)
        have hsn := HS.out
        have H7 := hid (And.intro ho7 hb7)
        rw [← HE.out] at H7
        clear ho7 hb7
        go_wp2_with fail
        go_roundw
        case rel =>
          first
            | exact ⟨k + 1, ⟨a', so.n + 1, c'⟩, by omega, by omega, by go_num, rfl, by simp; omega, H7.out⟩
            | ((repeat apply Exists.intro); exact ⟨⟨k + 1, ⟨a', so.n + 1, c'⟩, by omega, by omega, by go_num, rfl, by simp; omega, H7.out⟩, rfl⟩)
        case measure => simp [intOf]; omega
      · obtain rfl : k = 8 := by omega
        go_wp2_with fail
        go_ret
        exact ⟨so, rfl, by rw [HBE.out]; exact HO.out, by rw [HBE.out]; exact B.out⟩
    · obtain rfl : k = nL := by omega
      have HE : Hid ((l.take k).map kidV = (l.take 8).map kidV) := by
        show _ = _
        rw [List.take_of_length_le (by rw [HLEN.out.1]; exact Nat.le_refl _), List.take_of_length_le (by rw [HLEN.out.1]; omega)]
      rw [HE.out] at HO
      go_wp2_with fail
      go_ret
      exact ⟨so, rfl, by rw [HBE.out]; exact HO.out, by rw [HBE.out]; exact B.out⟩
end Go.Proofs.Ytpcbofgjnbdfhaa
