/- WalLays: the walk. -/
import Derived.Test.YtfabfemccnkboaaWal6
namespace Go.Proofs.Ytfabfemccnkboaa
open Go.RowKit
set_option linter.unusedVariables false
set_option linter.unusedSimpArgs false
set_option maxRecDepth 100000
set_option maxHeartbeats 1600000
def stBn (n : Nat) (l : List UInt8) : St Grow := ⟨fun v w => ∃ a c, v = .slice a n c ∧ RdB w a n l, fun v w w' h hg => let ⟨a, c, e, h1⟩ := h; ⟨a, c, e, h1.below hg⟩⟩
theorem walLays_walk (aB : Option Addr) (nB cB : Nat) (lb : List UInt8) (z : Int) (hz : -9223372036854775808 ≤ z ∧ z ≤ 9223372036854775807) (w : World) (hb : RdB w aB nB lb) (hnone : aB = none → cB = 0) (hn : nB ≤ 1099511627776) :
    Calls Try.prog 3 #[.slice aB nB cB, .int .i64 z] w fun e w' => e = .returned (.bool true) ∧ Below w.heap.size w w' := by
  have HBA := hid hb; have HNB := hid hnone
  clear hb hnone
  generalize hbe : w.heap.size = b
  have HBE := hid hbe; clear hbe
  have p0 := pick_lo z 200 (by omega)
  have p1 := pick_hi z 200 (by omega)
  have HM : Hid (IntKind.i64.wrap (z.tmod 3) = z.tmod 3) := IntWalk.i64_in _ (by have := Int.lt_tmod_of_pos z (show (0:Int) < 3 by decide); have := Int.tmod_lt_of_pos z (show (0:Int) < 3 by decide); omega)
  go_enter Try.func3, Try.ntmps3
  have hm := HM.out
  go_upto_if 8 with (fail)
  clear hm
  go_cut [0] (fun u wx => ∃ (a : Option Addr) (n c : Nat) (l : List UInt8), u = .slice a n c ∧ RdB wx a n l ∧ (a = none → c = 0) ∧ n ≤ 1099511627776 ∧ Below b w wx)
  case first =>
    by_cases hq : z.tmod 3 = 0
    · have hqb : (z.tmod 3 == 0) = true := by simp [hq]
      go_wp2_with fail
      refine (pick_any z 200 _ (by omega) (by omega)).mono ?_
      rintro e u ⟨rfl, rfl⟩
      obtain ⟨q, hq2⟩ : ∃ q : Nat, pick z 200 = (q : Int) := ⟨(pick z 200).toNat, by omega⟩
      rw [hq2]
      have hq3 : q ≤ 200 := by omega
      go_wp2_with fail
      refine (bytes_any q z _ (by omega)).mono ?_
      rintro e w2 ⟨a2, c2, rfl, ho, hb2⟩
      have HO := hid ho; have HB2 := hid hb2
      clear ho hb2
      go_wp2_with fail
      go_meet
      exact ⟨a2, q, c2, _, rfl, RdB.of_own HO.out, (own_slice HO.out).2.1, by omega, by rw [← HBE.out]; exact HB2.out⟩
    · have hqb : (z.tmod 3 == 0) = false := by simp [hq]
      go_wp2_with fail
      go_meet
      exact ⟨aB, nB, cB, lb, rfl, HBA.out, HNB.out, hn, Below.refl _ _⟩
  case rest =>
    obtain ⟨a, n, c, l, rfl, hr, hnn, hn', hb'⟩ := hcut
    have HR := hid hr; have HN := hid hnn; have B := hid hb'
    have HW := hid (show b ≤ wc.heap.size by rw [← HBE.out]; exact (show Below w.heap.size w wc by rw [HBE.out]; exact hb').size)
    have hll := hr.len
    have HLL := hid hll
    clear hr hnn hb' hll HBA HNB
    go_wp2_with fail
    refine (lay_any a n c l _ HR.out HN.out hn').mono ?_
    rintro e w2 ⟨a7, c7, rfl, ho7, hb7⟩
    have HX := hid (RdB.of_own ho7)
    have B2 := hid (B.out.trans (hb7.mono HW.out)); have HW2 := hid (Nat.le_trans HW.out hb7.size)
    have HR2 := hid (HR.out.below hb7)
    have hm : (layB l).length = 64 * unitSize n := by rw [layB_len, HLL.out]
    have hus : unitSize n ≤ 1099511627776 := by unfold unitSize; omega
    have SZ := hid (fun (a : Option Addr) (c : Nat) (w : World) => size_any a n c w hn')
    have RSZ := hid (fun (a : Option Addr) (c : Nat) (w : World) => refSize_any a n c w hn')
    have RLAY := hid (fun (w : World) (hr : RdB w a n l) => refLay_any a n c l w hr HN.out hn')
    rw [hm] at HX ⊢
    simp only [hm] at RLAY
    clear ho7 hb7 HR B HW HN
    generalize layB l = X at *
    clear hm
    generalize unitSize n = m at *
    have hw6 : IntKind.i64.wrap (64 * (m : Int)) = 64 * (m : Int) := IntWalk.i64_in _ (by omega)
    have hwc : ((64 * m : Nat) : Int) = 64 * (m : Int) := by omega
    have HW6 := hid hw6; have HWC := hid hwc
    clear hw6 hwc
    go_wp2_with fail
    refine wp_region_each 25 [.eq (.bool true), .eq (.bool true), .eq (.slice a7 (64 * m) c7), .eq (.string ⟨X.toArray⟩), .eq (.slice a n c), stBn (64 * m) X, .eq (.string ⟨X.toArray⟩), .eq (.bool true), .eq (.bool true), .eq (.bool true), .eq (.slice a n c), .eq (.int .i64 (m : Int)), .eq (.slice a n c), .eq (.int .i64 (m : Int)), .eq (.bool true), .eq (.bool true), .eq (.bool true), .eq (.slice a7 (64 * m) c7), .eq (.int .i64 (64 * (m : Int))), .eq (.slice a n c), .eq (.int .i64 (m : Int)), .eq (.int .i64 (64 * (m : Int))), .eq (.bool true), .eq (.bool true), .eq (.bool true)] (by kernel_rfl) (by kernel_rfl) (by kernel_rfl) (by kernel_rfl) ?_ ?_
    · as_aux_lemma =>
        refine each_c (o' := _) ?_ (each_c (o' := _) ?_ (each_c (o' := _) ?_ (each_c (o' := _) ?_ (each_c (o' := _) ?_ (each_c (o' := _) ?_ (each_c (o' := _) ?_ (each_c (o' := _) ?_ (each_c (o' := _) ?_ (each_c (o' := _) ?_ (each_c (o' := _) ?_ (each_c (o' := _) ?_ (each_c (o' := _) ?_ (each_c (o' := _) ?_ (each_c (o' := _) ?_ (each_c (o' := _) ?_ (each_c (o' := _) ?_ (each_c (o' := _) ?_ (each_c (o' := _) ?_ (each_c (o' := _) ?_ (each_c (o' := _) ?_ (each_c (o' := _) ?_ (each_c (o' := _) ?_ (each_c (o' := _) ?_ (each_c (o' := _) ?_ (each_n)))))))))))))))))))))))))
        -- 0: call fn10<locksmithlaw4.known> [] T[]
        · intro w1 hg Ar seen
          refine does_plain rfl fun K Q' hK => ?_
          go_simp
          refine (known4_any _).mono ?_; rintro e u ⟨rfl, hb⟩; exact hK _ _ hb rfl
        -- 1: move t15
        · intro w1 hg Ar seen
          obtain ⟨v0, e0, h0⟩ := seen.dep 0 (d := 15) (by kernel_rfl) (by kernel_rfl) rfl
          rcases h0 with rfl
          refine does_plain rfl fun K Q' hK => ?_
          go_simp; exact hK _ _ (Grow.refl _) rfl
        -- 2: move t5
        · intro w1 hg Ar seen
          obtain ⟨v1, e1, h1⟩ := seen.dep 1 (d := 16) (by kernel_rfl) (by kernel_rfl) rfl
          rcases h1 with rfl
          have s5 := seen.slot 5 (v := .slice a7 (64 * m) c7) (by kernel_rfl) rfl
          refine does_on rfl (by kernel_rfl) e1 fun K Q' hK => ?_
          clear e1
          go_simp; exact hK _ _ (Grow.refl _) rfl
        -- 3: convert 22 9 t17
        · intro w1 hg Ar seen
          obtain ⟨v2, e2, h2⟩ := seen.dep 2 (d := 17) (by kernel_rfl) (by kernel_rfl) rfl
          rcases h2 with rfl
          obtain ⟨v1, e1, h1⟩ := seen.dep 1 (d := 16) (by kernel_rfl) (by kernel_rfl) rfl
          rcases h1 with rfl
          refine does_on rfl (by kernel_rfl) e1 fun K Q' hK => ?_
          clear e1
          have s := run_bytes_str (P := Try.prog) (HX.out.below hg) c7 22 9 5 Try.underlying22 Try.underlying5 Try.underlying9
          go_simp; exact hK _ _ (Grow.refl _) rfl
        -- 4: move t0
        · intro w1 hg Ar seen
          obtain ⟨v1, e1, h1⟩ := seen.dep 1 (d := 16) (by kernel_rfl) (by kernel_rfl) rfl
          rcases h1 with rfl
          have s0 := seen.slot 0 (v := .slice a n c) (by kernel_rfl) rfl
          refine does_on rfl (by kernel_rfl) e1 fun K Q' hK => ?_
          clear e1
          go_simp; exact hK _ _ (Grow.refl _) rfl
        -- 5: call fn11<locksmithref1.Lay> [t19] T[22]
        · intro w1 hg Ar seen
          obtain ⟨v4, e4, h4⟩ := seen.dep 4 (d := 19) (by kernel_rfl) (by kernel_rfl) rfl
          rcases h4 with rfl
          obtain ⟨v1, e1, h1⟩ := seen.dep 1 (d := 16) (by kernel_rfl) (by kernel_rfl) rfl
          rcases h1 with rfl
          refine does_on rfl (by kernel_rfl) e1 fun K Q' hK => ?_
          clear e1
          go_simp
          refine (RLAY.out _ (HR2.out.below hg)).mono ?_; rintro e u ⟨a8, c8, rfl, ho, hb⟩; exact hK _ _ hb ⟨a8, c8, rfl, RdB.of_own ho⟩
        -- 6: convert 22 9 t20
        · intro w1 hg Ar seen
          obtain ⟨v5, e5, h5⟩ := seen.dep 5 (d := 20) (by kernel_rfl) (by kernel_rfl) rfl
          obtain ⟨v1, e1, h1⟩ := seen.dep 1 (d := 16) (by kernel_rfl) (by kernel_rfl) rfl
          rcases h1 with rfl
          refine does_on rfl (by kernel_rfl) e1 fun K Q' hK => ?_
          clear e1
          obtain ⟨a8, c8, rfl, hr⟩ := h5
          have s := run_bytes_str (P := Try.prog) hr c8 22 9 5 Try.underlying22 Try.underlying5 Try.underlying9
          go_simp; exact hK _ _ (Grow.refl _) rfl
        -- 7: binOp BinOp.eql 9 t18 t21 9
        · intro w1 hg Ar seen
          obtain ⟨v3, e3, h3⟩ := seen.dep 3 (d := 18) (by kernel_rfl) (by kernel_rfl) rfl
          rcases h3 with rfl
          obtain ⟨v6, e6, h6⟩ := seen.dep 6 (d := 21) (by kernel_rfl) (by kernel_rfl) rfl
          rcases h6 with rfl
          obtain ⟨v1, e1, h1⟩ := seen.dep 1 (d := 16) (by kernel_rfl) (by kernel_rfl) rfl
          rcases h1 with rfl
          refine does_on rfl (by kernel_rfl) e1 fun K Q' hK => ?_
          clear e1
          go_simp; exact hK _ _ (Grow.refl _) rfl
        -- 8: pick t16 t22 false
        · intro w1 hg Ar seen
          obtain ⟨v1, e1, h1⟩ := seen.dep 1 (d := 16) (by kernel_rfl) (by kernel_rfl) rfl
          rcases h1 with rfl
          obtain ⟨v7, e7, h7⟩ := seen.dep 7 (d := 22) (by kernel_rfl) (by kernel_rfl) rfl
          rcases h7 with rfl
          refine does_plain rfl fun K Q' hK => ?_
          go_simp; exact hK _ _ (Grow.refl _) rfl
        -- 9: move t23
        · intro w1 hg Ar seen
          obtain ⟨v8, e8, h8⟩ := seen.dep 8 (d := 23) (by kernel_rfl) (by kernel_rfl) rfl
          rcases h8 with rfl
          refine does_plain rfl fun K Q' hK => ?_
          go_simp; exact hK _ _ (Grow.refl _) rfl
        -- 10: move t0
        · intro w1 hg Ar seen
          obtain ⟨v9, e9, h9⟩ := seen.dep 9 (d := 24) (by kernel_rfl) (by kernel_rfl) rfl
          rcases h9 with rfl
          have s0 := seen.slot 0 (v := .slice a n c) (by kernel_rfl) rfl
          refine does_on rfl (by kernel_rfl) e9 fun K Q' hK => ?_
          clear e9
          go_simp; exact hK _ _ (Grow.refl _) rfl
        -- 11: call fn12<wal.Size> [t25] T[22]
        · intro w1 hg Ar seen
          obtain ⟨v10, e10, h10⟩ := seen.dep 10 (d := 25) (by kernel_rfl) (by kernel_rfl) rfl
          rcases h10 with rfl
          obtain ⟨v9, e9, h9⟩ := seen.dep 9 (d := 24) (by kernel_rfl) (by kernel_rfl) rfl
          rcases h9 with rfl
          refine does_on rfl (by kernel_rfl) e9 fun K Q' hK => ?_
          clear e9
          go_simp
          refine (SZ.out a c _).mono ?_; rintro e u ⟨rfl, rfl⟩; exact hK _ _ (Grow.refl _) rfl
        -- 12: move t0
        · intro w1 hg Ar seen
          obtain ⟨v9, e9, h9⟩ := seen.dep 9 (d := 24) (by kernel_rfl) (by kernel_rfl) rfl
          rcases h9 with rfl
          have s0 := seen.slot 0 (v := .slice a n c) (by kernel_rfl) rfl
          refine does_on rfl (by kernel_rfl) e9 fun K Q' hK => ?_
          clear e9
          go_simp; exact hK _ _ (Grow.refl _) rfl
        -- 13: call fn13<locksmithref1.Size> [t27] T[22]
        · intro w1 hg Ar seen
          obtain ⟨v12, e12, h12⟩ := seen.dep 12 (d := 27) (by kernel_rfl) (by kernel_rfl) rfl
          rcases h12 with rfl
          obtain ⟨v9, e9, h9⟩ := seen.dep 9 (d := 24) (by kernel_rfl) (by kernel_rfl) rfl
          rcases h9 with rfl
          refine does_on rfl (by kernel_rfl) e9 fun K Q' hK => ?_
          clear e9
          go_simp
          refine (RSZ.out a c _).mono ?_; rintro e u ⟨rfl, rfl⟩; exact hK _ _ (Grow.refl _) rfl
        -- 14: binOp BinOp.eql 3 t26 t28 3
        · intro w1 hg Ar seen
          obtain ⟨v11, e11, h11⟩ := seen.dep 11 (d := 26) (by kernel_rfl) (by kernel_rfl) rfl
          rcases h11 with rfl
          obtain ⟨v13, e13, h13⟩ := seen.dep 13 (d := 28) (by kernel_rfl) (by kernel_rfl) rfl
          rcases h13 with rfl
          obtain ⟨v9, e9, h9⟩ := seen.dep 9 (d := 24) (by kernel_rfl) (by kernel_rfl) rfl
          rcases h9 with rfl
          refine does_on rfl (by kernel_rfl) e9 fun K Q' hK => ?_
          clear e9
          go_simp; exact hK _ _ (Grow.refl _) rfl
        -- 15: pick t24 t29 false
        · intro w1 hg Ar seen
          obtain ⟨v9, e9, h9⟩ := seen.dep 9 (d := 24) (by kernel_rfl) (by kernel_rfl) rfl
          rcases h9 with rfl
          obtain ⟨v14, e14, h14⟩ := seen.dep 14 (d := 29) (by kernel_rfl) (by kernel_rfl) rfl
          rcases h14 with rfl
          refine does_plain rfl fun K Q' hK => ?_
          go_simp; exact hK _ _ (Grow.refl _) rfl
        -- 16: move t30
        · intro w1 hg Ar seen
          obtain ⟨v15, e15, h15⟩ := seen.dep 15 (d := 30) (by kernel_rfl) (by kernel_rfl) rfl
          rcases h15 with rfl
          refine does_plain rfl fun K Q' hK => ?_
          go_simp; exact hK _ _ (Grow.refl _) rfl
        -- 17: move t5
        · intro w1 hg Ar seen
          obtain ⟨v16, e16, h16⟩ := seen.dep 16 (d := 31) (by kernel_rfl) (by kernel_rfl) rfl
          rcases h16 with rfl
          have s5 := seen.slot 5 (v := .slice a7 (64 * m) c7) (by kernel_rfl) rfl
          refine does_on rfl (by kernel_rfl) e16 fun K Q' hK => ?_
          clear e16
          go_simp; exact hK _ _ (Grow.refl _) rfl
        -- 18: call len [t32] T[22]
        · intro w1 hg Ar seen
          obtain ⟨v17, e17, h17⟩ := seen.dep 17 (d := 32) (by kernel_rfl) (by kernel_rfl) rfl
          rcases h17 with rfl
          obtain ⟨v16, e16, h16⟩ := seen.dep 16 (d := 31) (by kernel_rfl) (by kernel_rfl) rfl
          rcases h16 with rfl
          refine does_on rfl (by kernel_rfl) e16 fun K Q' hK => ?_
          clear e16
          have q := HWC.out
          go_simp; exact hK _ _ (Grow.refl _) rfl
        -- 19: move t0
        · intro w1 hg Ar seen
          obtain ⟨v16, e16, h16⟩ := seen.dep 16 (d := 31) (by kernel_rfl) (by kernel_rfl) rfl
          rcases h16 with rfl
          have s0 := seen.slot 0 (v := .slice a n c) (by kernel_rfl) rfl
          refine does_on rfl (by kernel_rfl) e16 fun K Q' hK => ?_
          clear e16
          go_simp; exact hK _ _ (Grow.refl _) rfl
        -- 20: call fn12<wal.Size> [t34] T[22]
        · intro w1 hg Ar seen
          obtain ⟨v19, e19, h19⟩ := seen.dep 19 (d := 34) (by kernel_rfl) (by kernel_rfl) rfl
          rcases h19 with rfl
          obtain ⟨v16, e16, h16⟩ := seen.dep 16 (d := 31) (by kernel_rfl) (by kernel_rfl) rfl
          rcases h16 with rfl
          refine does_on rfl (by kernel_rfl) e16 fun K Q' hK => ?_
          clear e16
          go_simp
          refine (SZ.out a c _).mono ?_; rintro e u ⟨rfl, rfl⟩; exact hK _ _ (Grow.refl _) rfl
        -- 21: binOp BinOp.mul 3 64:i64 t35 3
        · intro w1 hg Ar seen
          obtain ⟨v20, e20, h20⟩ := seen.dep 20 (d := 35) (by kernel_rfl) (by kernel_rfl) rfl
          rcases h20 with rfl
          obtain ⟨v16, e16, h16⟩ := seen.dep 16 (d := 31) (by kernel_rfl) (by kernel_rfl) rfl
          rcases h16 with rfl
          refine does_on rfl (by kernel_rfl) e16 fun K Q' hK => ?_
          clear e16
          have q := HW6.out
          go_simp; exact hK _ _ (Grow.refl _) rfl
        -- 22: binOp BinOp.eql 3 t33 t36 3
        · intro w1 hg Ar seen
          obtain ⟨v18, e18, h18⟩ := seen.dep 18 (d := 33) (by kernel_rfl) (by kernel_rfl) rfl
          rcases h18 with rfl
          obtain ⟨v21, e21, h21⟩ := seen.dep 21 (d := 36) (by kernel_rfl) (by kernel_rfl) rfl
          rcases h21 with rfl
          obtain ⟨v16, e16, h16⟩ := seen.dep 16 (d := 31) (by kernel_rfl) (by kernel_rfl) rfl
          rcases h16 with rfl
          refine does_on rfl (by kernel_rfl) e16 fun K Q' hK => ?_
          clear e16
          go_simp; exact hK _ _ (Grow.refl _) rfl
        -- 23: pick t31 t37 false
        · intro w1 hg Ar seen
          obtain ⟨v16, e16, h16⟩ := seen.dep 16 (d := 31) (by kernel_rfl) (by kernel_rfl) rfl
          rcases h16 with rfl
          obtain ⟨v22, e22, h22⟩ := seen.dep 22 (d := 37) (by kernel_rfl) (by kernel_rfl) rfl
          rcases h22 with rfl
          refine does_plain rfl fun K Q' hK => ?_
          go_simp; exact hK _ _ (Grow.refl _) rfl
        -- 24: assign t38
        · intro w1 hg Ar seen
          obtain ⟨v23, e23, h23⟩ := seen.dep 23 (d := 38) (by kernel_rfl) (by kernel_rfl) rfl
          rcases h23 with rfl
          refine does_plain rfl fun K Q' hK => ?_
          go_simp; exact hK _ _ (Grow.refl _) rfl
    intro w1 hg
    refine upon_w' (js := [0, 1, 2, 3, 4, 5, 6, 7, 8, 9, 10, 11, 12, 13, 14, 15, 16, 17, 18, 19, 20, 21, 22, 23, 24]) (by rfl) ?_
    refine upon_c (x := some 15) (by kernel_rfl) rfl fun v0 h0 => ?_
    rcases h0 with rfl
    refine upon_c (x := some 16) (by kernel_rfl) rfl fun v1 h1 => ?_
    rcases h1 with rfl
    refine upon_c (x := some 17) (by kernel_rfl) rfl fun v2 h2 => ?_
    rcases h2 with rfl
    refine upon_c (x := some 18) (by kernel_rfl) rfl fun v3 h3 => ?_
    rcases h3 with rfl
    refine upon_c (x := some 19) (by kernel_rfl) rfl fun v4 h4 => ?_
    rcases h4 with rfl
    refine upon_c (x := some 20) (by kernel_rfl) rfl fun v5 h5 => ?_
    refine upon_c (x := some 21) (by kernel_rfl) rfl fun v6 h6 => ?_
    rcases h6 with rfl
    refine upon_c (x := some 22) (by kernel_rfl) rfl fun v7 h7 => ?_
    rcases h7 with rfl
    refine upon_c (x := some 23) (by kernel_rfl) rfl fun v8 h8 => ?_
    rcases h8 with rfl
    refine upon_c (x := some 24) (by kernel_rfl) rfl fun v9 h9 => ?_
    rcases h9 with rfl
    refine upon_c (x := some 25) (by kernel_rfl) rfl fun v10 h10 => ?_
    rcases h10 with rfl
    refine upon_c (x := some 26) (by kernel_rfl) rfl fun v11 h11 => ?_
    rcases h11 with rfl
    refine upon_c (x := some 27) (by kernel_rfl) rfl fun v12 h12 => ?_
    rcases h12 with rfl
    refine upon_c (x := some 28) (by kernel_rfl) rfl fun v13 h13 => ?_
    rcases h13 with rfl
    refine upon_c (x := some 29) (by kernel_rfl) rfl fun v14 h14 => ?_
    rcases h14 with rfl
    refine upon_c (x := some 30) (by kernel_rfl) rfl fun v15 h15 => ?_
    rcases h15 with rfl
    refine upon_c (x := some 31) (by kernel_rfl) rfl fun v16 h16 => ?_
    rcases h16 with rfl
    refine upon_c (x := some 32) (by kernel_rfl) rfl fun v17 h17 => ?_
    rcases h17 with rfl
    refine upon_c (x := some 33) (by kernel_rfl) rfl fun v18 h18 => ?_
    rcases h18 with rfl
    refine upon_c (x := some 34) (by kernel_rfl) rfl fun v19 h19 => ?_
    rcases h19 with rfl
    refine upon_c (x := some 35) (by kernel_rfl) rfl fun v20 h20 => ?_
    rcases h20 with rfl
    refine upon_c (x := some 36) (by kernel_rfl) rfl fun v21 h21 => ?_
    rcases h21 with rfl
    refine upon_c (x := some 37) (by kernel_rfl) rfl fun v22 h22 => ?_
    rcases h22 with rfl
    refine upon_c (x := some 38) (by kernel_rfl) rfl fun v23 h23 => ?_
    rcases h23 with rfl
    refine upon_c (x := some 4) (by kernel_rfl) rfl fun v24 h24 => ?_
    rcases h24 with rfl
    refine upon_n ?_
    go_simp
    go_wp2_with fail
    go_ret
    exact ⟨rfl, B2.out.trans (hg.mono HW2.out)⟩
end Go.Proofs.Ytfabfemccnkboaa
