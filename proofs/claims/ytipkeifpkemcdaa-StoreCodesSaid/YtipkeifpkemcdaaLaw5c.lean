/- StoreCodes' walk. -/
import Derived.Test.YtipkeifpkemcdaaSt5k
import Derived.Test.YtipkeifpkemcdaaSt5s
import Derived.Test.YtipkeifpkemcdaaStRr
namespace Go.Proofs.Ytipkeifpkemcdaa
open Go.RowKit
set_option linter.unusedVariables false
set_option linter.unusedSimpArgs false
set_option maxRecDepth 1000000
set_option maxHeartbeats 6400000
/-- Changes for a law: those that were made, or those that came in. -/
def PickC (w0 : World) (y15 : Value) (wx : World) : Prop := ∃ (a : Option Addr) (n c : Nat) (xs : List ChD), y15 = .slice a n c ∧ ChA wx a n xs ∧ Below w0.heap.size w0 wx
/-- Bytes for a law: those that were bent, or those that came in. -/
def PickB (w0 : World) (y3 : Value) (wx : World) : Prop := ∃ (a : Option Addr) (n c : Nat) (l : List UInt8), y3 = .slice a n c ∧ RdB wx a n l ∧ n ≤ c ∧ n ≤ 140737488355328 ∧ (a = none → c = 0) ∧ (∀ b off sp, a = some ⟨b, off, sp⟩ → b < wx.heap.size) ∧ Below w0.heap.size w0 wx
theorem PickB.own {w0 wx : World} {base : Nat} {a : Option Addr} {n c : Nat} {l : List UInt8} (h : wx.ownsRow base 5 1 (.slice a n c) n (l.map B8)) (hn : n ≤ 140737488355328) (hb : Below w0.heap.size w0 wx) : PickB w0 (.slice a n c) wx :=
  ⟨a, n, c, l, rfl, RdB.of_own h, (own_slice h).1, hn, (own_slice h).2.1, fun b off sp e => (own_at h b off sp e).2, hb⟩
theorem PickB.cut {w0 wx : World} {base : Nat} {a : Option Addr} {n c i : Nat} {l : List UInt8} (h : wx.ownsRow base 5 1 (.slice a n c) n (l.map B8)) (hn : n ≤ 140737488355328) (hi : i ≤ n) (hb : Below w0.heap.size w0 wx) : PickB w0 (.slice a i c) wx :=
  ⟨a, i, c, l.take i, rfl, (RdB.of_own h).take hi, Nat.le_trans hi (own_slice h).1, Nat.le_trans hi hn, (own_slice h).2.1, fun b off sp e => (own_at h b off sp e).2, hb⟩
theorem storeCodes_walk (a1 : Option Addr) (n1 c1 : Nat) (l1 : List RawD) (a2 : Option Addr) (n2 c2 : Nat) (l2 : List ChD) (which : Bool) (aB : Option Addr) (nB cB : Nat) (lB : List UInt8) (how at_ : Int) (by_ : UInt8) (w : World)
    (hr : RwA w a1 n1 l1) (hc : ChA w a2 n2 l2) (hb : RdB w aB nB lB) (hno : aB = none → cB = 0) (hnc : nB ≤ cB) (hn : nB ≤ 140737488355328) (hat : ∀ b off sp, aB = some ⟨b, off, sp⟩ → b < w.heap.size) :
    Calls Try.prog 3 #[.slice a1 n1 c1, .slice a2 n2 c2, .bool which, .slice aB nB cB, .int .i64 how, .int .i64 at_, .int .u8 (by_.toNat : Int)] w fun e w' => e = .returned (.bool true) ∧ Below w.heap.size w w' := by
  have HB := hid hb; have HNO := hid hno; have HR := hid hr; have HC := hid hc; have HAT := hid hat; have HNC := hid hnc
  clear hb hno hr hc hat hnc
  go_enter Try.func3, Try.ntmps3
  go_wp2_with fail
  refine (list5_any a1 n1 c1 l1 20 _ HR.out (by decide)).mono ?_
  intro e w1 hres
  obtain ⟨a3, n3, c3, xs3, rfl, hn3, hq3, hb1⟩ := hres
  have HQ := hid hq3; have HB1 := hid hb1
  clear hq3 hb1
  dsimp only
  go_upto_if 27 with (fail)
  go_cut [15] (fun y15 wx => PickC w y15 wx)
  case first =>
    cases which with
    | true =>
      go_wp2_with fail
      go_meet
      exact ⟨a2, n2, c2, l2, rfl, HC.out.below HB1.out, HB1.out⟩
    | false =>
      go_wp2_with fail
      go_meet
      exact ⟨a3, n3, c3, xs3, rfl, HQ.out.ch, HB1.out⟩
  obtain ⟨aC, nC, cC, xs, e15, hch, hb1⟩ := hcut
  subst e15
  clear HB1 HQ
  have HCH := hid hch; have HB1 := hid hb1
  clear hch hb1
  go_wp2_with fail
  refine (lay5_any aC nC cC xs _ HCH.out).mono ?_
  intro e w2 hres
  obtain ⟨hb2, hres⟩ := hres
  have HB2 := hid (HB1.out.trans (hb2.mono HB1.out.size))
  have HCH2 := hid (HCH.out.below hb2)
  have hlx : ∃ (aX : Option Addr) (nX cX : Nat) (ec : Int) (L : List UInt8), e = .returned (.tuple #[.slice aX nX cX, .int .i64 ec]) ∧ RdB w2 aX nX L ∧ ((okCs (xs.map ChD.cg) = true ∧ ec = 0 ∧ L = layCs (xs.map ChD.cg)) ∨ (okCs (xs.map ChD.cg) = false ∧ ec = 1 ∧ L = [])) := by
    rcases hres with ⟨hok, a, n, c, he, ho⟩ | ⟨hok, he⟩
    · exact ⟨a, n, c, 0, _, he, RdB.of_own ho, .inl ⟨hok, rfl, rfl⟩⟩
    · exact ⟨none, 0, 0, 1, [], he, ⟨rfl, fun j hj => absurd hj (Nat.not_lt_zero _)⟩, .inr ⟨hok, rfl, rfl⟩⟩
  obtain ⟨aX, nX, cX, ec, L, rfl, hrX, hkX⟩ := hlx
  have HRX := hid hrX; have HKX := hid hkX
  clear hres hb2 HCH hrX hkX HB1
  dsimp only
  go_wp2_with fail
  refine (lay5r_any aC nC cC xs _ HCH2.out).mono ?_
  intro e w3 hres
  obtain ⟨hb3, hres⟩ := hres
  have HB3 := hid (HB2.out.trans (hb3.mono HB2.out.size))
  have HRX3 := hid (HRX.out.below hb3)
  have hly : ∃ (aY : Option Addr) (nY cY : Nat), e = .returned (.tuple #[.slice aY nY cY, .int .i64 ec]) ∧ RdB w3 aY nY L ∧ (aY = none → cY = 0) ∧ nY ≤ cY := by
    rcases hres with ⟨hok, a, n, c, he, ho, hno, hnc, hat⟩ | ⟨hok, he⟩
    · rcases HKX.out with ⟨h1, rfl, rfl⟩ | ⟨h1, -⟩
      · exact ⟨a, n, c, he, ho, hno, hnc⟩
      · rw [hok] at h1; cases h1
    · rcases HKX.out with ⟨h1, -⟩ | ⟨h1, rfl, rfl⟩
      · rw [hok] at h1; cases h1
      · exact ⟨none, 0, 0, he, ⟨rfl, fun j hj => absurd hj (Nat.not_lt_zero _)⟩, (fun _ => rfl), Nat.le_refl _⟩
  obtain ⟨aY, nY, cY, rfl, hrY, hnoY, hncY⟩ := hly
  have HRY := hid hrY; have HNY := hid hnoY
  have hLl : L.length ≤ 65700002 := by
    rcases HKX.out with ⟨h1, -, rfl⟩ | ⟨-, -, rfl⟩
    · exact layCs_len h1
    · exact Nat.zero_le _
  have hnY := hrY.len
  have kx := run_bytes_str (P := Try.prog) HRX3.out cX 24 9 5 Try.underlying24 Try.underlying5 Try.underlying9
  have ky := run_bytes_str (P := Try.prog) HRY.out cY 24 9 5 Try.underlying24 Try.underlying5 Try.underlying9
  clear hres hb3 hrY hnoY HCH2 HB2 HRX
  dsimp only
  by_cases g1 : (0 : Int) < (nY : Int)
  · go_upto_if 56 with (fail)
    clear kx ky
    generalize hg2 : decide (0 < how.tmod 4) = g2
    clear hg2
    go_cut [3] (fun y3 wx => PickB w y3 wx)
    case first =>
      cases g2 with
      | false =>
        go_wp2_with fail
        go_meet
        exact ⟨aB, nB, cB, lB, rfl, HB.out.below HB3.out, HNC.out, hn, HNO.out, fun b off sp e => Nat.lt_of_lt_of_le (HAT.out b off sp e) HB3.out.size, HB3.out⟩
      | true =>
        go_wp2_with fail
        refine (few_all aY nY cY L _ HRY.out hncY (by omega) HNY.out).mono ?_
        rintro e w4 ⟨aZ, cZ, rfl, hoZ, hb4⟩
        dsimp only
        have HO := hid hoZ; have HB4 := hid (HB3.out.trans (hb4.mono HB3.out.size))
        have HBS := hid HB3.out.size
        clear hoZ hb4
        go_wp2_with fail
        refine (pick_any how 3 _ (by omega) (by omega)).mono ?_
        rintro e wz ⟨rfl, rfl⟩
        dsimp only
        have hp0 := pick_lo how 3 (by omega)
        have hp1 := pick_hi how 3 (by omega)
        generalize pick how 3 = z4 at *
        obtain ⟨_, _, h3g⟩ := own_slice HO.out
        obtain ⟨g, rfl, hg1, hg2⟩ := h3g (by omega)
        by_cases h4 : z4 = 0
        · subst h4
          go_wp2_with fail
          refine (pick_any at_ nY _ (by omega) (by omega)).mono ?_
          rintro e wz ⟨rfl, rfl⟩
          dsimp only
          have hlo := pick_lo at_ nY (by omega)
          have hhi := pick_hi at_ nY (by omega)
          generalize pick at_ nY = z at *
          obtain ⟨i, rfl⟩ := Int.eq_ofNat_of_zero_le hlo
          have hi : i < nY := by omega
          have hcell := ownB_cell HO.out i hi
          have hfz := HO.out.frozenAt i
          have HS := hid (ownB_set HO.out i (L.getD i 0 ^^^ by_))
          have HX := hid (bits_xor8 (L.getD i 0) by_)
          have HCB := hid (HB4.out.setCell (p := ⟨g, i, none⟩) (by have := HBS.out; show _ ≤ g; omega) (B8 (L.getD i 0 ^^^ by_)))
          unfold B8 at hcell
          generalize L.getD i 0 = xx at *
          go_wp2_with fail
          go_meet
          rw [HX.out]
          exact PickB.own HS.out (by omega) HCB.out
        by_cases h5 : z4 = 1
        · subst h5
          have hsl := fun k hk w => run_slice_front (P := Try.prog) 24 5 1 Try.underlying24 (fun w => by kernel_rfl) (some ⟨g, 0, none⟩) nY cZ k hk w
          have hn1 : (nY : Int) + 1 ≤ 9223372036854775807 := by omega
          go_wp2_with fail
          refine (pick_any at_ ((nY : Int) + 1) _ (by omega) (by omega)).mono ?_
          rintro e wz ⟨rfl, rfl⟩
          dsimp only
          have hlo := pick_lo at_ ((nY : Int) + 1) (by omega)
          have hhi := pick_hi at_ ((nY : Int) + 1) (by omega)
          generalize pick at_ ((nY : Int) + 1) = z at *
          obtain ⟨i, rfl⟩ := Int.eq_ofNat_of_zero_le hlo
          have hi : i ≤ nY := by omega
          have hncD := (own_slice HO.out).1
          have hsk := fun w => hsl i (by omega) w
          clear hsl
          go_wp2_with fail
          go_meet
          exact PickB.cut HO.out (by omega) hi HB4.out
        · have hz4 : (z4 == 0) = false := beq_eq_false_iff_ne.2 h4
          have hz5 : (z4 == 1) = false := beq_eq_false_iff_ne.2 h5
          go_wp2_with fail
          go_meet
          exact PickB.own HO.out (by omega) HB4.out
    obtain ⟨aD, nD, cD, lD, e3, hrD, hncD, hnD, hnoD, hatD, hbD⟩ := hcut
    subst e3
    have HRD := hid hrD; have HND := hid hnoD; have HAD := hid hatD; have HBD := hid hbD
    clear hrD hnoD hatD hbD
    go_wp2_with fail
    refine (read5_any aD nD cD lD _ HRD.out HND.out hnD).mono ?_
    intro e w6 hres
    obtain ⟨hb6, hres⟩ := hres
    have HB6 := hid (HBD.out.trans (hb6.mono HBD.out.size))
    have HRD6 := hid (HRD.out.below hb6)
    have HAD6 := hid (show ∀ b off sp, aD = some ⟨b, off, sp⟩ → b < w6.heap.size from fun b off sp e => Nat.lt_of_lt_of_le (HAD.out b off sp e) hb6.size)
    have hx1 : ∃ (a7 : Option Addr) (n7 c7 : Nat) (ys : List ChD) (ec7 : Int), e = .returned (.tuple #[.slice a7 n7 c7, .int .i64 ec7]) ∧ ChA w6 a7 n7 ys ∧ ((readCs lD = some (ys.map ChD.cg) ∧ ec7 = 0) ∨ (readCs lD = none ∧ ys = [] ∧ ec7 = 5)) := by
      rcases hres with ⟨a, n, c, l, he, hrc, hq⟩ | ⟨hno, he⟩
      · exact ⟨a, n, c, l, 0, he, hq.ch, .inl ⟨hrc, rfl⟩⟩
      · exact ⟨none, 0, 0, [], 5, he, ChA.nil _ _, .inr ⟨hno, rfl, rfl⟩⟩
    obtain ⟨a7, n7, c7, ys, ec7, rfl, hch7, hk7⟩ := hx1
    have HCH7 := hid hch7; have HK7 := hid hk7
    clear hres hb6 hch7 hk7
    dsimp only
    go_wp2_with fail
    refine (read5r_any aD nD cD lD _ HRD6.out HND.out hnD hncD HAD6.out).mono ?_
    intro e w7 hres
    obtain ⟨hb7, hres⟩ := hres
    have HB7 := hid (HB6.out.trans (hb7.mono HB6.out.size))
    have HCH77 := hid (HCH7.out.below hb7)
    have hx2 : ∃ (a8 : Option Addr) (n8 c8 : Nat) (zs : List ChD), e = .returned (.tuple #[.slice a8 n8 c8, .int .i64 ec7]) ∧ ChA w7 a8 n8 zs ∧ ys.map ChD.cg = zs.map ChD.cg := by
      rcases hres with ⟨a, n, c, l, he, hrc, hq⟩ | ⟨hno, he⟩
      · rcases HK7.out with ⟨h1, rfl⟩ | ⟨h1, -, -⟩
        · exact ⟨a, n, c, l, he, hq.ch, Option.some.inj (h1.symm.trans hrc)⟩
        · rw [hrc] at h1; cases h1
      · rcases HK7.out with ⟨h1, -⟩ | ⟨h1, rfl, rfl⟩
        · rw [hno] at h1; cases h1
        · exact ⟨none, 0, 0, [], he, ChA.nil _ _, rfl⟩
    obtain ⟨a8, n8, c8, zs, rfl, hch8, heq8⟩ := hx2
    have HCH8 := hid hch8; have HEQ8 := hid heq8
    clear hres hb7 hch8 heq8
    dsimp only
    go_wp2_with fail
    refine (known5_any _).mono ?_
    rintro e w8 ⟨rfl, hb8⟩
    dsimp only
    have HB8 := hid (HB7.out.trans (hb8.mono HB7.out.size))
    have HCH78 := hid (HCH77.out.below hb8)
    have HCH88 := hid (HCH8.out.below hb8)
    clear hb8
    go_wp2_with fail
    refine (same5_any a7 a8 n7 c7 n8 c8 ys zs _ HCH78.out HCH88.out HEQ8.out).mono ?_
    rintro e w9 ⟨rfl, hb9⟩
    dsimp only
    have HB9 := hid (HB8.out.trans (hb9.mono HB8.out.size))
    clear hb9
    go_wp2_with fail
    go_ret
    exact ⟨rfl, HB9.out⟩
  · go_upto_if 56 with (fail)
    clear kx ky
    obtain ⟨aD, nD, cD, lD, hD⟩ : ∃ a n c l, (a, n, c, l) = (aB, nB, cB, lB) := ⟨_, _, _, _, rfl⟩
    cases hD
    have HRD := hid (HB.out.below HB3.out); have HND := HNO; have HBD := HB3
    have HAD := hid (show ∀ b off sp, aB = some ⟨b, off, sp⟩ → b < w3.heap.size from fun b off sp e => Nat.lt_of_lt_of_le (HAT.out b off sp e) HB3.out.size)
    have hnD := hn; have hncD := HNC.out
    go_wp2_with fail
    refine (read5_any aB nB cB lB _ HRD.out HND.out hnD).mono ?_
    intro e w6 hres
    obtain ⟨hb6, hres⟩ := hres
    have HB6 := hid (HBD.out.trans (hb6.mono HBD.out.size))
    have HRD6 := hid (HRD.out.below hb6)
    have HAD6 := hid (show ∀ b off sp, aB = some ⟨b, off, sp⟩ → b < w6.heap.size from fun b off sp e => Nat.lt_of_lt_of_le (HAD.out b off sp e) hb6.size)
    have hx1 : ∃ (a7 : Option Addr) (n7 c7 : Nat) (ys : List ChD) (ec7 : Int), e = .returned (.tuple #[.slice a7 n7 c7, .int .i64 ec7]) ∧ ChA w6 a7 n7 ys ∧ ((readCs lB = some (ys.map ChD.cg) ∧ ec7 = 0) ∨ (readCs lB = none ∧ ys = [] ∧ ec7 = 5)) := by
      rcases hres with ⟨a, n, c, l, he, hrc, hq⟩ | ⟨hno, he⟩
      · exact ⟨a, n, c, l, 0, he, hq.ch, .inl ⟨hrc, rfl⟩⟩
      · exact ⟨none, 0, 0, [], 5, he, ChA.nil _ _, .inr ⟨hno, rfl, rfl⟩⟩
    obtain ⟨a7, n7, c7, ys, ec7, rfl, hch7, hk7⟩ := hx1
    have HCH7 := hid hch7; have HK7 := hid hk7
    clear hres hb6 hch7 hk7
    dsimp only
    go_wp2_with fail
    refine (read5r_any aB nB cB lB _ HRD6.out HND.out hnD hncD HAD6.out).mono ?_
    intro e w7 hres
    obtain ⟨hb7, hres⟩ := hres
    have HB7 := hid (HB6.out.trans (hb7.mono HB6.out.size))
    have HCH77 := hid (HCH7.out.below hb7)
    have hx2 : ∃ (a8 : Option Addr) (n8 c8 : Nat) (zs : List ChD), e = .returned (.tuple #[.slice a8 n8 c8, .int .i64 ec7]) ∧ ChA w7 a8 n8 zs ∧ ys.map ChD.cg = zs.map ChD.cg := by
      rcases hres with ⟨a, n, c, l, he, hrc, hq⟩ | ⟨hno, he⟩
      · rcases HK7.out with ⟨h1, rfl⟩ | ⟨h1, -, -⟩
        · exact ⟨a, n, c, l, he, hq.ch, Option.some.inj (h1.symm.trans hrc)⟩
        · rw [hrc] at h1; cases h1
      · rcases HK7.out with ⟨h1, -⟩ | ⟨h1, rfl, rfl⟩
        · rw [hno] at h1; cases h1
        · exact ⟨none, 0, 0, [], he, ChA.nil _ _, rfl⟩
    obtain ⟨a8, n8, c8, zs, rfl, hch8, heq8⟩ := hx2
    have HCH8 := hid hch8; have HEQ8 := hid heq8
    clear hres hb7 hch8 heq8
    dsimp only
    go_wp2_with fail
    refine (known5_any _).mono ?_
    rintro e w8 ⟨rfl, hb8⟩
    dsimp only
    have HB8 := hid (HB7.out.trans (hb8.mono HB7.out.size))
    have HCH78 := hid (HCH77.out.below hb8)
    have HCH88 := hid (HCH8.out.below hb8)
    clear hb8
    go_wp2_with fail
    refine (same5_any a7 a8 n7 c7 n8 c8 ys zs _ HCH78.out HCH88.out HEQ8.out).mono ?_
    rintro e w9 ⟨rfl, hb9⟩
    dsimp only
    have HB9 := hid (HB8.out.trans (hb9.mono HB8.out.size))
    clear hb9
    go_wp2_with fail
    go_ret
    exact ⟨rfl, HB9.out⟩
end Go.Proofs.Ytipkeifpkemcdaa
