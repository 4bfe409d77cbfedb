/- WalRoom's walk. -/
import Derived.Test.YtclpkjjhphanpaaWalT
import Derived.Test.YtclpkjjhphanpaaW4Open
import Derived.Test.YtclpkjjhphanpaaWal6
import Derived.Test.YtclpkjjhphanpaaRegionP
namespace Go.Proofs.Ytclpkjjhphanpaa
open Go.RowKit
set_option linter.unusedVariables false
set_option linter.unusedSimpArgs false
set_option maxRecDepth 1000000
set_option maxHeartbeats 6400000
/-- A disk that does not fall. -/
def UpD (s : DSt) : Prop := s.fuse = -1 ∧ s.down = false
theorem UpD.can {s : DSt} (h : UpD s) : s.can = true := by unfold DSt.can; rw [h.1, h.2]; rfl
theorem UpD.work {s : DSt} (h : UpD s) : UpD s.work := by unfold DSt.work; rw [if_pos h.can]; exact ⟨by show max (s.fuse - 1) (-1) = -1; rw [h.1]; rfl, h.2⟩
theorem UpD.go {s : DSt} (h : UpD s) (x : Wk) : UpD (x.go s) := by
  cases x with
  | wr k d => show UpD (s.write k d); unfold DSt.write; rw [if_pos h.can]; exact ⟨h.work.1, h.work.2⟩
  | fl => show UpD s.flush; unfold DSt.flush; rw [if_pos h.can]; exact ⟨h.work.1, h.work.2⟩
theorem runW_up : ∀ (xs : List Wk) (s : DSt), UpD s → (runW xs s).2 = true ∧ UpD (runW xs s).1 ∧ (runW xs s).1.sec.length = s.sec.length ∧ (runW xs s).1.works ≤ s.works + xs.length ∧ (runW xs s).1.pend.length ≤ s.pend.length + xs.length
  | [], s, h => ⟨rfl, h, rfl, Nat.le_refl _, Nat.le_refl _⟩
  | x :: xs, s, h => by
    rw [runW_cons, if_pos h.can]
    obtain ⟨h1, h2, h3, h4, h5⟩ := runW_up xs (x.go s) (h.go x)
    have h6 := go_small x s
    refine ⟨h1, h2, by omega, ?_, ?_⟩
    · rw [List.length_cons]; omega
    · rw [List.length_cons]; omega
theorem new_up (n : Nat) : UpD (DSt.new n) ∧ (DSt.new n).sec.length = n ∧ (DSt.new n).works = 0 ∧ (DSt.new n).pend.length = 0 := ⟨⟨rfl, rfl⟩, by simp [DSt.new], rfl, rfl⟩
theorem size_small {us : List (List UInt8)} (h : ∀ l ∈ us, l.length < 150) : sizeAll us ≤ 4 * us.length := by
  induction us with
  | nil => exact Nat.le_refl _
  | cons u us ih =>
    have h1 := ih (fun l hl => h l (List.mem_cons_of_mem _ hl))
    have h2 := h u List.mem_cons_self
    unfold sizeAll at *
    rw [List.map_cons, List.sum_cons, List.length_cons]
    have h3 : unitSize u.length ≤ 4 := by unfold unitSize; omega
    omega
/-- A log on such a disk. -/
structure RmS (w : World) (p pl N k e0 a0 u0 : Nat) (at0 : Int) (s : DSt) (F : List Nat) : Prop where
  lg : w.heap[pl]? = some (.cells (logArr p e0 (a0 : Int) (u0 : Int) at0 false) 53 (0, 0))
  dk : Dk w p s F
  pf : pl ∉ F
  up : UpD s
  sl : s.sec.length = N
  ha : a0 ≤ 1
  hu : u0 ≤ (N - 2) / 2
  he : e0 ≤ k
  wk : s.works ≤ 100 * k
  pn : s.pend.length ≤ 100 * k
theorem RmS.below {w w' : World} {p pl N k e0 a0 u0 : Nat} {at0 : Int} {s : DSt} {F : List Nat} (h : RmS w p pl N k e0 a0 u0 at0 s F) (hb : Below w.heap.size w w') : RmS w' p pl N k e0 a0 u0 at0 s F :=
  ⟨(hb.block _ (block_lt h.lg)).trans h.lg, h.dk.below hb, h.pf, h.up, h.sl, h.ha, h.hu, h.he, h.wk, h.pn⟩
theorem RmS.more {w : World} {p pl N k k' e0 a0 u0 : Nat} {at0 : Int} {s : DSt} {F : List Nat} (h : RmS w p pl N k e0 a0 u0 at0 s F) (hk : k ≤ k') : RmS w p pl N k' e0 a0 u0 at0 s F :=
  ⟨h.lg, h.dk, h.pf, h.up, h.sl, h.ha, h.hu, Nat.le_trans h.he hk, by have := h.wk; omega, by have := h.pn; omega⟩
theorem RmS.low {w : World} {p pl N k e0 a0 u0 : Nat} {at0 : Int} {s : DSt} {F : List Nat} (h : RmS w p pl N k e0 a0 u0 at0 s F) : ∀ q ∈ pl :: F, q < w.heap.size := fun q hq => by
  rcases List.mem_cons.1 hq with h' | h'
  · rw [h']; exact block_lt h.lg
  · exact Dk.lt h.dk q h'
/-- While the steps are gone through. -/
structure RmL (w : World) (p pl N nL : Nat) (y : Value) (wr : World) : Prop where
  ex : ∃ (k e0 a0 u0 : Nat) (at0 : Int) (s : DSt) (F : List Nat), y = .int .i64 (k : Int) ∧ k ≤ nL ∧ k ≤ 30 ∧ RmS wr p pl N k e0 a0 u0 at0 s F ∧ (∀ q ∈ pl :: F, w.heap.size ≤ q) ∧ Below w.heap.size w wr
theorem stSize : (Try.prog.info? 45).map (·.size) = some 5 := by kernel_rfl
/-- While sizes are added. -/
structure SzL (us : List (List UInt8)) (nU : Nat) (wx : World) (y14 y15 : Value) (wr : World) : Prop where
  ex : ∃ j : Nat, y14 = .int .i64 (sizeAll (us.take j) : Int) ∧ y15 = .int .i64 (j : Int) ∧ j ≤ nU ∧ wr = wx
/-- What an Append or a Reset did. -/
def Did (rs : Bool) (N nU sz e0 a0 u0 e1 a1 u1 : Nat) (w0 w1 : Nat) (ec : Int) : Prop :=
  (ec = 2 ∧ e1 = e0 ∧ a1 = a0 ∧ u1 = u0 ∧ w1 = w0 ∧ (rs = true → (N - 2) / 2 < sz) ∧ (rs = false → (N - 2) / 2 - u0 < sz)) ∨
  (ec = 0 ∧ nU = 0 ∧ rs = false ∧ e1 = e0 ∧ a1 = a0 ∧ u1 = u0 ∧ w1 = w0) ∨
  (ec = 0 ∧ 0 < nU ∧ e1 = e0 + 1 ∧ (rs = true → a1 = 1 - a0 ∧ u1 = sz) ∧ (rs = false → a1 = a0 ∧ u1 = u0 + sz))
theorem walRoom_walk (zn : Int) (aL : Option Addr) (nL cL : Nat) (l : List StD) (w : World) (hal : StArgs w aL nL l) :
    Calls Try.prog 4 #[.int .i64 zn, .slice aL nL cL] w fun e w' => e = .returned (.bool true) ∧ Below w.heap.size w w' := by
  have HAL := hid hal
  have hnL := hal.sm
  clear hal
  have hlo := pick_lo zn 30 (by omega)
  have hhi := pick_hi zn 30 (by omega)
  obtain ⟨pk, hpk⟩ := Int.eq_ofNat_of_zero_le hlo
  have HPK := hid hpk
  have hpkl : pk < 30 := by omega
  clear hlo hhi hpk
  obtain ⟨N, hN⟩ : ∃ N, N = 8 + pk := ⟨_, rfl⟩
  have hN8 : 8 ≤ N ∧ N ≤ 37 := by omega
  have hadd : IntKind.i64.wrap (8 + (pk : Int)) = (N : Int) := by rw [IntWalk.i64_in _ (by omega)]; omega
  clear hN
  go_enter Try.func4, Try.ntmps4
  go_wp2_with fail
  refine (pick_any zn 30 _ (by omega) (by omega)).mono ?_
  rintro e wz ⟨rfl, rfl⟩
  rw [HPK.out]
  dsimp only
  go_wp2_with fail
  clear hadd
  refine (new_any N _ hN8.1 (by omega)).mono ?_
  rintro e w1 ⟨FD, rfl, hd, hb1, hf1⟩
  dsimp only
  have HD := hid hd; have HB1 := hid hb1; have HF1 := hid hf1
  obtain ⟨p, hp⟩ : ∃ p, p = w.heap.size := ⟨_, rfl⟩
  have HP := hid hp
  rw [← hp] at HD ⊢
  clear hd hb1 hf1 hp
  go_wp2_with fail
  refine (open0_any N p FD _ HD.out hN8.1).mono ?_
  rintro e w2 ⟨pl, rfl, hlg, hd2, hb2, hpl⟩
  dsimp only
  have hnew := new_up N
  have hpf : pl ∉ FD := fun hm => by have h1 := Dk.lt HD.out pl hm; omega
  have S := hid (show RmS w2 p pl N 0 0 0 0 (-1) (DSt.new N) FD from ⟨hlg, hd2, hpf, hnew.1, hnew.2.1, by decide, Nat.zero_le _, Nat.le_refl _, Nat.le_of_eq hnew.2.2.1, Nat.le_of_eq hnew.2.2.2⟩)
  have HB2 := hid (HB1.out.trans (hb2.mono HB1.out.size))
  have HLO := hid (show ∀ q ∈ pl :: FD, w.heap.size ≤ q from fun q hq => by
    rcases List.mem_cons.1 hq with h | h
    · have := HB1.out.size; omega
    · exact HF1.out q h)
  clear hlg hd2 hb2 hpl hnew hpf HD HB1 HF1
  go_wp2_with fail
  refine (known4_any _).mono ?_
  rintro e w3 ⟨rfl, hb3⟩
  dsimp only
  have S3 := hid (S.out.below hb3)
  have HB3 := hid (HB2.out.trans (hb3.mono HB2.out.size))
  clear hb3 S HB2
  go_wp2_with fail
  go_loopw [10] (fun y wr => RmL w p pl N nL y wr) (fun y _ => 30 - (intOf y).toNat)
  case atStart => exact ⟨⟨0, 0, 0, 0, -1, _, _, rfl, Nat.zero_le _, Nat.zero_le _, S3.out, HLO.out, HB3.out⟩⟩
  case round =>
    obtain ⟨k, e0, a0, u0, at0, s, F, rfl, hkn, hk30, hs, hlow, hb⟩ := hrel.ex
    clear hrel S3 HB3 HLO
    have S := hid hs; have HLO := hid hlow; have HB := hid hb
    clear hs hlow hb
    by_cases k1 : k < nL
    · have k1z : (k : Int) < (nL : Int) := by omega
      by_cases k2 : k < 30
      · have k2z : (k : Int) < 30 := by omega
        go_wp2_with fail
        refine (logHead_any pl p e0 (a0 : Int) (u0 : Int) at0 false _ S.out.lg).mono ?_
        rintro e w4 ⟨rfl, hb4⟩
        dsimp only
        have S4 := hid (S.out.below hb4)
        have HB4 := hid (HB.out.trans (hb4.mono HB.out.size))
        clear hb4 S HB
        go_upto_region 10 with (first | (refine wpList_alloc_obj rfl 36 rfl _ hZero ?_) | (refine wpList_store_obj rfl 36 _ _ rfl w4.heap.size rfl (headArr e0 (a0 : Int) (u0 : Int)) rfl _ _ (block_new w4 _) rfl hSize (headArr_one _ _ _) ?_; intro w5 hb5 hc5 hs5; have HW := hid hb5; have HC5 := hid hc5; clear hb5 hc5 hs5))
        have hbel : Below w4.heap.size w4 w5 := ((Below.refl _ w4).alloc (Nat.le_refl _) _).trans (HC5.out.below (fun k hk => by rw [List.mem_singleton.1 hk]; exact Nat.le_refl _) (by simp))
        have S5 := hid (S4.out.below hbel)
        have HB5 := hid (HB4.out.trans (hbel.mono HB4.out.size))
        have HWN := hid S4.out.low
        clear hbel HC5 S4 HB4
        generalize w4.heap.size = bw at *
        go_wp2_with fail
        refine (works_any p s F _ S5.out.dk).mono ?_
        rintro e wz ⟨rfl, rfl⟩
        dsimp only
        obtain ⟨bL, oL, x, haL, hlx, hrow, hxo⟩ := (HAL.out.below HB5.out).row k k1
        have HXO := hid hxo
        have HR := hid hrow
        subst haL
        clear hxo hlx hrow
        go_wp2_with (refine wpList_load_mid rfl 45 _ rfl bL (oL + k * 5) rfl x.cells _ HR.out Try.underlying45 rfl stSize ?_)
        refine (texts_any x _ HXO.out).mono ?_
        intro e w6 hres
        obtain ⟨aU, nU, cU, us, rfl, hun, hn4, hsm, hb6⟩ := hres
        dsimp only
        have HUN := hid hun; have HSM := hid hsm
        have S6 := hid (S5.out.below hb6)
        have HB6 := hid (HB5.out.trans (hb6.mono HB5.out.size))
        have HW6 := hid ((hb6.block _ (block_lt HW.out)).trans HW.out)
        clear hun hsm hb6 S5 HB5 HW HXO HR
        go_wp2_with fail
        go_loopw [14, 15] (fun y14 y15 wr => SzL us nU w6 y14 y15 wr) (fun _ y15 _ => nU - (intOf y15).toNat)
        case atStart => exact ⟨⟨0, rfl, rfl, Nat.zero_le _, rfl⟩⟩
        case round =>
          obtain ⟨j, rfl, rfl, hjn, rfl⟩ := hrel.ex
          clear hrel
          have HSK := hid (sizeAll_le us j)
          have HSA : Hid (sizeAll us ≤ 16) := by have h1 := size_small HSM.out; have h2 := HUN.out.len; show _ ≤ _; omega
          by_cases j1 : j < nU
          · have j1z : (j : Int) < (nU : Int) := by omega
            obtain ⟨bU, oU, au, nu, cu, lu, haU, hlu, hcu, hru, hnu, hnu40⟩ := HUN.out.row j j1
            have HTK : Hid (us.take (j + 1) = us.take j ++ [lu]) := take_snoc hlu
            have HLB : Hid (sizeAll (us.take (j + 1)) = sizeAll (us.take j) + unitSize nu) := by show _ = _; rw [HTK.out, ← hru.len]; unfold sizeAll; simp
            have hsk1 := sizeAll_le us (j + 1)
            have hs16 := HSA.out; have hlb := HLB.out
            obtain ⟨sj, hsj⟩ : ∃ z, sizeAll (us.take j) = z := ⟨_, rfl⟩
            rw [hsj] at hlb ⊢
            have HLJ := hid hlb
            have hadd : IntKind.i64.wrap ((sj : Int) + (unitSize nu : Int)) = ((sj + unitSize nu : Nat) : Int) := by rw [IntWalk.i64_in _ (by omega)]; omega
            subst haU
            clear hlu hru hnu HTK HLB hsk1 hs16 hlb hsj HSK
            go_wp2_with fail
            refine (size_any au nu cu _ hnu40).mono ?_
            rintro e wz ⟨rfl, rfl⟩
            dsimp only
            go_wp2_with fail
            have HRR : SzL us nU wr (.int .i64 ((sj + unitSize nu : Nat) : Int)) (.int .i64 ((j : Int) + 1)) wr := ⟨⟨j + 1, by rw [HLJ.out], by go_num, by omega, rfl⟩⟩
            go_roundw
            case rel => first | exact HRR | ((repeat apply Exists.intro); exact HRR) | ((repeat apply Exists.intro); exact ⟨HRR, rfl⟩)
            case measure => (simp [intOf] <;> omega)
          · have j1z : ¬ (j : Int) < (nU : Int) := by omega
            have hjU : j = nU := by omega
            have htk : us.take j = us := List.take_of_length_le (by rw [HUN.out.len]; omega)
            clear hjU
            rw [htk]
            obtain ⟨SZ, hSZ⟩ : ∃ z, sizeAll us = z := ⟨_, rfl⟩
            have HSZE := hid hSZ
            have HSZ := HSA
            rw [hSZ]
            clear htk hSZ HSK HSA
            have S := S6
            clear S6
            obtain ⟨bL2, oL2, x2, haL, hlx, hrow, hxo⟩ := (HAL.out.below HB6.out).row k k1
            have hcw : wr.cell? ⟨bL2, oL2 + k * 5, none⟩ = some (.int .i64 x2.what) := hrow 0 _ rfl
            have hbo : bL2 = bL ∧ oL2 = oL := by cases haL; exact ⟨rfl, rfl⟩
            rw [hbo.1, hbo.2] at hcw
            clear hlx hrow hxo haL hbo
            obtain ⟨pw, hpw⟩ : ∃ z, pick x2.what 4 = z := ⟨_, rfl⟩
            have HPW := hid hpw
            have HCW := hid hcw
            clear hpw hcw
            go_upto_region 18 with (fail)
            refine wp_region_eachP 13 [.eq (.slice (some ⟨bL, oL, none⟩) nL cL), .eq (.int .i64 (k : Int)), .eq (.pointer (some ⟨bL, oL + k * 5, none⟩)), .eq (.pointer (some ⟨bL, oL + k * 5, none⟩)), .eq (.int .i64 x2.what), .eq (.int .i64 pw), .eq (.bool (pw == 3)), .eq (.bool (pw == 3)), .eq (if (pw == 3) = true then .slice aU nU cU else undef), .eq (if (pw == 3) = true then .int .i64 (nU : Int) else undef), .eq (if (pw == 3) = true then .bool (decide (0 < nU)) else undef), .eq (.bool ((pw == 3) && (decide (0 < nU)))), .eq (.bool ((pw == 3) && (decide (0 < nU))))] (by kernel_rfl) ?_ ?_
            · all_goals
                refine each_5 ?_ ?_ ?_ ?_ ?_ (each_5 ?_ ?_ ?_ ?_ ?_ (each_c ?_ (each_c ?_ (each_c ?_ (each_n)))))
                · intro w1 hg Ar seen
                  have s1 := seen.sl 1 (.slice (some ⟨bL, oL, none⟩) nL cL)
                  refine does_plain rfl fun K Q' hK => ?_
                  go_simp; exact hK _ _ (Grow.refl _) rfl
                · intro w1 hg Ar seen
                  have s10 := seen.sl 10 (.int .i64 (k : Int))
                  refine does_plain rfl fun K Q' hK => ?_
                  go_simp; exact hK _ _ (Grow.refl _) rfl
                · intro w1 hg Ar seen
                  have e0 := seen.de 0 79
                  have e1 := seen.de 1 80
                  refine does_plain rfl fun K Q' hK => ?_
                  go_simp; exact hK _ _ (Grow.refl _) rfl
                · intro w1 hg Ar seen
                  have e2 := seen.de 2 81
                  refine does_plain rfl fun K Q' hK => ?_
                  go_simp; exact hK _ _ (Grow.refl _) rfl
                · intro w1 hg Ar seen
                  have e3 := seen.de 3 82
                  refine does_plain rfl fun K Q' hK => ?_
                  have hc := (Chg.of_below hg []).cell HCW.out (by simp)
                  go_simp; exact hK _ _ (Grow.refl _) rfl
                · intro w1 hg Ar seen
                  have e4 := seen.de 4 83
                  refine does_plain rfl fun K Q' hK => ?_
                  go_simp
                  refine (pick_any x2.what 4 _ (by omega) (by omega)).mono ?_
                  rintro e u ⟨rfl, rfl⟩
                  exact hK _ _ (Grow.refl _) (congrArg (Value.int .i64) HPW.out)
                · intro w1 hg Ar seen
                  have e5 := seen.de 5 84
                  refine does_plain rfl fun K Q' hK => ?_
                  go_simp; exact hK _ _ (Grow.refl _) rfl
                · intro w1 hg Ar seen
                  have e6 := seen.de 6 85
                  refine does_plain rfl fun K Q' hK => ?_
                  go_simp; exact hK _ _ (Grow.refl _) rfl
                · intro w1 hg Ar seen
                  have s13 := seen.sl 13 (.slice aU nU cU)
                  have eg := seen.de 7 86
                  by_cases hc0 : ((pw == 3) : Bool) = true
                  · have hc := hc0
                    clear hc0
                    rw [hc] at eg
                    have hWi : (pw == 3) = true := by rw [hc] <;> rfl
                    refine does_on rfl (by kernel_rfl) eg fun K Q' hK => ?_
                    clear eg
                    have hf : Hid ((.slice aU nU cU : Value) = (if (pw == 3) = true then .slice aU nU cU else undef)) := (if_t hWi).symm
                    clear hWi hc
                    go_simp; exact hK _ _ (Grow.refl _) hf.out
                  · have hc : ((pw == 3) : Bool) = false := by rw [← Bool.not_eq_true]; exact hc0
                    clear hc0
                    rw [hc] at eg
                    have hWi : (pw == 3) = false := by rw [hc] <;> rfl
                    exact does_off rfl (by kernel_rfl) eg ne_ft (Grow.refl _) (show undef = _ from (if_f hWi).symm)
                · intro w1 hg Ar seen
                  have e8 := seen.de 8 87
                  have eg := seen.de 7 86
                  by_cases hc0 : ((pw == 3) : Bool) = true
                  · have hc := hc0
                    clear hc0
                    rw [hc] at eg
                    have hWi : (pw == 3) = true := by rw [hc] <;> rfl
                    refine does_on rfl (by kernel_rfl) eg fun K Q' hK => ?_
                    clear eg
                    replace e8 := e8.trans (congrArg some (if_t hWi))
                    have hf : Hid ((.int .i64 (nU : Int) : Value) = (if (pw == 3) = true then .int .i64 (nU : Int) else undef)) := (if_t hWi).symm
                    clear hWi hc
                    go_simp; exact hK _ _ (Grow.refl _) hf.out
                  · have hc : ((pw == 3) : Bool) = false := by rw [← Bool.not_eq_true]; exact hc0
                    clear hc0
                    rw [hc] at eg
                    have hWi : (pw == 3) = false := by rw [hc] <;> rfl
                    exact does_off rfl (by kernel_rfl) eg ne_ft (Grow.refl _) (show undef = _ from (if_f hWi).symm)
                · intro w1 hg Ar seen
                  have e9 := seen.de 9 88
                  have eg := seen.de 7 86
                  by_cases hc0 : ((pw == 3) : Bool) = true
                  · have hc := hc0
                    clear hc0
                    rw [hc] at eg
                    have hWi : (pw == 3) = true := by rw [hc] <;> rfl
                    refine does_on rfl (by kernel_rfl) eg fun K Q' hK => ?_
                    clear eg
                    replace e9 := e9.trans (congrArg some (if_t hWi))
                    have hf : Hid ((.bool (decide (0 < nU)) : Value) = (if (pw == 3) = true then .bool (decide (0 < nU)) else undef)) := (if_t hWi).symm
                    clear hWi hc
                    go_simp; exact hK _ _ (Grow.refl _) hf.out
                  · have hc : ((pw == 3) : Bool) = false := by rw [← Bool.not_eq_true]; exact hc0
                    clear hc0
                    rw [hc] at eg
                    have hWi : (pw == 3) = false := by rw [hc] <;> rfl
                    exact does_off rfl (by kernel_rfl) eg ne_ft (Grow.refl _) (show undef = _ from (if_f hWi).symm)
                · intro w1 hg Ar seen
                  have e7 := seen.de 7 86
                  have e10 := seen.de 10 89
                  refine does_plain rfl fun K Q' hK => ?_
                  by_cases hp0 : ((pw == 3) : Bool) = true
                  · have hp := hp0
                    clear hp0
                    rw [hp] at e7
                    replace e10 := e10.trans (congrArg some (if_t (by rw [hp] <;> rfl)))
                    have hv := hid (by show (Value.bool (decide (0 < nU))) = .bool ((pw == 3) && (decide (0 < nU))); rw [hp] <;> rfl)
                    clear hp
                    go_simp; exact hK _ _ (Grow.refl _) hv.out
                  · have hp : ((pw == 3) : Bool) = false := by rw [← Bool.not_eq_true]; exact hp0
                    clear hp0
                    rw [hp] at e7
                    clear e10
                    have hv := hid (by show (Value.bool false) = .bool ((pw == 3) && (decide (0 < nU))); rw [hp] <;> rfl)
                    clear hp
                    go_simp; exact hK _ _ (Grow.refl _) hv.out
                · intro w1 hg Ar seen
                  have e11 := seen.de 11 90
                  refine does_plain rfl fun K Q' hK => ?_
                  go_simp; exact hK _ _ (Grow.refl _) rfl
            intro w1 hg
            refine upon_w' (js := [0, 1, 2, 3, 4, 5, 6, 7, 8, 9, 10, 11, 12]) (by rfl) ?_
            refine upon_x (some 79) fun v79 => upon_x (some 80) fun v80 => upon_x (some 81) fun v81 => upon_x (some 82) fun v82 => upon_x (some 83) fun v83 => upon_x (some 84) fun v84 => upon_x (some 85) fun v85 => upon_x (some 86) fun v86 => upon_x (some 87) fun v87 => upon_x (some 88) fun v88 => upon_x (some 89) fun v89 => upon_x (some 90) fun v90 => upon_e (some 17) (upon_n ?_)
            have S2 := hid (S.out.below hg)
            have HB7 := hid (HB6.out.trans (hg.mono HB6.out.size))
            have HW7 := hid ((hg.block _ (block_lt HW6.out)).trans HW6.out)
            have HUN7 := hid (HUN.out.below hg)
            clear S HB6 HW6 HUN hg HCW HPW
            have S := S2; have HB6 := HB7; have HW6 := HW7; have HUN := HUN7
            clear S2 HB7 HW7 HUN7
            obtain ⟨rs, hrs⟩ : ∃ rs : Bool, (pw == 3 && decide (0 < nU)) = rs := ⟨_, rfl⟩
            have HRS := hid hrs
            rw [hrs]
            clear hrs
            go_upto_if 91 with (fail)
            go_cut [14, 16] (fun y14 y16 wx => ∃ (ec : Int) (sz e1 a1 u1 : Nat) (at1 : Int) (s1 : DSt) (F1 : List Nat), y14 = .int .i64 (sz : Int) ∧ y16 = .int .i64 ec ∧ RmS wx p pl N (k + 1) e1 a1 u1 at1 s1 F1 ∧ Did rs N nU sz e0 a0 u0 e1 a1 u1 s.works s1.works ec ∧ (∀ q ∈ pl :: F1, w.heap.size ≤ q) ∧ Below w.heap.size w wx ∧ wx.heap[bw]? = some (.cells (headArr e0 (a0 : Int) (u0 : Int)) 36 (0, 0)) ∧ sz ≤ 1000)
            case first =>
              cases rs with
              | true =>
                as_aux_lemma =>
                have hn0 : 0 < nU := by have h := HRS.out; simp at h; exact h.2
                have hn0z : (0 : Int) < (nU : Int) := by omega
                obtain ⟨b0, o0, ar, nr, cr, lr, haU, hlr, hcr, hrr, hnr, hnr40⟩ := HUN.out.row 0 hn0
                rw [Nat.add_zero] at hcr
                subst haU
                have HRR := hid hrr; have HNR := hid hnr
                have hl150 := HSM.out lr (List.mem_of_getElem? hlr)
                have hln := hrr.len
                have HUS := hid (show unitSize nr ≤ 4 by unfold unitSize; omega)
                clear hrr hnr hlr
                go_wp2_with fail
                refine (size_any ar nr cr _ hnr40).mono ?_
                rintro e wz ⟨rfl, rfl⟩
                dsimp only
                go_wp2_with fail
                refine (Reset_any pl p e0 a0 u0 at0 ar nr cr lr s F _ HRR.out HNR.out (by omega) S.out.lg S.out.dk S.out.pf (by rw [S.out.sl]; exact hN8.1) (by rw [S.out.sl]; omega) S.out.ha (by have := S.out.he; omega) (by have := S.out.wk; omega) (by have := S.out.pn; omega)).mono ?_
                intro e w7 hres
                have hsl := S.out.sl
                unfold ResRes at hres
                rw [hsl, hln] at hres
                clear hcr
                rcases hres with ⟨hfull, rfl, hb7⟩ | ⟨hfit, hok⟩
                · dsimp only
                  have HS7 := hid ((S.out.below hb7).more (Nat.le_succ k))
                  have HB7 := hid (HB6.out.trans (hb7.mono HB6.out.size))
                  have HW7 := hid ((hb7.block _ (block_lt HW6.out)).trans HW6.out)
                  have HFU := hid hfull
                  clear hb7 hfull
                  go_wp2_with fail
                  go_meet
                  exact ⟨2, unitSize nr, e0, a0, u0, at0, s, F, rfl, rfl, HS7.out, .inl ⟨rfl, rfl, rfl, rfl, rfl, (fun _ => HFU.out), (fun h => by cases h)⟩, HLO.out, HB7.out, HW7.out, by have := HUS.out; omega⟩
                · have hfz := HUS.out
                  obtain ⟨R, hR, rfl, hch, hlg, F', hd, hfr⟩ := hok
                  have hup := runW_up (comW (2 + (1 - a0) * ((N - 2) / 2)) (layB lr) (unitSize nr) (if at0 = 0 then 1 else 0) (headB (e0 + 1) ((1 - a0 : Nat) : Int) (unitSize nr : Int))) s S.out.up
                  rw [hR] at hup
                  obtain ⟨u1, u2, u3, u4, u5⟩ := hup
                  rw [if_pos u1] at hlg
                  rw [if_pos u1]
                  dsimp only
                  have hxl := comW_len (2 + (1 - a0) * ((N - 2) / 2)) (unitSize nr) (if at0 = 0 then 1 else 0) (layB lr) (headB (e0 + 1) ((1 - a0 : Nat) : Int) (unitSize nr : Int))
                  rw [hxl] at u4 u5
                  have hk1 := S.out.wk; have hk2 := S.out.pn; have hk3 := S.out.he; have hk4 := S.out.sl; have hk5 := S.out.ha; have hk6 := S.out.hu
                  have hpf : pl ∉ F' := fun hm => by
                    rcases hfr pl hm with h' | h'
                    · exact S.out.pf h'
                    · have := block_lt S.out.lg; omega
                  have HS7 : Hid (RmS w7 p pl N (k + 1) (e0 + 1) (1 - a0) (unitSize nr) ((if at0 = 0 then 1 else 0 : Nat) : Int) R.1 F') := ⟨hlg, hd, hpf, u2, by rw [u3]; exact hk4, by omega, by omega, by omega, by omega, by omega⟩
                  have HL7 : Hid (∀ q ∈ pl :: F', w.heap.size ≤ q) := fun q hq => by
                    rcases List.mem_cons.1 hq with h' | h'
                    · exact HLO.out q (by rw [h']; simp)
                    · rcases hfr q h' with h2 | h2
                      · exact HLO.out q (List.mem_cons_of_mem _ h2)
                      · exact Nat.le_trans HB6.out.size h2
                  have HB7 : Hid (Below w.heap.size w w7) := HB6.out.trans (hch.below (fun q hq => HLO.out q hq) HB6.out.size)
                  have HW7 := hid ((hch.block bw (block_lt HW6.out) (fun hm => by have := HWN.out bw hm; omega)).trans HW6.out)
                  clear hR hch hlg hd hfr hxl hpf
                  go_wp2_with fail
                  go_meet
                  exact ⟨0, unitSize nr, e0 + 1, 1 - a0, unitSize nr, _, R.1, F', rfl, rfl, HS7.out, .inr (.inr ⟨rfl, hn0, rfl, (fun _ => ⟨rfl, rfl⟩), (fun h => by cases h)⟩), HL7.out, HB7.out, HW7.out, by have := HUS.out; omega⟩
              | false =>
                as_aux_lemma =>
                go_wp2_with fail
                refine (Append_any pl p e0 a0 u0 at0 aU nU cU us s F _ HUN.out S.out.lg S.out.dk S.out.pf (by rw [S.out.sl]; exact hN8.1) (by rw [S.out.sl]; omega) S.out.ha (by rw [S.out.sl]; exact S.out.hu) (by have := S.out.he; omega) (by have := HSZ.out; omega) (by have := S.out.wk; omega) (by have := S.out.pn; omega)).mono ?_
                intro e w7 hres
                have hsl := S.out.sl
                unfold AppRes at hres
                rw [hsl] at hres
                rcases hres with ⟨hus, rfl, hb7⟩ | ⟨hne, hfull, rfl, hb7⟩ | ⟨hne, hfit, hok⟩
                · dsimp only
                  have hn0 : nU = 0 := by have := HUN.out.len; rw [hus] at this; exact this.symm
                  have HS7 := hid ((S.out.below hb7).more (Nat.le_succ k))
                  have HB7 := hid (HB6.out.trans (hb7.mono HB6.out.size))
                  have HW7 := hid ((hb7.block _ (block_lt HW6.out)).trans HW6.out)
                  clear hb7 hus
                  go_wp2_with fail
                  go_meet
                  exact ⟨0, SZ, e0, a0, u0, at0, s, F, rfl, rfl, HS7.out, .inr (.inl ⟨rfl, hn0, rfl, rfl, rfl, rfl, rfl⟩), HLO.out, HB7.out, HW7.out, by have := HSZ.out; have := HSZE.out; omega⟩
                · dsimp only
                  have HS7 := hid ((S.out.below hb7).more (Nat.le_succ k))
                  have HB7 := hid (HB6.out.trans (hb7.mono HB6.out.size))
                  have HW7 := hid ((hb7.block _ (block_lt HW6.out)).trans HW6.out)
                  have HFU := hid hfull
                  clear hb7 hne hfull
                  go_wp2_with fail
                  go_meet
                  exact ⟨2, SZ, e0, a0, u0, at0, s, F, rfl, rfl, HS7.out, .inl ⟨rfl, rfl, rfl, rfl, rfl, (fun h => by cases h), (fun _ => by rw [← HSZE.out]; exact HFU.out)⟩, HLO.out, HB7.out, HW7.out, by have := HSZ.out; have := HSZE.out; omega⟩
                · have hn0 : 0 < nU := by
                    rcases Nat.eq_zero_or_pos nU with h | h
                    · exact absurd (List.length_eq_zero_iff.1 (by rw [HUN.out.len]; exact h)) hne
                    · exact h
                  have hfz := HSZ.out; have hfe := HSZE.out
                  obtain ⟨R, hR, rfl, hch, hlg, F', hd, hfr⟩ := hok
                  have hup := runW_up (comW (2 + a0 * ((N - 2) / 2) + u0) (layAll us) (sizeAll us) (if at0 = 0 then 1 else 0) (headB (e0 + 1) (a0 : Int) ((u0 + sizeAll us : Nat) : Int))) s S.out.up
                  rw [hR] at hup
                  obtain ⟨u1, u2, u3, u4, u5⟩ := hup
                  rw [if_pos u1] at hlg
                  rw [if_pos u1]
                  dsimp only
                  have hxl := comW_len (2 + a0 * ((N - 2) / 2) + u0) (sizeAll us) (if at0 = 0 then 1 else 0) (layAll us) (headB (e0 + 1) (a0 : Int) ((u0 + sizeAll us : Nat) : Int))
                  rw [hxl] at u4 u5
                  have hk1 := S.out.wk; have hk2 := S.out.pn; have hk3 := S.out.he; have hk4 := S.out.sl; have hk5 := S.out.ha; have hk6 := S.out.hu
                  have hpf : pl ∉ F' := fun hm => by
                    rcases hfr pl hm with h' | h'
                    · exact S.out.pf h'
                    · have := block_lt S.out.lg; omega
                  have HS7 : Hid (RmS w7 p pl N (k + 1) (e0 + 1) a0 (u0 + sizeAll us) ((if at0 = 0 then 1 else 0 : Nat) : Int) R.1 F') := ⟨hlg, hd, hpf, u2, by rw [u3]; exact hk4, by omega, by omega, by omega, by omega, by omega⟩
                  have HL7 : Hid (∀ q ∈ pl :: F', w.heap.size ≤ q) := fun q hq => by
                    rcases List.mem_cons.1 hq with h' | h'
                    · exact HLO.out q (by rw [h']; simp)
                    · rcases hfr q h' with h2 | h2
                      · exact HLO.out q (List.mem_cons_of_mem _ h2)
                      · exact Nat.le_trans HB6.out.size h2
                  have HB7 : Hid (Below w.heap.size w w7) := HB6.out.trans (hch.below (fun q hq => HLO.out q hq) HB6.out.size)
                  have HW7 := hid ((hch.block bw (block_lt HW6.out) (fun hm => by have := HWN.out bw hm; omega)).trans HW6.out)
                  clear hR hch hlg hd hfr hxl hpf
                  go_wp2_with fail
                  go_meet
                  exact ⟨0, SZ, e0 + 1, a0, u0 + sizeAll us, _, R.1, F', rfl, rfl, HS7.out, .inr (.inr ⟨rfl, hn0, rfl, (fun h => by cases h), (fun _ => ⟨rfl, by rw [HSZE.out]⟩)⟩), HL7.out, HB7.out, HW7.out, by have := HSZ.out; have := HSZE.out; omega⟩
            case rest =>
              obtain ⟨ec, sz, e1, a1, u1, at1, s1, F1, rfl, rfl, hs1, hdid, hlow1, hb1, hw1, hsz⟩ := hcut
              have HA0 := hid S.out.ha
              clear S HB6 HW6 HLO
              have S7 := hid hs1; have HDID := hid hdid; have HLO := hid hlow1; have HB7 := hid hb1; have HW7 := hid hw1
              clear hs1 hdid hlow1 hb1 hw1
              go_wp2_with fail
              refine (logHead_any pl p e1 (a1 : Int) (u1 : Int) at1 false _ S7.out.lg).mono ?_
              rintro e w8 ⟨rfl, hb8⟩
              dsimp only
              have S8 := hid (S7.out.below hb8)
              have HB8 := hid (HB7.out.trans (hb8.mono HB7.out.size))
              have HW8 := hid ((hb8.block _ (block_lt HW7.out)).trans HW7.out)
              clear hb8 S7 HB7 HW7
              go_upto_region 26 with (first | (refine wpList_alloc_obj rfl 36 rfl _ hZero ?_) | (refine wpList_store_obj rfl 36 _ _ rfl w8.heap.size rfl (headArr e1 (a1 : Int) (u1 : Int)) rfl _ _ (block_new w8 _) rfl hSize (headArr_one _ _ _) ?_; intro w9 hb5 hc5 hs5; have HN := hid hb5; have HC5 := hid hc5; clear hb5 hc5 hs5))
              have hbel : Below w8.heap.size w8 w9 := ((Below.refl _ w8).alloc (Nat.le_refl _) _).trans (HC5.out.below (fun k hk => by rw [List.mem_singleton.1 hk]; exact Nat.le_refl _) (by simp))
              have S := hid (S8.out.below hbel)
              have HB := hid (HB8.out.trans (hbel.mono HB8.out.size))
              have HW := hid ((hbel.block _ (block_lt HW8.out)).trans HW8.out)
              clear hbel HC5 S8 HB8 HW8
              generalize w8.heap.size = bn at *
              obtain ⟨H, hH⟩ : ∃ H, (N - 2) / 2 = H := ⟨_, rfl⟩
              obtain ⟨RM, hRM⟩ : ∃ x, (N - 2) / 2 - u1 = x := ⟨_, rfl⟩
              obtain ⟨N2, hN2⟩ : ∃ x, x = N - 2 := ⟨_, rfl⟩
              have HH := hid hH; have HRM := hid hRM
              have hu1 := S.out.hu
              have HSB : Hid (IntKind.i64.wrap ((H : Int) - (u1 : Int)) = (RM : Int)) := by show _ = _; rw [IntWalk.i64_in _ (by omega)]; omega
              have HN2 : Hid (IntKind.i64.wrap ((N : Int) - 2) = (N2 : Int)) := by show _ = _; rw [IntWalk.i64_in _ (by omega)]; omega
              have HQ2 : Hid (IntKind.i64.wrap ((N2 : Int) / 2) = (H : Int)) := by show _ = _; rw [IntWalk.i64_in _ (by omega)]; omega
              have HBD := hid (show H ≤ 18 ∧ RM ≤ 18 ∧ N2 ≤ 40 by omega)
              clear hH hRM hN2
              refine wp_region_each 17 [.eq (.pointer (some ⟨pl, 0, none⟩)), .eq (.int .i64 (RM : Int)), .eq (.pointer (some ⟨pl, 0, none⟩)), .eq (.int .i64 (H : Int)), .eq (.pointer (some ⟨bn, 2, none⟩)), .eq (.int .i64 (u1 : Int)), .eq (.int .i64 (RM : Int)), .eq (.bool false), .eq (.bool false), .eq (.pointer (some ⟨pl, 0, none⟩)), .eq (.int .i64 (H : Int)), .eq (.int .i64 (N : Int)), .eq (.int .i64 (N2 : Int)), .eq (.int .i64 (H : Int)), .eq (.bool false), .eq (.bool false), .eq (.bool false)] (by kernel_rfl) (by kernel_rfl) (by kernel_rfl) (by kernel_rfl) ?_ ?_
              · all_goals
                  refine each_5 ?_ ?_ ?_ ?_ ?_ (each_5 ?_ ?_ ?_ ?_ ?_ (each_5 ?_ ?_ ?_ ?_ ?_ (each_c ?_ (each_c ?_ (each_n)))))
                  · intro w1 hg Ar seen
                    have s7 := seen.sl 7 (.pointer (some ⟨pl, 0, none⟩))
                    refine does_plain rfl fun K Q' hK => ?_
                    go_simp; exact hK _ _ (Grow.refl _) rfl
                  · intro w1 hg Ar seen
                    have e0 := seen.de 0 119
                    refine does_plain rfl fun K Q' hK => ?_
                    go_simp
                    refine (logRoom_any pl p e1 (a1 : Int) at1 u1 false 53 s1 F1 _ (S.out.below hg).lg (S.out.below hg).dk (by rw [S.out.sl]; omega) (by rw [S.out.sl]; omega) (by rw [S.out.sl]; exact S.out.hu)).mono ?_
                    rintro e u ⟨rfl, hb⟩
                    exact hK _ _ hb (by rw [S.out.sl]; exact congrArg (fun x : Nat => Value.int .i64 (x : Int)) HRM.out)
                  · intro w1 hg Ar seen
                    have s7 := seen.sl 7 (.pointer (some ⟨pl, 0, none⟩))
                    refine does_plain rfl fun K Q' hK => ?_
                    go_simp; exact hK _ _ (Grow.refl _) rfl
                  · intro w1 hg Ar seen
                    have e2 := seen.de 2 121
                    refine does_plain rfl fun K Q' hK => ?_
                    go_simp
                    refine (logHalf_any pl p e1 (a1 : Int) (u1 : Int) at1 false 53 s1 F1 _ (S.out.below hg).lg (S.out.below hg).dk (by rw [S.out.sl]; omega) (by rw [S.out.sl]; omega)).mono ?_
                    rintro e u ⟨rfl, rfl⟩
                    exact hK _ _ (Grow.refl _) (by rw [S.out.sl]; exact congrArg (fun x : Nat => Value.int .i64 (x : Int)) HH.out)
                  · intro w1 hg Ar seen
                    have s18 := seen.sl 18 (.pointer (some ⟨bn, 0, none⟩))
                    refine does_plain rfl fun K Q' hK => ?_
                    go_simp; exact hK _ _ (Grow.refl _) rfl
                  · intro w1 hg Ar seen
                    have e4 := seen.de 4 123
                    refine does_plain rfl fun K Q' hK => ?_
                    have hc : w1.cell? ⟨bn, 2, none⟩ = some (.int .i64 (u1 : Int)) := cell_of_block (j := 2) ((hg.block _ (block_lt HN.out)).trans HN.out) rfl
                    go_simp; exact hK _ _ (Grow.refl _) rfl
                  · intro w1 hg Ar seen
                    have e3 := seen.de 3 122
                    have e5 := seen.de 5 124
                    refine does_plain rfl fun K Q' hK => ?_
                    have hs := HSB.out
                    go_simp; exact hK _ _ (Grow.refl _) rfl
                  · intro w1 hg Ar seen
                    have e1 := seen.de 1 120
                    have e6 := seen.de 6 125
                    refine does_plain rfl fun K Q' hK => ?_
                    go_simp; exact hK _ _ (Grow.refl _) rfl
                  · intro w1 hg Ar seen
                    have e7 := seen.de 7 126
                    refine does_plain rfl fun K Q' hK => ?_
                    go_simp; exact hK _ _ (Grow.refl _) rfl
                  · intro w1 hg Ar seen
                    have e8 := seen.de 8 127
                    have s7 := seen.sl 7 (.pointer (some ⟨pl, 0, none⟩))
                    refine does_on rfl (by kernel_rfl) e8 fun K Q' hK => ?_
                    clear e8
                    go_simp; exact hK _ _ (Grow.refl _) rfl
                  · intro w1 hg Ar seen
                    have e9 := seen.de 9 128
                    have e8 := seen.de 8 127
                    refine does_on rfl (by kernel_rfl) e8 fun K Q' hK => ?_
                    clear e8
                    go_simp
                    refine (logHalf_any pl p e1 (a1 : Int) (u1 : Int) at1 false 53 s1 F1 _ (S.out.below hg).lg (S.out.below hg).dk (by rw [S.out.sl]; omega) (by rw [S.out.sl]; omega)).mono ?_
                    rintro e u ⟨rfl, rfl⟩
                    exact hK _ _ (Grow.refl _) (by rw [S.out.sl]; exact congrArg (fun x : Nat => Value.int .i64 (x : Int)) HH.out)
                  · intro w1 hg Ar seen
                    have e8 := seen.de 8 127
                    have s0 := seen.sl 0 (.int .i64 (N : Int))
                    refine does_on rfl (by kernel_rfl) e8 fun K Q' hK => ?_
                    clear e8
                    go_simp; exact hK _ _ (Grow.refl _) rfl
                  · intro w1 hg Ar seen
                    have e11 := seen.de 11 130
                    have e8 := seen.de 8 127
                    refine does_on rfl (by kernel_rfl) e8 fun K Q' hK => ?_
                    clear e8
                    have hs := HN2.out
                    go_simp; exact hK _ _ (Grow.refl _) rfl
                  · intro w1 hg Ar seen
                    have e12 := seen.de 12 131
                    have e8 := seen.de 8 127
                    refine does_on rfl (by kernel_rfl) e8 fun K Q' hK => ?_
                    clear e8
                    have hs := HQ2.out
                    go_simp; exact hK _ _ (Grow.refl _) rfl
                  · intro w1 hg Ar seen
                    have e10 := seen.de 10 129
                    have e13 := seen.de 13 132
                    have e8 := seen.de 8 127
                    refine does_on rfl (by kernel_rfl) e8 fun K Q' hK => ?_
                    clear e8
                    go_simp; exact hK _ _ (Grow.refl _) rfl
                  · intro w1 hg Ar seen
                    have e8 := seen.de 8 127
                    have e14 := seen.de 14 133
                    refine does_plain rfl fun K Q' hK => ?_
                    go_simp; exact hK _ _ (Grow.refl _) rfl
                  · intro w1 hg Ar seen
                    have e15 := seen.de 15 134
                    refine does_plain rfl fun K Q' hK => ?_
                    go_simp; exact hK _ _ (Grow.refl _) rfl
              intro w1 hg
              refine upon_w' (js := [0, 1, 2, 3, 4, 5, 6, 7, 8, 9, 10, 11, 12, 13, 14, 15, 16]) (by rfl) ?_
              refine upon_e (some 119) (upon_e (some 120) (upon_e (some 121) (upon_e (some 122) (upon_e (some 123) (upon_e (some 124) (upon_e (some 125) (upon_e (some 126) (upon_e (some 127) (upon_e (some 128) (upon_e (some 129) (upon_e (some 130) (upon_e (some 131) (upon_e (some 132) (upon_e (some 133) (upon_e (some 134) (upon_e (some 118) (upon_n ?_)))))))))))))))))
              go_simp
              have S2 := hid (S.out.below hg)
              have HB2 := hid (HB.out.trans (hg.mono HB.out.size))
              have HW2 := hid ((hg.block _ (block_lt HW.out)).trans HW.out)
              have HNN := hid ((hg.block _ (block_lt HN.out)).trans HN.out)
              clear S HB HW HN hg HSB HN2 HQ2
              have S := S2; have HB := HB2; have HW := HW2; have HN := HNN
              clear S2 HB2 HW2 HNN
              go_simp
              rcases HDID.out with ⟨rfl, he, ha, hu, hwk, hr1, hr2⟩ | ⟨rfl, hn0, hrs, he, ha, hu, hwk⟩ | ⟨rfl, hn0, he, hr1, hr2⟩
              · cases rs with
                | true =>
                  as_aux_lemma =>
                  have hx : (headArr e0 (a0 : Int) (u0 : Int)) = (headArr e1 (a1 : Int) (u1 : Int)) := by rw [he, ha, hu]
                  rw [hx] at HW
                  have HBG : Hid (¬ ((sz : Int) ≤ (H : Int))) := by have h1 := hr1 rfl; have h2 := HH.out; show ¬ _; omega
                  have HWK := hid hwk
                  have hu1' := S.out.hu
                  have HSB2 : Hid (IntKind.i64.wrap ((H : Int) - (u1 : Int)) = (RM : Int)) := by have h1 := HH.out; have h2 := HRM.out; have h3 := HBD.out; show _ = _; rw [IntWalk.i64_in _ (by omega)]; omega
                  clear hx HDID he ha hu hr1 hr2 HRS hwk hu1'
                  unfold headArr at HW HN
                  go_upto_region 29 with (fail)
                  refine wp_region_each 31 [.eq (.agg #[.int .u64 (e1 : Int), .int .i64 (a1 : Int), .int .i64 (u1 : Int)]), .eq (.agg #[.int .u64 (e1 : Int), .int .i64 (a1 : Int), .int .i64 (u1 : Int)]), .eq (.bool false), .eq (.bool false), .eq (.pointer (some ⟨p, 0, none⟩)), .eq (.int .i64 (s.works : Int)), .eq (.int .i64 (s.works : Int)), .eq (.bool false), .eq (.bool false), .eq (.bool false), .eq (.bool true), .eq (.bool false), .eq (.bool false), .eq undef, .eq undef, .eq undef, .eq undef, .eq undef, .eq undef, .eq undef, .eq (.bool false), .eq (.bool false), .eq (.bool false), .eq (.bool true), .eq (.bool true), .eq (.int .i64 (sz : Int)), .eq (.pointer (some ⟨pl, 0, none⟩)), .eq (.int .i64 (H : Int)), .eq (.bool false), .eq (.bool false), .eq (.bool false)] (by kernel_rfl) (by kernel_rfl) (by kernel_rfl) (by kernel_rfl) ?_ ?_
                  · all_goals
                      refine each_5 ?_ ?_ ?_ ?_ ?_ (each_5 ?_ ?_ ?_ ?_ ?_ (each_5 ?_ ?_ ?_ ?_ ?_ (each_5 ?_ ?_ ?_ ?_ ?_ (each_5 ?_ ?_ ?_ ?_ ?_ (each_5 ?_ ?_ ?_ ?_ ?_ (each_c ?_ (each_n)))))))
                      · intro w1 hg Ar seen
                        have s18 := seen.sl 18 (.pointer (some ⟨bn, 0, none⟩))
                        refine does_plain rfl fun K Q' hK => ?_
                        refine wp_load_row 36 _ rfl bn (by simp [Act.eval, s18]) _ _ _ _ ((hg.block _ (block_lt HN.out)).trans HN.out) Try.underlying36 rfl hSize ?_
                        exact hK _ _ (Grow.refl _) rfl
                      · intro w1 hg Ar seen
                        have s11 := seen.sl 11 (.pointer (some ⟨bw, 0, none⟩))
                        refine does_plain rfl fun K Q' hK => ?_
                        refine wp_load_row 36 _ rfl bw (by simp [Act.eval, s11]) _ _ _ _ ((hg.block _ (block_lt HW.out)).trans HW.out) Try.underlying36 rfl hSize ?_
                        exact hK _ _ (Grow.refl _) rfl
                      · intro w1 hg Ar seen
                        have e0 := seen.de 0 138
                        have e1 := seen.de 1 139
                        refine does_plain rfl fun K Q' hK => ?_
                        go_simp; exact hK _ _ (Grow.refl _) rfl
                      · intro w1 hg Ar seen
                        have e2 := seen.de 2 140
                        refine does_plain rfl fun K Q' hK => ?_
                        go_simp; exact hK _ _ (Grow.refl _) rfl
                      · intro w1 hg Ar seen
                        have e3 := seen.de 3 141
                        have s5 := seen.sl 5 (.pointer (some ⟨p, 0, none⟩))
                        refine does_on rfl (by kernel_rfl) e3 fun K Q' hK => ?_
                        clear e3
                        go_simp; exact hK _ _ (Grow.refl _) rfl
                      · intro w1 hg Ar seen
                        have e4 := seen.de 4 142
                        have e3 := seen.de 3 141
                        refine does_on rfl (by kernel_rfl) e3 fun K Q' hK => ?_
                        clear e3
                        go_simp
                        refine (works_any p s1 F1 _ (S.out.below hg).dk).mono ?_
                        rintro e u ⟨rfl, rfl⟩
                        exact hK _ _ (Grow.refl _) (by rw [HWK.out]; rfl)
                      · intro w1 hg Ar seen
                        have e3 := seen.de 3 141
                        have s12 := seen.sl 12 (.int .i64 (s.works : Int))
                        refine does_on rfl (by kernel_rfl) e3 fun K Q' hK => ?_
                        clear e3
                        go_simp; exact hK _ _ (Grow.refl _) rfl
                      · intro w1 hg Ar seen
                        have e5 := seen.de 5 143
                        have e6 := seen.de 6 144
                        have e3 := seen.de 3 141
                        refine does_on rfl (by kernel_rfl) e3 fun K Q' hK => ?_
                        clear e3
                        go_simp; exact hK _ _ (Grow.refl _) rfl
                      · intro w1 hg Ar seen
                        have e3 := seen.de 3 141
                        have e7 := seen.de 7 145
                        refine does_plain rfl fun K Q' hK => ?_
                        go_simp; exact hK _ _ (Grow.refl _) rfl
                      · intro w1 hg Ar seen
                        have e8 := seen.de 8 146
                        refine does_plain rfl fun K Q' hK => ?_
                        go_simp; exact hK _ _ (Grow.refl _) rfl
                      · intro w1 hg Ar seen
                        have e9 := seen.de 9 147
                        have s17 := seen.sl 17 (.bool true)
                        refine does_on rfl (by kernel_rfl) e9 fun K Q' hK => ?_
                        clear e9
                        go_simp; exact hK _ _ (Grow.refl _) rfl
                      · intro w1 hg Ar seen
                        have e10 := seen.de 10 148
                        have e9 := seen.de 9 147
                        refine does_on rfl (by kernel_rfl) e9 fun K Q' hK => ?_
                        clear e9
                        go_simp; exact hK _ _ (Grow.refl _) rfl
                      · intro w1 hg Ar seen
                        have e11 := seen.de 11 149
                        have e9 := seen.de 9 147
                        refine does_on rfl (by kernel_rfl) e9 fun K Q' hK => ?_
                        clear e9
                        go_simp; exact hK _ _ (Grow.refl _) rfl
                      · intro w1 hg Ar seen
                        have e12 := seen.de 12 150
                        exact does_off rfl (by kernel_rfl) e12 ne_ft (Grow.refl _) rfl
                      · intro w1 hg Ar seen
                        have e12 := seen.de 12 150
                        exact does_off rfl (by kernel_rfl) e12 ne_ft (Grow.refl _) rfl
                      · intro w1 hg Ar seen
                        have e12 := seen.de 12 150
                        exact does_off rfl (by kernel_rfl) e12 ne_ft (Grow.refl _) rfl
                      · intro w1 hg Ar seen
                        have e12 := seen.de 12 150
                        exact does_off rfl (by kernel_rfl) e12 ne_ft (Grow.refl _) rfl
                      · intro w1 hg Ar seen
                        have e12 := seen.de 12 150
                        exact does_off rfl (by kernel_rfl) e12 ne_ft (Grow.refl _) rfl
                      · intro w1 hg Ar seen
                        have e12 := seen.de 12 150
                        exact does_off rfl (by kernel_rfl) e12 ne_ft (Grow.refl _) rfl
                      · intro w1 hg Ar seen
                        have e12 := seen.de 12 150
                        exact does_off rfl (by kernel_rfl) e12 ne_ft (Grow.refl _) rfl
                      · intro w1 hg Ar seen
                        have e12 := seen.de 12 150
                        have e19 := seen.de 19 157
                        have e9 := seen.de 9 147
                        refine does_on rfl (by kernel_rfl) e9 fun K Q' hK => ?_
                        clear e9
                        go_simp; exact hK _ _ (Grow.refl _) rfl
                      · intro w1 hg Ar seen
                        have e9 := seen.de 9 147
                        have e20 := seen.de 20 158
                        refine does_plain rfl fun K Q' hK => ?_
                        go_simp; exact hK _ _ (Grow.refl _) rfl
                      · intro w1 hg Ar seen
                        have e21 := seen.de 21 159
                        refine does_plain rfl fun K Q' hK => ?_
                        go_simp; exact hK _ _ (Grow.refl _) rfl
                      · intro w1 hg Ar seen
                        have e22 := seen.de 22 160
                        have s17 := seen.sl 17 (.bool true)
                        refine does_on rfl (by kernel_rfl) e22 fun K Q' hK => ?_
                        clear e22
                        go_simp; exact hK _ _ (Grow.refl _) rfl
                      · intro w1 hg Ar seen
                        have e23 := seen.de 23 161
                        have e22 := seen.de 22 160
                        refine does_on rfl (by kernel_rfl) e22 fun K Q' hK => ?_
                        clear e22
                        go_simp; exact hK _ _ (Grow.refl _) rfl
                      · intro w1 hg Ar seen
                        have e24 := seen.de 24 162
                        have s14 := seen.sl 14 (.int .i64 (sz : Int))
                        refine does_on rfl (by kernel_rfl) e24 fun K Q' hK => ?_
                        clear e24
                        go_simp; exact hK _ _ (Grow.refl _) rfl
                      · intro w1 hg Ar seen
                        have e24 := seen.de 24 162
                        have s7 := seen.sl 7 (.pointer (some ⟨pl, 0, none⟩))
                        refine does_on rfl (by kernel_rfl) e24 fun K Q' hK => ?_
                        clear e24
                        go_simp; exact hK _ _ (Grow.refl _) rfl
                      · intro w1 hg Ar seen
                        have e26 := seen.de 26 164
                        have e24 := seen.de 24 162
                        refine does_on rfl (by kernel_rfl) e24 fun K Q' hK => ?_
                        clear e24
                        go_simp
                        refine (logHalf_any pl p e1 (a1 : Int) (u1 : Int) at1 false 53 s1 F1 _ (S.out.below hg).lg (S.out.below hg).dk (by rw [S.out.sl]; omega) (by rw [S.out.sl]; omega)).mono ?_
                        rintro e u ⟨rfl, rfl⟩
                        exact hK _ _ (Grow.refl _) (by rw [S.out.sl]; exact congrArg (fun x : Nat => Value.int .i64 (x : Int)) HH.out)
                      · intro w1 hg Ar seen
                        have e25 := seen.de 25 163
                        have e27 := seen.de 27 165
                        have e24 := seen.de 24 162
                        refine does_on rfl (by kernel_rfl) e24 fun K Q' hK => ?_
                        clear e24
                        have hs := HBG.out
                        go_simp; exact hK _ _ (Grow.refl _) rfl
                      · intro w1 hg Ar seen
                        have e24 := seen.de 24 162
                        have e28 := seen.de 28 166
                        have e22 := seen.de 22 160
                        refine does_on rfl (by kernel_rfl) e22 fun K Q' hK => ?_
                        clear e22
                        go_simp; exact hK _ _ (Grow.refl _) rfl
                      · intro w1 hg Ar seen
                        have e22 := seen.de 22 160
                        have e29 := seen.de 29 167
                        refine does_plain rfl fun K Q' hK => ?_
                        go_simp; exact hK _ _ (Grow.refl _) rfl
                  intro w1 hg
                  refine upon_w' (js := [0, 1, 2, 3, 4, 5, 6, 7, 8, 9, 10, 11, 12, 13, 14, 15, 16, 17, 18, 19, 20, 21, 22, 23, 24, 25, 26, 27, 28, 29, 30]) (by rfl) ?_
                  refine upon_e (some 138) (upon_e (some 139) (upon_e (some 140) (upon_e (some 141) (upon_e (some 142) (upon_e (some 143) (upon_e (some 144) (upon_e (some 145) (upon_e (some 146) (upon_e (some 147) (upon_e (some 148) (upon_e (some 149) (upon_e (some 150) (upon_e (some 151) (upon_e (some 152) (upon_e (some 153) (upon_e (some 154) (upon_e (some 155) (upon_e (some 156) (upon_e (some 157) (upon_e (some 158) (upon_e (some 159) (upon_e (some 160) (upon_e (some 161) (upon_e (some 162) (upon_e (some 163) (upon_e (some 164) (upon_e (some 165) (upon_e (some 166) (upon_e (some 167) (upon_e (some 168) (upon_n ?_)))))))))))))))))))))))))))))))
                  go_simp
                  have S2 := hid (S.out.below hg)
                  have HB2 := hid (HB.out.trans (hg.mono HB.out.size))
                  clear S HB HW HN hg HBG HWK HSB2
                  have S := S2; have HB := HB2
                  clear S2 HB2
                  go_simp
                  go_wp2_with fail
                  have HRR : RmL w p pl N nL (.int .i64 ((k : Int) + 1)) _ := ⟨⟨k + 1, _, _, _, _, _, _, by go_num, by omega, by omega, S.out, HLO.out, HB.out⟩⟩
                  go_roundw
                  case rel => first | exact HRR | ((repeat apply Exists.intro); exact HRR) | ((repeat apply Exists.intro); exact ⟨HRR, rfl⟩)
                  case measure => (simp [intOf] <;> omega)
                | false =>
                  as_aux_lemma =>
                  have hx : (headArr e0 (a0 : Int) (u0 : Int)) = (headArr e1 (a1 : Int) (u1 : Int)) := by rw [he, ha, hu]
                  rw [hx] at HW
                  have HBG : Hid (¬ ((sz : Int) ≤ (RM : Int))) := by have h1 := hr2 rfl; have h2 := HRM.out; show ¬ _; omega
                  have HWK := hid hwk
                  have hu1' := S.out.hu
                  have HSB2 : Hid (IntKind.i64.wrap ((H : Int) - (u1 : Int)) = (RM : Int)) := by have h1 := HH.out; have h2 := HRM.out; have h3 := HBD.out; show _ = _; rw [IntWalk.i64_in _ (by omega)]; omega
                  clear hx HDID he ha hu hr1 hr2 HRS hwk hu1'
                  unfold headArr at HW HN
                  go_upto_region 29 with (fail)
                  refine wp_region_each 31 [.eq (.agg #[.int .u64 (e1 : Int), .int .i64 (a1 : Int), .int .i64 (u1 : Int)]), .eq (.agg #[.int .u64 (e1 : Int), .int .i64 (a1 : Int), .int .i64 (u1 : Int)]), .eq (.bool false), .eq (.bool false), .eq (.pointer (some ⟨p, 0, none⟩)), .eq (.int .i64 (s.works : Int)), .eq (.int .i64 (s.works : Int)), .eq (.bool false), .eq (.bool false), .eq (.bool false), .eq (.bool false), .eq (.bool true), .eq (.bool true), .eq (.int .i64 (sz : Int)), .eq (.pointer (some ⟨pl, 0, none⟩)), .eq (.int .i64 (H : Int)), .eq (.pointer (some ⟨bw, 2, none⟩)), .eq (.int .i64 (u1 : Int)), .eq (.int .i64 (RM : Int)), .eq (.bool false), .eq (.bool false), .eq (.bool false), .eq (.bool false), .eq (.bool false), .eq (.bool false), .eq undef, .eq undef, .eq undef, .eq undef, .eq (.bool false), .eq (.bool false)] (by kernel_rfl) (by kernel_rfl) (by kernel_rfl) (by kernel_rfl) ?_ ?_
                  · all_goals
                      refine each_5 ?_ ?_ ?_ ?_ ?_ (each_5 ?_ ?_ ?_ ?_ ?_ (each_5 ?_ ?_ ?_ ?_ ?_ (each_5 ?_ ?_ ?_ ?_ ?_ (each_5 ?_ ?_ ?_ ?_ ?_ (each_5 ?_ ?_ ?_ ?_ ?_ (each_c ?_ (each_n)))))))
                      · intro w1 hg Ar seen
                        have s18 := seen.sl 18 (.pointer (some ⟨bn, 0, none⟩))
                        refine does_plain rfl fun K Q' hK => ?_
                        refine wp_load_row 36 _ rfl bn (by simp [Act.eval, s18]) _ _ _ _ ((hg.block _ (block_lt HN.out)).trans HN.out) Try.underlying36 rfl hSize ?_
                        exact hK _ _ (Grow.refl _) rfl
                      · intro w1 hg Ar seen
                        have s11 := seen.sl 11 (.pointer (some ⟨bw, 0, none⟩))
                        refine does_plain rfl fun K Q' hK => ?_
                        refine wp_load_row 36 _ rfl bw (by simp [Act.eval, s11]) _ _ _ _ ((hg.block _ (block_lt HW.out)).trans HW.out) Try.underlying36 rfl hSize ?_
                        exact hK _ _ (Grow.refl _) rfl
                      · intro w1 hg Ar seen
                        have e0 := seen.de 0 138
                        have e1 := seen.de 1 139
                        refine does_plain rfl fun K Q' hK => ?_
                        go_simp; exact hK _ _ (Grow.refl _) rfl
                      · intro w1 hg Ar seen
                        have e2 := seen.de 2 140
                        refine does_plain rfl fun K Q' hK => ?_
                        go_simp; exact hK _ _ (Grow.refl _) rfl
                      · intro w1 hg Ar seen
                        have e3 := seen.de 3 141
                        have s5 := seen.sl 5 (.pointer (some ⟨p, 0, none⟩))
                        refine does_on rfl (by kernel_rfl) e3 fun K Q' hK => ?_
                        clear e3
                        go_simp; exact hK _ _ (Grow.refl _) rfl
                      · intro w1 hg Ar seen
                        have e4 := seen.de 4 142
                        have e3 := seen.de 3 141
                        refine does_on rfl (by kernel_rfl) e3 fun K Q' hK => ?_
                        clear e3
                        go_simp
                        refine (works_any p s1 F1 _ (S.out.below hg).dk).mono ?_
                        rintro e u ⟨rfl, rfl⟩
                        exact hK _ _ (Grow.refl _) (by rw [HWK.out]; rfl)
                      · intro w1 hg Ar seen
                        have e3 := seen.de 3 141
                        have s12 := seen.sl 12 (.int .i64 (s.works : Int))
                        refine does_on rfl (by kernel_rfl) e3 fun K Q' hK => ?_
                        clear e3
                        go_simp; exact hK _ _ (Grow.refl _) rfl
                      · intro w1 hg Ar seen
                        have e5 := seen.de 5 143
                        have e6 := seen.de 6 144
                        have e3 := seen.de 3 141
                        refine does_on rfl (by kernel_rfl) e3 fun K Q' hK => ?_
                        clear e3
                        go_simp; exact hK _ _ (Grow.refl _) rfl
                      · intro w1 hg Ar seen
                        have e3 := seen.de 3 141
                        have e7 := seen.de 7 145
                        refine does_plain rfl fun K Q' hK => ?_
                        go_simp; exact hK _ _ (Grow.refl _) rfl
                      · intro w1 hg Ar seen
                        have e8 := seen.de 8 146
                        refine does_plain rfl fun K Q' hK => ?_
                        go_simp; exact hK _ _ (Grow.refl _) rfl
                      · intro w1 hg Ar seen
                        have e9 := seen.de 9 147
                        have s17 := seen.sl 17 (.bool false)
                        refine does_on rfl (by kernel_rfl) e9 fun K Q' hK => ?_
                        clear e9
                        go_simp; exact hK _ _ (Grow.refl _) rfl
                      · intro w1 hg Ar seen
                        have e10 := seen.de 10 148
                        have e9 := seen.de 9 147
                        refine does_on rfl (by kernel_rfl) e9 fun K Q' hK => ?_
                        clear e9
                        go_simp; exact hK _ _ (Grow.refl _) rfl
                      · intro w1 hg Ar seen
                        have e11 := seen.de 11 149
                        have e9 := seen.de 9 147
                        refine does_on rfl (by kernel_rfl) e9 fun K Q' hK => ?_
                        clear e9
                        go_simp; exact hK _ _ (Grow.refl _) rfl
                      · intro w1 hg Ar seen
                        have e12 := seen.de 12 150
                        have s14 := seen.sl 14 (.int .i64 (sz : Int))
                        refine does_on rfl (by kernel_rfl) e12 fun K Q' hK => ?_
                        clear e12
                        go_simp; exact hK _ _ (Grow.refl _) rfl
                      · intro w1 hg Ar seen
                        have e12 := seen.de 12 150
                        have s7 := seen.sl 7 (.pointer (some ⟨pl, 0, none⟩))
                        refine does_on rfl (by kernel_rfl) e12 fun K Q' hK => ?_
                        clear e12
                        go_simp; exact hK _ _ (Grow.refl _) rfl
                      · intro w1 hg Ar seen
                        have e14 := seen.de 14 152
                        have e12 := seen.de 12 150
                        refine does_on rfl (by kernel_rfl) e12 fun K Q' hK => ?_
                        clear e12
                        go_simp
                        refine (logHalf_any pl p e1 (a1 : Int) (u1 : Int) at1 false 53 s1 F1 _ (S.out.below hg).lg (S.out.below hg).dk (by rw [S.out.sl]; omega) (by rw [S.out.sl]; omega)).mono ?_
                        rintro e u ⟨rfl, rfl⟩
                        exact hK _ _ (Grow.refl _) (by rw [S.out.sl]; exact congrArg (fun x : Nat => Value.int .i64 (x : Int)) HH.out)
                      · intro w1 hg Ar seen
                        have e12 := seen.de 12 150
                        have s11 := seen.sl 11 (.pointer (some ⟨bw, 0, none⟩))
                        refine does_on rfl (by kernel_rfl) e12 fun K Q' hK => ?_
                        clear e12
                        go_simp; exact hK _ _ (Grow.refl _) rfl
                      · intro w1 hg Ar seen
                        have e16 := seen.de 16 154
                        have e12 := seen.de 12 150
                        refine does_on rfl (by kernel_rfl) e12 fun K Q' hK => ?_
                        clear e12
                        have hc : w1.cell? ⟨bw, 2, none⟩ = some (.int .i64 (u1 : Int)) := cell_of_block (j := 2) ((hg.block _ (block_lt HW.out)).trans HW.out) rfl
                        go_simp; exact hK _ _ (Grow.refl _) rfl
                      · intro w1 hg Ar seen
                        have e15 := seen.de 15 153
                        have e17 := seen.de 17 155
                        have e12 := seen.de 12 150
                        refine does_on rfl (by kernel_rfl) e12 fun K Q' hK => ?_
                        clear e12
                        have hs := HSB2.out
                        go_simp; exact hK _ _ (Grow.refl _) rfl
                      · intro w1 hg Ar seen
                        have e13 := seen.de 13 151
                        have e18 := seen.de 18 156
                        have e12 := seen.de 12 150
                        refine does_on rfl (by kernel_rfl) e12 fun K Q' hK => ?_
                        clear e12
                        have hs := HBG.out
                        go_simp; exact hK _ _ (Grow.refl _) rfl
                      · intro w1 hg Ar seen
                        have e12 := seen.de 12 150
                        have e19 := seen.de 19 157
                        have e9 := seen.de 9 147
                        refine does_on rfl (by kernel_rfl) e9 fun K Q' hK => ?_
                        clear e9
                        go_simp; exact hK _ _ (Grow.refl _) rfl
                      · intro w1 hg Ar seen
                        have e9 := seen.de 9 147
                        have e20 := seen.de 20 158
                        refine does_plain rfl fun K Q' hK => ?_
                        go_simp; exact hK _ _ (Grow.refl _) rfl
                      · intro w1 hg Ar seen
                        have e21 := seen.de 21 159
                        refine does_plain rfl fun K Q' hK => ?_
                        go_simp; exact hK _ _ (Grow.refl _) rfl
                      · intro w1 hg Ar seen
                        have e22 := seen.de 22 160
                        have s17 := seen.sl 17 (.bool false)
                        refine does_on rfl (by kernel_rfl) e22 fun K Q' hK => ?_
                        clear e22
                        go_simp; exact hK _ _ (Grow.refl _) rfl
                      · intro w1 hg Ar seen
                        have e23 := seen.de 23 161
                        have e22 := seen.de 22 160
                        refine does_on rfl (by kernel_rfl) e22 fun K Q' hK => ?_
                        clear e22
                        go_simp; exact hK _ _ (Grow.refl _) rfl
                      · intro w1 hg Ar seen
                        have e24 := seen.de 24 162
                        exact does_off rfl (by kernel_rfl) e24 ne_ft (Grow.refl _) rfl
                      · intro w1 hg Ar seen
                        have e24 := seen.de 24 162
                        exact does_off rfl (by kernel_rfl) e24 ne_ft (Grow.refl _) rfl
                      · intro w1 hg Ar seen
                        have e24 := seen.de 24 162
                        exact does_off rfl (by kernel_rfl) e24 ne_ft (Grow.refl _) rfl
                      · intro w1 hg Ar seen
                        have e24 := seen.de 24 162
                        exact does_off rfl (by kernel_rfl) e24 ne_ft (Grow.refl _) rfl
                      · intro w1 hg Ar seen
                        have e24 := seen.de 24 162
                        have e28 := seen.de 28 166
                        have e22 := seen.de 22 160
                        refine does_on rfl (by kernel_rfl) e22 fun K Q' hK => ?_
                        clear e22
                        go_simp; exact hK _ _ (Grow.refl _) rfl
                      · intro w1 hg Ar seen
                        have e22 := seen.de 22 160
                        have e29 := seen.de 29 167
                        refine does_plain rfl fun K Q' hK => ?_
                        go_simp; exact hK _ _ (Grow.refl _) rfl
                  intro w1 hg
                  refine upon_w' (js := [0, 1, 2, 3, 4, 5, 6, 7, 8, 9, 10, 11, 12, 13, 14, 15, 16, 17, 18, 19, 20, 21, 22, 23, 24, 25, 26, 27, 28, 29, 30]) (by rfl) ?_
                  refine upon_e (some 138) (upon_e (some 139) (upon_e (some 140) (upon_e (some 141) (upon_e (some 142) (upon_e (some 143) (upon_e (some 144) (upon_e (some 145) (upon_e (some 146) (upon_e (some 147) (upon_e (some 148) (upon_e (some 149) (upon_e (some 150) (upon_e (some 151) (upon_e (some 152) (upon_e (some 153) (upon_e (some 154) (upon_e (some 155) (upon_e (some 156) (upon_e (some 157) (upon_e (some 158) (upon_e (some 159) (upon_e (some 160) (upon_e (some 161) (upon_e (some 162) (upon_e (some 163) (upon_e (some 164) (upon_e (some 165) (upon_e (some 166) (upon_e (some 167) (upon_e (some 168) (upon_n ?_)))))))))))))))))))))))))))))))
                  go_simp
                  have S2 := hid (S.out.below hg)
                  have HB2 := hid (HB.out.trans (hg.mono HB.out.size))
                  clear S HB HW HN hg HBG HWK HSB2
                  have S := S2; have HB := HB2
                  clear S2 HB2
                  go_simp
                  go_wp2_with fail
                  have HRR : RmL w p pl N nL (.int .i64 ((k : Int) + 1)) _ := ⟨⟨k + 1, _, _, _, _, _, _, by go_num, by omega, by omega, S.out, HLO.out, HB.out⟩⟩
                  go_roundw
                  case rel => first | exact HRR | ((repeat apply Exists.intro); exact HRR) | ((repeat apply Exists.intro); exact ⟨HRR, rfl⟩)
                  case measure => (simp [intOf] <;> omega)
              · as_aux_lemma =>
                have hx : (headArr e0 (a0 : Int) (u0 : Int)) = (headArr e1 (a1 : Int) (u1 : Int)) := by rw [he, ha, hu]
                rw [hx] at HW
                have hn0b : ((nU : Int) == 0) = true := by rw [hn0]; rfl
                clear hx HDID he ha hu hrs HRS
                unfold headArr at HW HN
                go_wp2_with (first | (refine wpList_load_row rfl 36 _ rfl bn rfl _ _ _ _ HN.out Try.underlying36 rfl hSize ?_) | (refine wpList_load_row rfl 36 _ rfl bw rfl _ _ _ _ HW.out Try.underlying36 rfl hSize ?_))
                refine (works_any p s1 F1 _ S.out.dk).mono ?_
                rintro e wz ⟨rfl, rfl⟩
                rw [hwk]
                dsimp only
                go_wp2_with fail
                have HRR : RmL w p pl N nL (.int .i64 ((k : Int) + 1)) _ := ⟨⟨k + 1, _, _, _, _, _, _, by go_num, by omega, by omega, S.out, HLO.out, HB.out⟩⟩
                go_roundw
                case rel => first | exact HRR | ((repeat apply Exists.intro); exact HRR) | ((repeat apply Exists.intro); exact ⟨HRR, rfl⟩)
                case measure => (simp [intOf] <;> omega)
              · cases rs with
                | true =>
                  as_aux_lemma =>
                  obtain ⟨h1, h2⟩ := hr1 rfl
                  have hk1 := S.out.he; have hk2 := S.out.hu; have hk3 := HA0.out; have hbd := HBD.out
                  have hn0b : ((nU : Int) == 0) = false := by rw [beq_eq_false_iff_ne]; omega
                  have hs3 : IntKind.u64.wrap ((e0 : Int) + 1) = (e1 : Int) := by rw [IntWalk.u64_in _ (by omega)]; omega
                  have hs1 : IntKind.i64.wrap (1 - (a0 : Int)) = (a1 : Int) := by rw [IntWalk.i64_in _ (by omega)]; omega
                  have hc0 := (cell_of_block (j := 0) HW.out rfl : World.cell? _ ⟨bw, 0, none⟩ = some (.int .u64 (e0 : Int)))
                  have hc1 := (cell_of_block (j := 1) HW.out rfl : World.cell? _ ⟨bw, 1, none⟩ = some (.int .i64 (a0 : Int)))
                  have hc2 := (cell_of_block (j := 2) HW.out rfl : World.cell? _ ⟨bw, 2, none⟩ = some (.int .i64 (u0 : Int)))
                  have hbe : ((u1 : Int) == (sz : Int)) = true := by rw [beq_iff_eq]; omega
                  clear HDID hr1 hr2 HRS he h1 h2 hk1 hk2 hk3 hbd hn0
                  unfold headArr at HN
                  go_wp2_with (refine wpList_load_row rfl 36 _ rfl bn rfl _ _ _ _ HN.out Try.underlying36 rfl hSize ?_)
                  have HRR : RmL w p pl N nL (.int .i64 ((k : Int) + 1)) _ := ⟨⟨k + 1, _, _, _, _, _, _, by go_num, by omega, by omega, S.out, HLO.out, HB.out⟩⟩
                  go_roundw
                  case rel => first | exact HRR | ((repeat apply Exists.intro); exact HRR) | ((repeat apply Exists.intro); exact ⟨HRR, rfl⟩)
                  case measure => (simp [intOf] <;> omega)
                | false =>
                  as_aux_lemma =>
                  obtain ⟨h1, h2⟩ := hr2 rfl
                  have hk1 := S.out.he; have hk2 := S.out.hu; have hk3 := HA0.out; have hbd := HBD.out
                  have hn0b : ((nU : Int) == 0) = false := by rw [beq_eq_false_iff_ne]; omega
                  have hs3 : IntKind.u64.wrap ((e0 : Int) + 1) = (e1 : Int) := by rw [IntWalk.u64_in _ (by omega)]; omega
                  have hs1 : IntKind.i64.wrap ((u0 : Int) + (sz : Int)) = (u1 : Int) := by rw [IntWalk.i64_in _ (by omega)]; omega
                  have hc0 := (cell_of_block (j := 0) HW.out rfl : World.cell? _ ⟨bw, 0, none⟩ = some (.int .u64 (e0 : Int)))
                  have hc1 := (cell_of_block (j := 1) HW.out rfl : World.cell? _ ⟨bw, 1, none⟩ = some (.int .i64 (a0 : Int)))
                  have hc2 := (cell_of_block (j := 2) HW.out rfl : World.cell? _ ⟨bw, 2, none⟩ = some (.int .i64 (u0 : Int)))
                  have hbe : ((a1 : Int) == (a0 : Int)) = true := by rw [beq_iff_eq]; omega
                  clear HDID hr1 hr2 HRS he h1 h2 hk1 hk2 hk3 hbd hn0
                  unfold headArr at HN
                  go_wp2_with (refine wpList_load_row rfl 36 _ rfl bn rfl _ _ _ _ HN.out Try.underlying36 rfl hSize ?_)
                  have HRR : RmL w p pl N nL (.int .i64 ((k : Int) + 1)) _ := ⟨⟨k + 1, _, _, _, _, _, _, by go_num, by omega, by omega, S.out, HLO.out, HB.out⟩⟩
                  go_roundw
                  case rel => first | exact HRR | ((repeat apply Exists.intro); exact HRR) | ((repeat apply Exists.intro); exact ⟨HRR, rfl⟩)
                  case measure => (simp [intOf] <;> omega)
      · have k2z : ¬ (k : Int) < 30 := by omega
        go_wp2_with fail
        go_ret
        exact ⟨rfl, HB.out⟩
    · have k1z : ¬ (k : Int) < (nL : Int) := by omega
      go_wp2_with fail
      go_ret
      exact ⟨rfl, HB.out⟩
end Go.Proofs.Ytclpkjjhphanpaa
