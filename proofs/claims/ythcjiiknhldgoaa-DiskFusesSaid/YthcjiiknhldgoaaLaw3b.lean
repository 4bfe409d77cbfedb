/- DiskFuses. -/
import Derived.Test.YthcjiiknhldgoaaLaw3
namespace Go.Proofs.Ythcjiiknhldgoaa
open Go.RowKit
set_option linter.unusedVariables false
set_option linter.unusedSimpArgs false
set_option maxRecDepth 100000
set_option maxHeartbeats 8000000

theorem done_good : ∀ (l : List (Nat × List UInt8)) (sec : List (List UInt8 × Bool)), (∀ x ∈ sec, x.2 = false) → (∀ x ∈ done sec l, x.2 = false) ∧ (done sec l).length = sec.length
  | [], sec, h => ⟨h, rfl⟩
  | y :: l, sec, h => by
    have h1 : ∀ x ∈ sec.set y.1 (y.2, false), x.2 = false := by
      intro x hx
      rcases List.mem_or_eq_of_mem_set hx with h' | h'
      · exact h x h'
      · rw [h']
    obtain ⟨h2, h3⟩ := done_good l _ h1
    exact ⟨h2, h3.trans (List.length_set ..)⟩
theorem crashed_none : ∀ (l : List (Nat × List UInt8)) (sec : List (List UInt8 × Bool)) (i : Nat), crashed [] sec i l = sec
  | [], sec, i => rfl
  | y :: l, sec, i => by
    have : fateOf [] i = 1 := rfl
    simp only [crashed, this]
    exact crashed_none l sec (i + 1)
/-- k works were asked of a disk of fuse n. -/
structure Fz (n k : Nat) (s : DSt) : Prop where
  len : s.sec.length = 9
  good : ∀ x ∈ s.sec, x.2 = false
  pend : s.pend.length ≤ k
  works : s.works = min k n
  can : s.can = decide (k < n)
  fuse : k ≤ n → s.fuse = (n : Int) - k
  down : s.down = decide (n < k)
theorem Fz.start (n : Nat) : Fz n 0 { DSt.new 9 with fuse := max (n : Int) (-1) } := by
  refine ⟨rfl, ?_, Nat.le_refl _, by simp [DSt.new], ?_, fun _ => by simp only; omega, by simp [DSt.new]⟩
  · intro x hx
    have := List.mem_replicate.1 hx
    rw [this.2]
  · show (!(false || max (n : Int) (-1) == 0)) = decide (0 < n)
    by_cases h : 0 < n
    · have : (max (n : Int) (-1) == 0) = false := by simp; omega
      rw [this]; simp [h]
    · obtain rfl : n = 0 := by omega
      rfl
theorem Fz.step {n k : Nat} {s : DSt} (h : Fz n k s) (s' : DSt) (h1 : s'.sec.length = 9) (h2 : ∀ x ∈ s'.sec, x.2 = false) (h3 : s'.pend.length ≤ k + 1) (h4 : s'.fuse = s.work.fuse) (h5 : s'.down = s.work.down) (h6 : s'.works = s.work.works) : Fz n (k + 1) s' := by
  have hw := h.works; have hc := h.can; have hd := h.down
  by_cases hk : k < n
  · have hf := h.fuse (by omega)
    have hc' : s.can = true := by rw [hc]; simp [hk]
    unfold DSt.work at h4 h5 h6
    rw [if_pos hc'] at h4 h5 h6
    simp only at h4 h5 h6
    have hf' : s'.fuse = (n : Int) - (k + 1 : Nat) := by rw [h4, hf]; omega
    have hd' : s'.down = false := by rw [h5, hd]; simp; omega
    refine ⟨h1, h2, h3, by rw [h6, hw]; omega, ?_, fun _ => hf', by rw [hd']; simp; omega⟩
    unfold DSt.can
    rw [hd', hf']
    by_cases h' : k + 1 < n
    · have : ((n : Int) - (k + 1 : Nat) == 0) = false := by simp; omega
      rw [this]; simp [h']
    · have : ((n : Int) - (k + 1 : Nat) == 0) = true := by simp; omega
      rw [this]; simp [h']
  · have hc' : s.can = false := by rw [hc]; simp [hk]
    unfold DSt.work at h4 h5 h6
    rw [if_neg (by simp [hc'])] at h4 h5 h6
    simp only at h4 h5 h6
    refine ⟨h1, h2, h3, by rw [h6, hw]; omega, ?_, fun hh => by omega, by rw [h5]; simp; omega⟩
    unfold DSt.can
    rw [h5]
    simp; omega
theorem Fz.write {n k : Nat} {s : DSt} (h : Fz n k s) (j : Nat) (d : List UInt8) : Fz n (k + 1) (s.write j d) := by
  have hs : s.work.sec = s.sec ∧ s.work.pend = s.pend := by unfold DSt.work; split <;> exact ⟨rfl, rfl⟩
  unfold DSt.write
  split
  · exact h.step _ (hs.1 ▸ h.len) (hs.1 ▸ h.good) (by simp; exact h.pend) rfl rfl rfl
  · exact h.step _ (hs.1 ▸ h.len) (hs.1 ▸ h.good) (by rw [hs.2]; have := h.pend; omega) rfl rfl rfl
theorem Fz.flush {n k : Nat} {s : DSt} (h : Fz n k s) : Fz n (k + 1) s.flush := by
  have hs : s.work.sec = s.sec ∧ s.work.pend = s.pend := by unfold DSt.work; split <;> exact ⟨rfl, rfl⟩
  unfold DSt.flush
  split
  · obtain ⟨h1, h2⟩ := done_good s.pend s.sec h.good
    exact h.step _ (h2.trans h.len) h1 (Nat.zero_le _) rfl rfl rfl
  · exact h.step _ (hs.1 ▸ h.len) (hs.1 ▸ h.good) (by rw [hs.2]; have := h.pend; omega) rfl rfl rfl
theorem Fz.read_down {n k : Nat} {s : DSt} (h : Fz n k s) (hk : n < k) : s.read ((1 : Nat) : Int) = ([], 9) := by
  unfold DSt.read
  rw [if_neg (by rw [h.len]; omega), if_pos (by rw [h.down]; simp [hk])]
theorem Fz.crash {n k : Nat} {s : DSt} (h : Fz n k s) : (s.crash []).sec.length = 9 ∧ (s.crash []).works = min k n ∧ (s.crash []).can = true ∧ ((s.crash []).read ((1 : Nat) : Int)).2 = 0 ∧ (s.crash []).pend.length = 0 := by
  have hsec : (s.crash []).sec = s.sec := crashed_none _ _ _
  refine ⟨by rw [hsec]; exact h.len, h.works, rfl, ?_, rfl⟩
  unfold DSt.read
  rw [if_neg (by rw [hsec, h.len]; omega)]
  have hg : ((s.crash []).sec.getD ((1 : Nat) : Int).toNat default).2 = false := by
    rw [hsec, List.getD_eq_getElem?_getD, List.getElem?_eq_getElem (by rw [h.len]; decide)]
    exact h.good _ (List.getElem_mem _)
  show ((if false = true then (([] : List UInt8), (9 : Int)) else match lastOf [] ((1 : Nat) : Int).toNat with | some d => (d, (0 : Int)) | none => if ((s.crash []).sec.getD ((1 : Nat) : Int).toNat default).2 then (([] : List UInt8), (8 : Int)) else (((s.crash []).sec.getD ((1 : Nat) : Int).toNat default).1, (0 : Int))) : List UInt8 × Int).2 = 0
  rw [hg]
  rfl
theorem ints_get' {w : World} {a : Option Addr} {n : Nat} {l : List Int} (h : RdC w a n (ints l)) {k : Nat} (hk : k < n) : ∃ b off, a = some ⟨b, off, none⟩ ∧ w.cell? ⟨b, off + k, none⟩ = some (.int .i64 (l.getD k 0)) := by
  have hl : l.length = n := by have := h.len; simpa [ints] using this
  obtain ⟨b, off, ha, hc⟩ := h.cell k hk
  refine ⟨b, off, ha, hc k _ ?_⟩
  simp only [ints, List.getElem?_map, List.getD_eq_getElem?_getD]
  rw [List.getElem?_eq_getElem (by omega)]; rfl

theorem diskFuses_walk (z : Int) (aL : Option Addr) (nL cL : Nat) (l : List Int) (w : World) (hL : RdC w aL nL (ints l)) :
    Calls Try.prog 4 #[.int .i64 z, .slice aL nL cL] w fun e w' => e = .returned (.bool true) ∧ Below w.heap.size w w' := by
  obtain ⟨n, hn, hn20⟩ : ∃ n : Nat, pick z 20 = n ∧ n < 20 := ⟨(pick z 20).toNat, by have := pick_lo z 20 (by omega); omega, by have := pick_lo z 20 (by omega); have := pick_hi z 20 (by omega); omega⟩
  have HL := hid hL; have HN := hid hn
  clear hL hn
  go_enter Try.func4, Try.ntmps4
  go_wp2_with fail
  refine (pick_any z 20 _ (by omega) (by omega)).mono ?_
  rintro e w0 ⟨rfl, rfl⟩
  rw [HN.out]
  go_wp2_with fail
  refine (new_s 9 w _ (Below.refl _ _) (by omega) (by omega)).mono ?_
  rintro e w1 ⟨p, rfl, h1⟩
  have H1 := hid h1; clear h1
  go_wp2_with fail
  refine (known3_any _).mono ?_
  rintro e w2 ⟨rfl, hb2⟩
  have H2 := hid (H1.out.later hb2); clear hb2
  go_wp2_with fail
  refine (fuse_s p _ _ _ w _ H2.out (by omega)).mono ?_
  rintro e w3 ⟨rfl, h3⟩
  have H3 := hid h3; clear h3
  go_wp2_with fail
  go_loopw [7] (fun x wr => ∃ (k : Nat) (s : DSt), k ≤ 30 ∧ x = .int .i64 k ∧ DkS w wr p s [] ∧ Fz n k s) (fun x _ => 30 - (intOf x).toNat)
  case atStart => exact ⟨0, _, Nat.zero_le _, rfl, H3.out, Fz.start n⟩
  case round =>
    obtain ⟨k, s, hk, rfl, h3, hfz⟩ := hrel
    have H3 := hid h3; clear h3
    have FZ := hid hfz; clear hfz
    by_cases hlt : k < 30
    · by_cases kn : k < n
      · have HCV := hid (show (if s.can then (0 : Int) else 9) = 0 by rw [FZ.out.can]; simp [kn])
        by_cases kL : k < nL
        · obtain ⟨bL, oL, hae, hcL⟩ := ints_get' (HL.out.below H3.out.below) kL
          subst hae
          generalize l.getD k 0 = y at *
          by_cases hy : y.tmod 3 = 0
          · go_wp2_with fail
            refine (flush_s p s _ w _ H3.out (by have := FZ.out.works; omega)).mono ?_
            rintro e w5 ⟨rfl, h5⟩
            rw [HCV.out]
            obtain ⟨s5, hs5⟩ : ∃ t, t = s.flush := ⟨_, rfl⟩
            rw [← hs5] at h5
            have F5 : Hid (Fz n (k + 1) s5) := by rw [hs5]; exact FZ.out.flush
            have H5 := hid h5; clear h5 hs5
            go_wp2_with fail
            refine (down_s p s5 _ w _ H5.out).mono ?_
            rintro e w6 ⟨rfl, rfl⟩
            rw [show s5.down = false by rw [F5.out.down]; simp; omega]
            go_wp2_with fail
            go_roundw
            case rel => exact ⟨k + 1, s5, by omega, by go_num, H5.out, F5.out⟩
            case measure => simp [intOf]; omega
          · have hy' : (y.tmod 3 == 0) = false := by simpa using hy
            go_wp2_with fail
            refine (sector_any _ _).mono ?_
            rintro e w4 ⟨a4, c4, rfl, ho4, hb4⟩
            have HO4 := hid ho4; have HB4 := hid hb4; clear ho4 hb4
            go_wp2_with fail
            refine (write_s p (k % 9) s a4 c4 _ _ w _ _ H3.out HB4.out HO4.out (by rw [FZ.out.len]; omega) (by have := FZ.out.works; omega) (by have := FZ.out.pend; omega)).mono ?_
            rintro e w5 ⟨rfl, h5⟩
            rw [HCV.out]
            obtain ⟨s5, hs5⟩ : ∃ t, t = s.write (k % 9) (handBytes 64 (k : Int)) := ⟨_, rfl⟩
            rw [← hs5] at h5
            have F5 : Hid (Fz n (k + 1) s5) := by rw [hs5]; exact FZ.out.write _ _
            have H5 := hid h5; clear h5 hs5
            go_wp2_with fail
            refine (down_s p s5 _ w _ H5.out).mono ?_
            rintro e w6 ⟨rfl, rfl⟩
            rw [show s5.down = false by rw [F5.out.down]; simp; omega]
            go_wp2_with fail
            go_roundw
            case rel => exact ⟨k + 1, s5, by omega, by go_num, H5.out, F5.out⟩
            case measure => simp [intOf]; omega
        · go_wp2_with fail
          refine (sector_any _ _).mono ?_
          rintro e w4 ⟨a4, c4, rfl, ho4, hb4⟩
          have HO4 := hid ho4; have HB4 := hid hb4; clear ho4 hb4
          go_wp2_with fail
          refine (write_s p (k % 9) s a4 c4 _ _ w _ _ H3.out HB4.out HO4.out (by rw [FZ.out.len]; omega) (by have := FZ.out.works; omega) (by have := FZ.out.pend; omega)).mono ?_
          rintro e w5 ⟨rfl, h5⟩
          rw [HCV.out]
          obtain ⟨s5, hs5⟩ : ∃ t, t = s.write (k % 9) (handBytes 64 (k : Int)) := ⟨_, rfl⟩
          rw [← hs5] at h5
          have F5 : Hid (Fz n (k + 1) s5) := by rw [hs5]; exact FZ.out.write _ _
          have H5 := hid h5; clear h5 hs5
          go_wp2_with fail
          refine (down_s p s5 _ w _ H5.out).mono ?_
          rintro e w6 ⟨rfl, rfl⟩
          rw [show s5.down = false by rw [F5.out.down]; simp; omega]
          go_wp2_with fail
          go_roundw
          case rel => exact ⟨k + 1, s5, by omega, by go_num, H5.out, F5.out⟩
          case measure => simp [intOf]; omega
      · have HCV := hid (show (if s.can then (0 : Int) else 9) = 9 by rw [FZ.out.can]; simp [kn])
        by_cases kL : k < nL
        · obtain ⟨bL, oL, hae, hcL⟩ := ints_get' (HL.out.below H3.out.below) kL
          subst hae
          generalize l.getD k 0 = y at *
          by_cases hy : y.tmod 3 = 0
          · go_wp2_with fail
            refine (flush_s p s _ w _ H3.out (by have := FZ.out.works; omega)).mono ?_
            rintro e w5 ⟨rfl, h5⟩
            rw [HCV.out]
            obtain ⟨s5, hs5⟩ : ∃ t, t = s.flush := ⟨_, rfl⟩
            rw [← hs5] at h5
            have F5 : Hid (Fz n (k + 1) s5) := by rw [hs5]; exact FZ.out.flush
            have H5 := hid h5; clear h5 hs5
            go_wp2_with fail
            refine (down_s p s5 _ w _ H5.out).mono ?_
            rintro e w6 ⟨rfl, rfl⟩
            rw [show s5.down = true by rw [F5.out.down]; simp; omega]
            go_wp2_with fail
            go_roundw
            case rel => exact ⟨k + 1, s5, by omega, by go_num, H5.out, F5.out⟩
            case measure => simp [intOf]; omega
          · have hy' : (y.tmod 3 == 0) = false := by simpa using hy
            go_wp2_with fail
            refine (sector_any _ _).mono ?_
            rintro e w4 ⟨a4, c4, rfl, ho4, hb4⟩
            have HO4 := hid ho4; have HB4 := hid hb4; clear ho4 hb4
            go_wp2_with fail
            refine (write_s p (k % 9) s a4 c4 _ _ w _ _ H3.out HB4.out HO4.out (by rw [FZ.out.len]; omega) (by have := FZ.out.works; omega) (by have := FZ.out.pend; omega)).mono ?_
            rintro e w5 ⟨rfl, h5⟩
            rw [HCV.out]
            obtain ⟨s5, hs5⟩ : ∃ t, t = s.write (k % 9) (handBytes 64 (k : Int)) := ⟨_, rfl⟩
            rw [← hs5] at h5
            have F5 : Hid (Fz n (k + 1) s5) := by rw [hs5]; exact FZ.out.write _ _
            have H5 := hid h5; clear h5 hs5
            go_wp2_with fail
            refine (down_s p s5 _ w _ H5.out).mono ?_
            rintro e w6 ⟨rfl, rfl⟩
            rw [show s5.down = true by rw [F5.out.down]; simp; omega]
            go_wp2_with fail
            go_roundw
            case rel => exact ⟨k + 1, s5, by omega, by go_num, H5.out, F5.out⟩
            case measure => simp [intOf]; omega
        · go_wp2_with fail
          refine (sector_any _ _).mono ?_
          rintro e w4 ⟨a4, c4, rfl, ho4, hb4⟩
          have HO4 := hid ho4; have HB4 := hid hb4; clear ho4 hb4
          go_wp2_with fail
          refine (write_s p (k % 9) s a4 c4 _ _ w _ _ H3.out HB4.out HO4.out (by rw [FZ.out.len]; omega) (by have := FZ.out.works; omega) (by have := FZ.out.pend; omega)).mono ?_
          rintro e w5 ⟨rfl, h5⟩
          rw [HCV.out]
          obtain ⟨s5, hs5⟩ : ∃ t, t = s.write (k % 9) (handBytes 64 (k : Int)) := ⟨_, rfl⟩
          rw [← hs5] at h5
          have F5 : Hid (Fz n (k + 1) s5) := by rw [hs5]; exact FZ.out.write _ _
          have H5 := hid h5; clear h5 hs5
          go_wp2_with fail
          refine (down_s p s5 _ w _ H5.out).mono ?_
          rintro e w6 ⟨rfl, rfl⟩
          rw [show s5.down = true by rw [F5.out.down]; simp; omega]
          go_wp2_with fail
          go_roundw
          case rel => exact ⟨k + 1, s5, by omega, by go_num, H5.out, F5.out⟩
          case measure => simp [intOf]; omega
    · obtain rfl : k = 30 := by omega
      go_wp2_with fail
      refine (read_s p 1 s _ w _ H3.out (by rw [FZ.out.len]; omega)).mono ?_
      rintro e w5 ⟨a5, n5, c5, rfl, hr5, h5, hb5⟩
      rw [FZ.out.read_down (by omega)]
      have H5 := hid h5.drop
      clear hr5 h5 hb5
      go_wp2_with fail
      refine (crash_s p s none 0 0 [] _ w _ _ H5.out (Below.refl _ _) (RdC.nil _ _) (fun z hz => by cases hz) (fun h => by omega)).mono ?_
      rintro e w6 ⟨rfl, h6⟩
      have hcr := FZ.out.crash
      generalize s.crash [] = t at *
      have H6 := hid h6; have HT := hid hcr; clear h6 hcr
      go_wp2_with fail
      refine (read_s p 1 t _ w _ H6.out (by rw [HT.out.1]; omega)).mono ?_
      rintro e w7 ⟨a7, n7, c7, rfl, hr7, h7, hb7⟩
      rw [HT.out.2.2.2.1]
      have H7 := hid h7.drop
      clear hr7 h7 hb7
      go_wp2_with fail
      refine (works_s p t _ w _ H7.out).mono ?_
      rintro e w8 ⟨rfl, rfl⟩
      rw [HT.out.2.1, show ((min 30 n : Nat) : Int) = n by omega]
      go_wp2_with fail
      refine (sector_any _ _).mono ?_
      rintro e w9 ⟨a9, c9, rfl, ho9, hb9⟩
      have HO9 := hid ho9; have HB9 := hid hb9; clear ho9 hb9
      go_wp2_with fail
      refine (write_s p 1 t a9 c9 _ _ w _ _ H7.out HB9.out HO9.out (by rw [HT.out.1]; omega) (by rw [HT.out.2.1]; omega) (by rw [HT.out.2.2.2.2]; omega)).mono ?_
      rintro e w10 ⟨rfl, h10⟩
      rw [if_pos HT.out.2.2.1]
      have H10 := hid h10; clear h10
      go_wp2_with fail
      go_ret
      exact ⟨rfl, H10.out.below⟩
end Go.Proofs.Ythcjiiknhldgoaa
