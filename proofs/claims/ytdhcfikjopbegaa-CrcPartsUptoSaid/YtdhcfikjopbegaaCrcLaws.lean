/- The walks of chapter 2's statements. -/
import Derived.Test.YtdhcfikjopbegaaCrc
import Derived.Test.YtdhcfikjopbegaaHand
namespace Go.Proofs.Ytdhcfikjopbegaa
open Go.RowKit
set_option linter.unusedVariables false
set_option linter.unusedSimpArgs false
set_option maxRecDepth 100000
set_option maxHeartbeats 1000000

/-- known: chapter 2's examples. -/
theorem known_any (w : World) :
    Calls Try.prog 7 #[] w fun e w' => e = .returned (.bool true) ∧ Below w.heap.size w w' := by
  have kc := fun (w : World) (C : Array Value) (n c : Nat) => Lib.run_convert_bytes_const (P := Try.prog) w 25 5 C n c Try.underlying25 Try.underlying5
  go_enter Try.func7, Try.ntmps7
  go_wp2_with fail
  refine (sum_any _ 9 _ [49, 50, 51, 52, 53, 54, 55, 56, 57] _ (RdB.new w _ _ _ _ rfl 9 rfl _ rfl) (by decide)).mono ?_
  rintro e w1 ⟨rfl, rfl⟩
  rw [crc_known]
  go_wp2_with fail
  refine (sum_any _ 0 _ [] _ (RdB.nil _ _) (by decide)).mono ?_
  rintro e w1 ⟨rfl, rfl⟩
  rw [crc_nil]
  go_wp2_with fail
  go_ret
  exact ⟨rfl, (Below.refl _ _).alloc (Nat.le_refl _) _⟩

theorem crcKnown_walk (w : World) :
    Calls Try.prog 3 #[] w fun e w' => e = .returned (.bool true) ∧ Below w.heap.size w w' := by
  have kc := fun (w : World) (C : Array Value) (n c : Nat) => Lib.run_convert_bytes_const (P := Try.prog) w 25 5 C n c Try.underlying25 Try.underlying5
  go_enter Try.func3, Try.ntmps3
  go_wp2_with fail
  refine (known_any _).mono ?_
  rintro e w1 ⟨rfl, hb1⟩
  go_wp2_with fail
  refine (more_any _ 9 _ [49, 50, 51, 52, 53, 54, 55, 56, 57] 0#32 _ (RdB.new w1 _ _ _ _ rfl 9 rfl _ rfl) (by decide)).mono ?_
  rintro e w2 ⟨rfl, rfl⟩
  rw [crc_known]
  go_wp2_with fail
  refine (sum_any _ 1 _ [0] _ (RdB.new _ _ _ _ _ rfl 1 rfl _ (by simp)) (by decide)).mono ?_
  rintro e w2 ⟨rfl, rfl⟩
  rw [crc_zero]
  go_wp2_with fail
  go_ret
  exact ⟨rfl, (hb1.alloc (by have := hb1.size; omega) _).alloc (by have := hb1.size; simp; omega) _⟩

theorem crcSums_walk (v : Value) (l : List UInt8) (n : Int) (S : BitVec 32) (w : World) (h : ArgB w v l) :
    Calls Try.prog 4 #[v, .int .i64 n, .int .u32 S.toNat] w fun e w' => e = .returned (.bool true) ∧ Below w.heap.size w w' := by
  obtain ⟨a, k, c, rfl, hr, hkc, hcap, hc⟩ := h
  have HC := hid hc; clear hc
  have HR := hid hr; clear hr
  have hk : k ≤ maxLen := by unfold maxLen; omega
  by_cases h3 : n.tmod 3 = 0
  · have hb : (n.tmod 3 == 0) = true := by simpa using h3
    clear h3
    go_enter Try.func4, Try.ntmps4
    go_wp2_with fail
    refine (pick_any n 300 _ (by omega) (by omega)).mono ?_
    rintro e w1 ⟨rfl, rfl⟩
    have hlo := pick_lo n 300 (by omega)
    have hhi := pick_hi n 300 (by omega)
    generalize pick n 300 = z at *
    obtain ⟨m, rfl⟩ := Int.eq_ofNat_of_zero_le hlo
    go_wp2_with fail
    refine (bytes_any m n _ (by omega)).mono ?_
    rintro e w1 ⟨a', c', rfl, hown, hb1⟩
    have hr1 := hid (RdB.of_own hown); clear hown
    have hm : m ≤ maxLen := by unfold maxLen; omega
    generalize handBytes m n = l1 at *
    go_wp2_with fail
    refine (known_any _).mono ?_
    rintro e w2 ⟨rfl, hb2⟩
    have hr2 := hid (hr1.out.below hb2); clear hr1
    have hbb := hid (hb1.trans (hb2.mono hb1.size)); clear hb1 hb2
    go_wp2_with fail
    refine (sum_any _ _ _ _ _ hr2.out hm).mono ?_
    rintro e w3 ⟨rfl, rfl⟩
    go_wp2_with fail
    refine (refsum_any _ _ _ _ _ hr2.out hm).mono ?_
    rintro e w3 ⟨rfl, rfl⟩
    go_wp2_with fail
    refine (more_any _ _ _ _ S _ hr2.out hm).mono ?_
    rintro e w3 ⟨rfl, rfl⟩
    go_wp2_with fail
    refine (refmore_any _ _ _ _ S _ hr2.out hm).mono ?_
    rintro e w3 ⟨rfl, rfl⟩
    go_wp2_with fail
    go_ret
    exact ⟨rfl, hbb.out⟩
  · have hb : (n.tmod 3 == 0) = false := by simpa using h3
    clear h3
    go_enter Try.func4, Try.ntmps4
    go_wp2_with fail
    refine (known_any _).mono ?_
    rintro e w2 ⟨rfl, hb2⟩
    have hr2 := hid (HR.out.below hb2)
    go_wp2_with fail
    refine (sum_any _ _ _ _ _ hr2.out hk).mono ?_
    rintro e w3 ⟨rfl, rfl⟩
    go_wp2_with fail
    refine (refsum_any _ _ _ _ _ hr2.out hk).mono ?_
    rintro e w3 ⟨rfl, rfl⟩
    go_wp2_with fail
    refine (more_any _ _ _ _ S _ hr2.out hk).mono ?_
    rintro e w3 ⟨rfl, rfl⟩
    go_wp2_with fail
    refine (refmore_any _ _ _ _ S _ hr2.out hk).mono ?_
    rintro e w3 ⟨rfl, rfl⟩
    go_wp2_with fail
    go_ret
    exact ⟨rfl, hb2⟩

theorem turned_ne (l : List UInt8) (k : Nat) (hk : k < l.length) (d : UInt8) (hd : l.getD k 0 ≠ d) : crc 0#32 (l.set k d) ≠ crc 0#32 l := by
  intro h
  have e1 : l = l.take k ++ l.getD k 0 :: l.drop (k + 1) := by
    rw [List.getD_eq_getElem?_getD, List.getElem?_eq_getElem hk]
    simp
  have e2 : l.set k d = l.take k ++ d :: l.drop (k + 1) := by
    rw [List.set_eq_take_append_cons_drop, if_pos hk]
  rw [e2] at h
  have h' := h.trans (congrArg (crc 0#32) e1)
  exact hd (crc_turned _ _ _ _ _ h').symm

theorem crcTurns_walk (v : Value) (l : List UInt8) (n at_ : Int) (by_ : UInt8) (w : World) (h : ArgB w v l) :
    Calls Try.prog 6 #[v, .int .i64 n, .int .i64 at_, .int .u8 by_.toNat] w fun e w' => e = .returned (.bool true) ∧ Below w.heap.size w w' := by
  obtain ⟨a, k, c, rfl, hr, hkc, hcap, hc⟩ := h
  have HC := hid hc; clear hc
  have HR := hid hr; clear hr
  have hbyl := by_.toNat_lt
  by_cases h3 : n.tmod 2 = 0
  · have hb : (n.tmod 2 == 0) = true := by simpa using h3
    clear h3
    go_enter Try.func6, Try.ntmps6
    go_wp2_with fail
    refine (pick_any n 200 _ (by omega) (by omega)).mono ?_
    rintro e w1 ⟨rfl, rfl⟩
    have hlo := pick_lo n 200 (by omega)
    have hhi := pick_hi n 200 (by omega)
    generalize pick n 200 = z at *
    obtain ⟨m, rfl⟩ := Int.eq_ofNat_of_zero_le hlo
    go_wp2_with fail
    rw [show (1 : Int) + (m : Int) = ((m + 1 : Nat) : Int) by omega]
    obtain ⟨K, hK, hK1, hK2⟩ : ∃ K, m + 1 = K ∧ 1 ≤ K ∧ K ≤ 140737488355328 := ⟨m + 1, rfl, by omega, by omega⟩
    rw [hK]
    clear hK hlo hhi
    refine (bytes_any K n _ (by omega)).mono ?_
    rintro e w1 ⟨a', c', rfl, hown, hb1⟩
    have hr1 := hid (RdB.of_own hown)
    obtain ⟨hnc2, hnone2', _⟩ := own_slice hown
    have HN2 := hid hnone2'; clear hnone2'
    clear hown
    generalize handBytes K n = l1 at *
    have hk0 : ((K : Int) == 0) = false := by simp; omega
    go_wp2_with fail
    refine (known_any _).mono ?_
    rintro e w2 ⟨rfl, hb2⟩
    have hr2 := hid (hr1.out.below hb2); clear hr1
    have hbb := hid (hb1.trans (hb2.mono hb1.size)); clear hb1 hb2
    by_cases hby0 : by_ = 0
    · subst hby0
      go_wp2_with fail
      refine (known_any _).mono ?_
      rintro e w3 ⟨rfl, hb3⟩
      go_wp2_with fail
      go_ret
      exact ⟨rfl, hbb.out.trans (hb3.mono hbb.out.size)⟩
    have hby : ((by_.toNat : Int) == 0) = false := by
      simp only [beq_eq_false_iff_ne]; intro h; exact hby0 (UInt8.toNat_inj.1 (by simpa using h))
    have hnone2 := HN2.out; clear HN2
    go_wp2_with fail
    refine (few_all _ _ _ _ _ hr2.out hnc2 (by omega) hnone2).mono ?_
    rintro e w3 ⟨a3, c3, rfl, hown3, hb3⟩
    have hr2b := hr2
    have hb3b := hid hb3
    have hlen := hr2.out.len
    have hsz := hb3.size
    obtain ⟨_, _, h3g⟩ := own_slice hown3
    obtain ⟨g, rfl, hg1, hg2⟩ := h3g (by omega)
    clear hr2
    have ho3 := hid hown3; clear hown3
    have HL := hid hlen; clear hlen
    have HB := hid (hbb.out.trans (hb3.mono hbb.out.size)); clear hb3 hnone2
    go_wp2_with fail
    refine (pick_any at_ _ _ (by omega) (by omega)).mono ?_
    rintro e w4 ⟨rfl, rfl⟩
    have hlo := pick_lo at_ K (by omega)
    have hhi := pick_hi at_ K (by omega)
    generalize pick at_ K = z at *
    obtain ⟨i, rfl⟩ := Int.eq_ofNat_of_zero_le hlo
    have hi : i < K := by omega
    have hcell := ownB_cell ho3.out i hi
    have hfz := ho3.out.frozenAt i
    have HN := hid (turned_ne l1 i (by rw [HL.out]; exact hi) (l1.getD i 0 ^^^ by_) (fun h => hby0 (by
      have h' := congrArg (l1.getD i 0 ^^^ ·) h
      simpa [← UInt8.xor_assoc] using h'.symm)))
    have HS := hid (ownB_set ho3.out i (l1.getD i 0 ^^^ by_))
    have HX := hid (bits_xor8 (l1.getD i 0) by_)
    unfold B8 at hcell
    generalize l1.getD i 0 = x at *
    go_wp2_with fail
    rw [HX.out]
    show Calls _ _ _ (World.setCell _ _ (B8 (x ^^^ by_))) _
    refine (sum_any _ _ _ _ _ (RdB.of_own HS.out) (by unfold maxLen; omega)).mono ?_
    rintro e w5 ⟨rfl, rfl⟩
    go_wp2_with fail
    refine (sum_any _ _ _ l1 _ (hr2b.out.below (hb3b.out.setCell hg1 _)) (by unfold maxLen; omega)).mono ?_
    rintro e w5 ⟨rfl, rfl⟩
    have hne2 : (((crc 0#32 (l1.set i (x ^^^ by_))).toNat : Int) != ((crc 0#32 l1).toNat : Int)) = true := by
      rw [bne_iff_ne]; intro h; exact HN.out (BitVec.eq_of_toNat_eq (by omega))
    go_wp2_with fail
    go_ret
    refine ⟨rfl, ?_⟩
    exact HB.out.setCell (by have := hbb.out.size; show _ ≤ g; omega) _
  · have hb : (n.tmod 2 == 0) = false := by simpa using h3
    clear h3
    go_enter Try.func6, Try.ntmps6
    go_wp2_with fail
    refine (known_any _).mono ?_
    rintro e w2 ⟨rfl, hbb'⟩
    have hr2 := hid (HR.out.below hbb')
    have hbb := hid hbb'; clear hbb'
    by_cases hk : k = 0
    · subst hk
      go_wp2_with fail
      refine (known_any _).mono ?_
      rintro e w3 ⟨rfl, hb3⟩
      go_wp2_with fail
      go_ret
      exact ⟨rfl, hbb.out.trans (hb3.mono hbb.out.size)⟩
    have hk0 : ((k : Int) == 0) = false := by simpa using hk
    obtain ⟨K, hK, hK1, hK2⟩ : ∃ K, k = K ∧ 1 ≤ K ∧ K ≤ 140737488355328 := ⟨k, rfl, by omega, by omega⟩
    subst hK
    by_cases hby0 : by_ = 0
    · subst hby0
      go_wp2_with fail
      refine (known_any _).mono ?_
      rintro e w3 ⟨rfl, hb3⟩
      go_wp2_with fail
      go_ret
      exact ⟨rfl, hbb.out.trans (hb3.mono hbb.out.size)⟩
    have hby : ((by_.toNat : Int) == 0) = false := by
      simp only [beq_eq_false_iff_ne]; intro h; exact hby0 (UInt8.toNat_inj.1 (by simpa using h))
    have hnone2 := HC.out
    have hnc2 := hkc
    go_wp2_with fail
    refine (few_all _ _ _ _ _ hr2.out hnc2 (by omega) hnone2).mono ?_
    rintro e w3 ⟨a3, c3, rfl, hown3, hb3⟩
    have hr2b := hr2
    have hb3b := hid hb3
    have hlen := hr2.out.len
    have hsz := hb3.size
    obtain ⟨_, _, h3g⟩ := own_slice hown3
    obtain ⟨g, rfl, hg1, hg2⟩ := h3g (by omega)
    clear hr2
    have ho3 := hid hown3; clear hown3
    have HL := hid hlen; clear hlen
    have HB := hid (hbb.out.trans (hb3.mono hbb.out.size)); clear hb3 hnone2
    go_wp2_with fail
    refine (pick_any at_ _ _ (by omega) (by omega)).mono ?_
    rintro e w4 ⟨rfl, rfl⟩
    have hlo := pick_lo at_ k (by omega)
    have hhi := pick_hi at_ k (by omega)
    generalize pick at_ k = z at *
    obtain ⟨i, rfl⟩ := Int.eq_ofNat_of_zero_le hlo
    have hi : i < k := by omega
    have hcell := ownB_cell ho3.out i hi
    have hfz := ho3.out.frozenAt i
    have HN := hid (turned_ne l i (by rw [HL.out]; exact hi) (l.getD i 0 ^^^ by_) (fun h => hby0 (by
      have h' := congrArg (l.getD i 0 ^^^ ·) h
      simpa [← UInt8.xor_assoc] using h'.symm)))
    have HS := hid (ownB_set ho3.out i (l.getD i 0 ^^^ by_))
    have HX := hid (bits_xor8 (l.getD i 0) by_)
    unfold B8 at hcell
    generalize l.getD i 0 = x at *
    go_wp2_with fail
    rw [HX.out]
    show Calls _ _ _ (World.setCell _ _ (B8 (x ^^^ by_))) _
    refine (sum_any _ _ _ _ _ (RdB.of_own HS.out) (by unfold maxLen; omega)).mono ?_
    rintro e w5 ⟨rfl, rfl⟩
    go_wp2_with fail
    refine (sum_any _ _ _ l _ (hr2b.out.below (hb3b.out.setCell hg1 _)) (by unfold maxLen; omega)).mono ?_
    rintro e w5 ⟨rfl, rfl⟩
    have hne2 : (((crc 0#32 (l.set i (x ^^^ by_))).toNat : Int) != ((crc 0#32 l).toNat : Int)) = true := by
      rw [bne_iff_ne]; intro h; exact HN.out (BitVec.eq_of_toNat_eq (by omega))
    go_wp2_with fail
    go_ret
    refine ⟨rfl, ?_⟩
    exact HB.out.setCell (by have := hbb.out.size; show _ ≤ g; omega) _

theorem crcParts_walk (va vb vc : Value) (la lb lc : List UInt8) (w : World) (ha : ArgB w va la) (hb : ArgB w vb lb) (hc : ArgB w vc lc) (hsum : la.length + lb.length + lc.length ≤ 140737488355328) :
    Calls Try.prog 5 #[va, vb, vc] w fun e w' => e = .returned (.bool true) ∧ Below w.heap.size w w' := by
  obtain ⟨aa, ka, ca, rfl, hra, hka, hcapa, hna⟩ := ha
  obtain ⟨ab, kb, cb, rfl, hrb, hkb, hcapb, hnb⟩ := hb
  obtain ⟨ac, kc, cc, rfl, hrc, hkc, hcapc, hnc⟩ := hc
  rw [hra.len, hrb.len, hrc.len] at hsum
  obtain ⟨i, hi, hz0, hz1, hz2⟩ := info_parts infoB
  have HA := hid hra; have HB := hid hrb; have HC := hid hrc
  have NA := hid hna; have NB := hid hnb; have NC := hid hnc
  clear hra hrb hrc hna hnb hnc
  have tok1 : True := trivial
  have tok2 : True := trivial
  go_enter Try.func5, Try.ntmps5
  go_wp2_with fail
  refine (few_all _ _ _ la _ HA.out hka (by omega) NA.out).mono ?_
  rintro e w1 ⟨a1, c1, rfl, hown1, hb1⟩
  have ho1 := hid hown1; clear hown1
  have hB1 := hid hb1; have hs1 := hb1.size; clear hb1
  go_wp2_with (first | (at_builtin; have _t := tok1; refine wpList_append_bytes rfl _ _ 25 rfl w.heap.size 5 i _ Try.underlying25 hi hz0 hz1 hz2 rfl _ ka la rfl ho1.out _ _ _ lb rfl (HB.out.below hB1.out) NB.out (by omega) hs1 ?_; intro a2 c2 w2 hown2 hg2; have ho2 := hid hown2; clear hown2; have hG2 := hid hg2; have hs2 := hg2.size; clear hg2; clear tok1) | (at_builtin; have _t := tok2; refine wpList_append_bytes rfl _ _ 25 rfl w.heap.size 5 i _ Try.underlying25 hi hz0 hz1 hz2 rfl _ (ka + kb) (la ++ lb) rfl ho2.out _ _ _ lc rfl (HC.out.below (hB1.out.grown hG2.out hs1 (fun k hk => (ho1.out.lt k hk).1))) NC.out (by omega) (by omega) ?_; intro a3 c3 w3 hown3 hg3; have ho3 := hid hown3; clear hown3; have hG3 := hid hg3; have hs3 := hg3.size; clear hg3; clear tok2))
  have hbb := hid ((hB1.out.grown hG2.out hs1 (fun k hk => (ho1.out.lt k hk).1)).grown hG3.out (by omega) (fun k hk => (ho2.out.lt k hk).1))
  have hR3 := hid (RdB.of_own ho3.out)
  clear ho1 ho2 ho3 hG2 hG3 hB1
  refine (known_any _).mono ?_
  rintro e w4 ⟨rfl, hb4⟩
  have hR4 := hid (hR3.out.below hb4)
  have hbb4 := hid (hbb.out.trans (hb4.mono hbb.out.size))
  have RA := hid (HA.out.below hbb4.out)
  have RB := hid (HB.out.below hbb4.out)
  have RC := hid (HC.out.below hbb4.out)
  clear hb4 hR3
  go_wp2_with fail
  refine (sum_any _ _ _ _ _ hR4.out (by unfold maxLen; omega)).mono ?_
  rintro e w5 ⟨rfl, rfl⟩
  rw [crc_append, crc_append]
  go_wp2_with fail
  refine (sum_any _ _ _ la _ RA.out (by unfold maxLen; omega)).mono ?_
  rintro e w5 ⟨rfl, rfl⟩
  go_wp2_with fail
  refine (more_any _ _ _ lb _ _ RB.out (by unfold maxLen; omega)).mono ?_
  rintro e w5 ⟨rfl, rfl⟩
  go_wp2_with fail
  refine (more_any _ _ _ lc _ _ RC.out (by unfold maxLen; omega)).mono ?_
  rintro e w5 ⟨rfl, rfl⟩
  go_wp2_with fail
  refine (sum_any _ _ _ la _ RA.out (by unfold maxLen; omega)).mono ?_
  rintro e w5 ⟨rfl, rfl⟩
  go_wp2_with fail
  refine (more_any _ _ _ [] _ _ (RdB.nil _ _) (by unfold maxLen; omega)).mono ?_
  rintro e w5 ⟨rfl, rfl⟩
  rw [crc_nil]
  go_wp2_with fail
  refine (sum_any _ _ _ la _ RA.out (by unfold maxLen; omega)).mono ?_
  rintro e w5 ⟨rfl, rfl⟩
  go_wp2_with fail
  go_ret
  exact ⟨rfl, hbb4.out⟩
end Go.Proofs.Ytdhcfikjopbegaa
