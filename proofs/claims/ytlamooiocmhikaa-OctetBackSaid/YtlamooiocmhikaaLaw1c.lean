/- The walk of OctetBack. -/
import Derived.Test.YtlamooiocmhikaaLaw1
namespace Go.Proofs.Ytlamooiocmhikaa
open Go.RowKit
set_option linter.unusedVariables false
set_option linter.unusedSimpArgs false
set_option maxRecDepth 100000

theorem byteAt_succ (v i : Nat) : byteAt v (i + 1) = byteAt (v / 256) i := by
  unfold byteAt
  rw [Nat.pow_succ', Nat.div_div_eq_div_mul]
theorem be_succ (n v : Nat) : be (n + 1) v = be n (v / 256) ++ [byteAt v 0] := by
  unfold be
  rw [List.range_succ, List.map_append]
  congr 1
  · apply List.map_congr_left
    intro j hj
    have hj' := List.mem_range.1 hj
    rw [show n + 1 - 1 - j = (n - 1 - j) + 1 by omega, byteAt_succ]
  · simp
theorem num_be (n : Nat) : ∀ v, n ≤ 8 → num (be n v) = v % 256 ^ n := by
  induction n with
  | zero => intro v _; simp [be, num, Nat.mod_one]
  | succ n ih =>
    intro v hn
    rw [be_succ, num_snoc, ih _ (by omega)]
    have hb : (byteAt v 0).toNat = v % 256 := by
      unfold byteAt
      rw [UInt8.toNat_ofNat_of_lt' (Nat.mod_lt _ (by decide)), Nat.pow_zero, Nat.div_one]
    rw [hb]
    have h1 : v % 256 ^ (n + 1) = (v / 256 % 256 ^ n) * 256 + v % 256 := by
      rw [Nat.pow_succ', Nat.mod_mul]; omega
    have h2 : v % 256 ^ (n + 1) < 18446744073709551616 := by
      refine Nat.lt_of_lt_of_le (Nat.mod_lt _ (Nat.pow_pos (by decide))) ?_
      have h3 : 256 ^ (n + 1) ≤ 256 ^ 8 := Nat.pow_le_pow_right (by decide) hn
      have h4 : (256 : Nat) ^ 8 = 18446744073709551616 := by decide +kernel
      omega
    rw [← h1, Nat.mod_eq_of_lt h2]
/-- what is behind a number that was laid -/
theorem take_be (m v : Nat) (rest : List UInt8) : taken (be m v ++ rest) false (m : Int) = be m v ∧ restOf (be m v ++ rest) false (m : Int) = rest ∧ lackOf (be m v ++ rest) false (m : Int) = false := by
  have h := taken_good (l := be m v ++ rest) (k := m) (by rw [List.length_append, be_len]; omega)
  have h1 : (be m v ++ rest).take m = be m v := by
    have := List.take_left (l₁ := be m v) (l₂ := rest)
    rwa [be_len] at this
  have h2 : (be m v ++ rest).drop m = rest := by
    have := List.drop_left (l₁ := be m v) (l₂ := rest)
    rwa [be_len] at this
  rw [h1, h2] at h
  exact h
theorem asInt_small (N : Nat) (h : N < 9223372036854775808) : asInt N = (N : Int) := by
  unfold asInt; exact IntWalk.i64_in _ (by omega)
theorem take_short (b rest : List UInt8) (hb : b.length ≤ 65535) : shortOf (be 2 b.length ++ b ++ rest) false = b ∧ shortRest (be 2 b.length ++ b ++ rest) false = rest ∧ shortLack (be 2 b.length ++ b ++ rest) false = false := by
  have h := take_be 2 b.length (b ++ rest)
  rw [← List.append_assoc] at h
  have h256 : (256 : Nat) ^ 2 = 65536 := by decide
  have hn : asInt (num (be 2 b.length)) = (b.length : Int) := by
    rw [num_be 2 _ (by decide), h256, Nat.mod_eq_of_lt (by omega), asInt_small _ (by omega)]
  have e2 : ((2 : Nat) : Int) = (2 : Int) := rfl
  rw [e2] at h
  unfold shortOf shortRest shortLack
  rw [h.1, h.2.1, h.2.2, hn]
  have g := taken_good (l := b ++ rest) (k := b.length) (by simp)
  rw [List.take_left, List.drop_left] at g
  exact g

/-- What a step lays. -/
def enc (x : StepD) : List UInt8 :=
  if pick x.what 4 = 0 then be 1 (x.n % 256) else if pick x.what 4 = 1 then be 4 (x.n % 4294967296) else if pick x.what 4 = 2 then be 8 x.n
  else be 2 (x.b.take 500).length ++ x.b.take 500
theorem enc_len (x : StepD) : (enc x).length ≤ 510 := by
  unfold enc
  have : (x.b.take 500).length ≤ 500 := List.length_take_le _ _
  split
  · simp [be_len]
  · split
    · simp [be_len]
    · split
      · simp [be_len]
      · rw [List.length_append, be_len]; omega
def encs (l : List StepD) : List UInt8 := l.flatMap enc
theorem encs_snoc (l : List StepD) (k : Nat) (hk : k < l.length) : encs (l.take (k + 1)) = encs (l.take k) ++ enc (l.getD k default) := by
  unfold encs
  rw [List.take_succ_eq_append_getElem hk, List.flatMap_append, List.getD_eq_getElem?_getD, List.getElem?_eq_getElem hk]
  simp
theorem encs_cons (l : List StepD) (j : Nat) (hj : j < l.length) : encs (l.drop j) = enc (l.getD j default) ++ encs (l.drop (j + 1)) := by
  unfold encs
  rw [List.drop_eq_getElem_cons hj, List.flatMap_cons, List.getD_eq_getElem?_getD, List.getElem?_eq_getElem hj]
  rfl

set_option maxHeartbeats 8000000 in
theorem octetBack_walk (v : Value) (l : List StepD) (w : World) (h : ArgSl 3 (StepR w) w v l) :
    Calls Try.prog 6 #[v] w fun e w' => e = .returned (.bool true) ∧ Below w.heap.size w w' := by
  obtain ⟨a, n, c, rfl, hln, hnc, hcap, hnone, hel⟩ := h
  have HLN := hid hln; have HNN := hid hnone; have HEL := hid hel
  clear hln hnone hel
  go_enter Try.func6, Try.ntmps6
  go_wp2_with fail
  refine (oNew_any _).mono ?_
  rintro e w1 ⟨rfl, h1, hb1, hs1⟩
  have H1 := hid h1; have HB1 := hid hb1; clear h1 hb1
  go_wp2_with fail
  refine (known_any _).mono ?_
  rintro e w2 ⟨rfl, hb2⟩
  have H2 := hid (H1.out.keep (Chg.of_below hb2 []) (fun _ _ => by simp))
  have HB2 := hid (HB1.out.trans (hb2.mono HB1.out.size))
  clear hb2 H1 HB1
  go_wp2_with fail
  go_loopw [4] (fun x wr => ∃ (k : Nat) (F : List Nat), k ≤ n ∧ k ≤ 40 ∧ x = .int .i64 k ∧ Wr 54 wr w.heap.size (encs (l.take k)) F ∧ (∀ q ∈ F, w.heap.size ≤ q) ∧ Below w.heap.size w wr ∧ (encs (l.take k)).length ≤ k * 600) (fun x _ => n - (intOf x).toNat)
  case atStart => exact ⟨0, _, Nat.zero_le _, Nat.zero_le _, rfl, H2.out, by simp, HB2.out, by simp [encs]⟩
  case round =>
    obtain ⟨k, F, hk, hk40, rfl, hwr, hFB, hbel, hlen⟩ := hrel
    have HW := hid hwr; have HF := hid hFB; have HBE := hid hbel; have HLE := hid hlen; clear hwr hFB hbel hlen H2 HB2
    by_cases hlt : k < n
    · by_cases hlt40 : k < 40
      · obtain ⟨b, off, cs, rfl, hcl, hcc, v0, rfl, hv0, hn64⟩ := HEL.out k hlt
        have HSN := hid (encs_snoc l k (by rw [HLN.out]; exact hlt))
        have HEN := hid (enc_len (l.getD k default))
        have HEQ := hid (show enc (l.getD k default) = _ from rfl)
        clear HEQ
        generalize l.getD k default = x at *
        have hc0 : wr.cell? ⟨b, off + k * 3, none⟩ = some (.int .i64 x.what) := (HBE.out.cell (p := ⟨b, off + k * 3 + 0, none⟩) (World.block_lt_of_cell? _ _ (hcc 0 (by omega)))).trans (hcc 0 (by omega))
        have hc1 : wr.cell? ⟨b, off + k * 3 + 1, none⟩ = some (.int .u64 x.n) := (HBE.out.cell (p := ⟨b, off + k * 3 + 1, none⟩) (World.block_lt_of_cell? _ _ (hcc 1 (by omega)))).trans (hcc 1 (by omega))
        obtain ⟨ab, kb, cb, rfl, hrb, hkcb, hcb, hnb⟩ := hv0
        have hc2 : wr.cell? ⟨b, off + k * 3 + 2, none⟩ = some (.slice ab kb cb) := (HBE.out.cell (p := ⟨b, off + k * 3 + 2, none⟩) (World.block_lt_of_cell? _ _ (hcc 2 (by omega)))).trans (hcc 2 (by omega))
        have HRB := hid (hrb.below HBE.out); have HNB := hid hnb
        clear hcc hcl hrb hnb
        have hl140 : (encs (l.take k)).length + 65600 ≤ 140737488355328 := by have := HLE.out; omega
        have hl8 : (encs (l.take k)).length + 8 ≤ 140737488355328 := by omega
        have hzlo := pick_lo x.what 4 (by omega)
        have hzhi := pick_hi x.what 4 (by omega)
        go_wp2_with fail
        refine (pick_any x.what 4 _ (by omega) (by omega)).mono ?_
        rintro e w0' ⟨rfl, rfl⟩
        generalize hz : pick x.what 4 = z at *
        have HZ := hid hz; clear hz
        obtain hz | hz | hz | hz : z = 0 ∨ z = 1 ∨ z = 2 ∨ z = 3 := by omega
        · subst hz
          have HE := hid (show enc x = be 1 (x.n % 256) by unfold enc; rw [HZ.out]; simp)
          go_wp2_with fail
          refine (oU8_any _ _ F ((x.n : Int) % 256) _ HW.out hl8).mono ?_
          rintro e w1' ⟨F1, rfl, h1', hc1', hf1'⟩
          have hu : u64nat ((x.n : Int) % 256) = x.n % 256 := by unfold u64nat; omega
          rw [hu] at h1'
          have h1 := hid h1'; have hc1 := hid hc1'; have hf1 := hid hf1'; clear h1' hc1' hf1'
          go_wp2_with fail
          go_roundw
          case rel =>
            refine ⟨k + 1, F1, by omega, by omega, by go_num, ?_, hf1.out.ge HF.out HBE.out.size, HBE.out.trans (hc1.out.below HF.out HBE.out.size), ?_⟩
            · rw [HSN.out, HE.out]; exact h1.out
            · rw [HSN.out, List.length_append]; have := HLE.out; have := HEN.out; omega
          case measure => simp [intOf]; omega
        · subst hz
          have HE := hid (show enc x = be 4 (x.n % 4294967296) by unfold enc; rw [HZ.out]; simp)
          go_wp2_with fail
          refine (oU32_any _ _ F ((x.n : Int) % 4294967296) _ HW.out hl8).mono ?_
          rintro e w1' ⟨F1, rfl, h1', hc1', hf1'⟩
          have hu : u64nat ((x.n : Int) % 4294967296) = x.n % 4294967296 := by unfold u64nat; omega
          rw [hu] at h1'
          have h1 := hid h1'; have hc1 := hid hc1'; have hf1 := hid hf1'; clear h1' hc1' hf1'
          go_wp2_with fail
          go_roundw
          case rel =>
            refine ⟨k + 1, F1, by omega, by omega, by go_num, ?_, hf1.out.ge HF.out HBE.out.size, HBE.out.trans (hc1.out.below HF.out HBE.out.size), ?_⟩
            · rw [HSN.out, HE.out]; exact h1.out
            · rw [HSN.out, List.length_append]; have := HLE.out; have := HEN.out; omega
          case measure => simp [intOf]; omega
        · subst hz
          have HE := hid (show enc x = be 8 x.n by unfold enc; rw [HZ.out]; simp)
          go_wp2_with fail
          refine (oU64_any _ _ F x.n _ HW.out hn64 hl8).mono ?_
          rintro e w1' ⟨F1, rfl, h1', hc1', hf1'⟩

          skip
          have h1 := hid h1'; have hc1 := hid hc1'; have hf1 := hid hf1'; clear h1' hc1' hf1'
          go_wp2_with fail
          go_roundw
          case rel =>
            refine ⟨k + 1, F1, by omega, by omega, by go_num, ?_, hf1.out.ge HF.out HBE.out.size, HBE.out.trans (hc1.out.below HF.out HBE.out.size), ?_⟩
            · rw [HSN.out, HE.out]; exact h1.out
            · rw [HSN.out, List.length_append]; have := HLE.out; have := HEN.out; omega
          case measure => simp [intOf]; omega
        · subst hz
          have HE := hid (show enc x = be 2 (x.b.take 500).length ++ x.b.take 500 by unfold enc; rw [HZ.out]; simp)
          go_wp2_with fail
          refine (few_any _ _ _ 500 x.b _ HRB.out hkcb (by omega) HNB.out (by unfold maxLen; omega)).mono ?_
          rintro e w4 ⟨a4, c4, rfl, ho4, hb4⟩
          have hm5 : min kb 500 ≤ 500 := Nat.min_le_right _ _
          have HLT := hid (ownB_len ho4)
          have HW4 := hid (HW.out.keep (Chg.of_below hb4 []) (fun _ _ => by simp))
          have HB4 := hid hb4
          have HN4 := hid (own_slice ho4).2.1
          have HK4 := hid (fun (w1 : World) (hc : Chg F w4 w1) => RdB.of_own (hc.owns ho4 (fun k hk hm => by have h5 := (ho4.lt k hk).1; have h6 := HW.out.lt k hm; omega)))
          have HR4 := hid (RdB.of_own ho4)
          clear ho4 hb4
          generalize min kb 500 = M at *
          go_wp2_with fail
          refine (oShort_any _ _ F _ M _ (x.b.take 500) _ HW4.out HR4.out HN4.out HK4.out (by omega) hl140).mono ?_
          rintro e w1' ⟨F1, rfl, h1', hc1', hf1'⟩
          rw [← HLT.out, List.append_assoc] at h1'
          have h1 := hid h1'; have hc1 := hid ((Chg.of_below HB4.out F).trans hc1' (fun k hk => .inl hk)); have hf1 := hid (show Fresh F F1 wr from fun k hk => by rcases hf1' k hk with h | h; exact .inl h; right; have := HB4.out.size; omega); clear h1' hc1' hf1'
          go_wp2_with fail
          go_roundw
          case rel =>
            refine ⟨k + 1, F1, by omega, by omega, by go_num, ?_, hf1.out.ge HF.out HBE.out.size, HBE.out.trans (hc1.out.below HF.out HBE.out.size), ?_⟩
            · rw [HSN.out, HE.out]; exact h1.out
            · rw [HSN.out, List.length_append]; have := HLE.out; have := HEN.out; omega
          case measure => simp [intOf]; omega
      · have HK : Hid (k ≤ n ∧ k ≤ 40) := ⟨hk, hk40⟩
        obtain ⟨wo, rfl⟩ : ∃ wo : World, wo = wr := ⟨_, rfl⟩
        have hl14 : (encs (l.take k)).length ≤ 140737488355328 := by have := HLE.out; omega
        go_wp2_with fail
        refine (oBytes_any _ _ F _ HW.out hl14).mono ?_
        rintro e w3 ⟨a3, n3, c3, rfl, ho3, hb3⟩
        have HR3 := hid (RdB.of_own ho3); have HN3 := hid (own_slice ho3).2.1
        have HB3 := hid (HBE.out.trans (hb3.mono HBE.out.size))
        have hn3 : n3 ≤ 140737488355328 := by have := ownB_len ho3; omega
        clear ho3 hb3
        go_wp2_with fail
        refine (oNewReader_any _ _ _ (encs (l.take k)) _ HR3.out HN3.out hn3).mono ?_
        rintro e w4 ⟨p, F4, rfl, h4, hF4, hb4⟩
        have HP4 := hid h4; have HF4 := hid (show ∀ q ∈ F4, w.heap.size ≤ q from fun q hq => Nat.le_trans HB3.out.size (hF4 q hq)); have HB4 := hid (HB3.out.trans (hb4.mono HB3.out.size))
        clear h4 hF4 hb4 HW HF HLE HR3 HN3 HB3
        go_wp2_with fail
        go_loopw [6, 7] (fun x _ wr => ∃ (j : Nat) (F : List Nat), j ≤ k ∧ x = .int .i64 j ∧ Rr 57 wr p (encs ((l.take k).drop j)) false F ∧ (∀ q ∈ F, w.heap.size ≤ q) ∧ Below w.heap.size w wr ∧ (encs ((l.take k).drop j)).length ≤ 140737488355328) (fun x _ _ => k - (intOf x).toNat)
        case atStart => exact ⟨0, F4, Nat.zero_le _, rfl, HP4.out, HF4.out, HB4.out, by simpa using hl14⟩
        case round =>
          obtain ⟨j, F, hj, rfl, hrr, hFB, hbel, hlen⟩ := hrel
          have HW := hid hrr; have HF := hid hFB; have HBE' := hid hbel; have HLE := hid hlen; clear hrr hFB hbel HP4 HF4 HB4
          by_cases hltj : j < k
          · obtain ⟨b, off, cs, rfl, hcl, hcc, v0, rfl, hv0, hn64⟩ := HEL.out j (by omega)
            have HSN := hid (encs_cons (l.take k) j (by rw [List.length_take, HLN.out]; omega))
            have hgd : (l.take k).getD j default = l.getD j default := by simp [List.getD_eq_getElem?_getD, List.getElem?_take, hltj]
            rw [hgd] at HSN
            clear hgd
            generalize l.getD j default = x at *
            have hc0 : wr.cell? ⟨b, off + j * 3, none⟩ = some (.int .i64 x.what) := (HBE'.out.cell (p := ⟨b, off + j * 3 + 0, none⟩) (World.block_lt_of_cell? _ _ (hcc 0 (by omega)))).trans (hcc 0 (by omega))
            have hbw : b < w.heap.size := World.block_lt_of_cell? w ⟨b, off + j * 3 + 0, none⟩ (hcc 0 (by omega))
            have hc1 : wr.cell? ⟨b, off + j * 3 + 1, none⟩ = some (.int .u64 x.n) := (HBE'.out.cell (p := ⟨b, off + j * 3 + 1, none⟩) (World.block_lt_of_cell? _ _ (hcc 1 (by omega)))).trans (hcc 1 (by omega))
            obtain ⟨ab, kb, cb, rfl, hrb, hkcb, hcb, hnb⟩ := hv0
            have hc2 : wr.cell? ⟨b, off + j * 3 + 2, none⟩ = some (.slice ab kb cb) := (HBE'.out.cell (p := ⟨b, off + j * 3 + 2, none⟩) (World.block_lt_of_cell? _ _ (hcc 2 (by omega)))).trans (hcc 2 (by omega))
            have HRB := hid hrb; have HNB := hid hnb
            clear hcc hcl hrb hnb
            have hzlo := pick_lo x.what 4 (by omega)
            have hzhi := pick_hi x.what 4 (by omega)
            go_wp2_with fail
            refine (pick_any x.what 4 _ (by omega) (by omega)).mono ?_
            rintro e w0' ⟨rfl, rfl⟩
            generalize hz : pick x.what 4 = z at *
            have HZ := hid hz; clear hz
            generalize hREST : encs ((l.take k).drop (j + 1)) = R at *
            have HRE := hid hREST; clear hREST
            obtain hz | hz | hz | hz : z = 0 ∨ z = 1 ∨ z = 2 ∨ z = 3 := by omega
            · subst hz
              have HE := hid (show enc x = be 1 (x.n % 256) by unfold enc; rw [HZ.out]; simp)
              rw [HSN.out, HE.out] at HW HLE
              have hTB := take_be 1 (x.n % 256) R
              have e1 : ((1 : Nat) : Int) = (1 : Int) := rfl
              rw [e1] at hTB
              have HV := hid (show asInt (num (taken (be 1 (x.n % 256) ++ R) false 1)) = ((x.n : Int) % 256) by
                rw [hTB.1, num_be 1 _ (by decide)]
                have e256 : (256 : Nat) ^ 1 = 256 := by decide
                rw [e256, asInt_small _ (by omega)]; omega)
              have HTB := hid hTB; clear hTB e1
              have hRl : R.length ≤ 140737488355328 := by have := HLE.out; rw [List.length_append] at this; omega
              have HLX := HLE.out
              go_wp2_with fail
              go_region_with (go_at_call 29; refine (oRU8_any _ _ _ F _ (HW.out.keep ((Chg.refl [] _).drew) (fun _ _ => by simp)) HLX).mono ?_; rintro e w1' ⟨rfl, hc1', F1, h1', hf1'⟩; rw [HTB.out.2.1, HTB.out.2.2] at h1'; rw [HV.out]; have HBN := hid (HBE'.out.drew.trans (hc1'.below HF.out HBE'.out.size)); have hc1b := (HBN.out.cell (p := ⟨b, off + j * 3 + 1, none⟩) hbw).trans ((HBE'.out.cell (p := ⟨b, off + j * 3 + 1, none⟩) hbw).symm.trans hc1); have h1 := hid h1'; have hcc1 := hid hc1'; have hf1 := hid hf1'; clear h1' hc1' hf1')
              all_goals
                go_wp2_with fail
                go_roundw
                case rel =>
                  first
                    | exact ⟨j + 1, F1, by omega, by go_num, by rw [HRE.out]; exact h1.out, hf1.out.ge HF.out HBE'.out.size, HBN.out, by rw [HRE.out]; exact hRl⟩
                    | exact ⟨_, ⟨j + 1, F1, by omega, by go_num, by rw [HRE.out]; exact h1.out, hf1.out.ge HF.out HBE'.out.size, HBN.out, by rw [HRE.out]; exact hRl⟩, rfl⟩
                case measure => simp [intOf]; omega
            · subst hz
              have HE := hid (show enc x = be 4 (x.n % 4294967296) by unfold enc; rw [HZ.out]; simp)
              rw [HSN.out, HE.out] at HW HLE
              have hTB := take_be 4 (x.n % 4294967296) R
              have e1 : ((4 : Nat) : Int) = (4 : Int) := rfl
              rw [e1] at hTB
              have HV := hid (show asInt (num (taken (be 4 (x.n % 4294967296) ++ R) false 4)) = ((x.n : Int) % 4294967296) by
                rw [hTB.1, num_be 4 _ (by decide)]
                have e256 : (256 : Nat) ^ 4 = 4294967296 := by decide
                rw [e256, asInt_small _ (by omega)]; omega)
              have HTB := hid hTB; clear hTB e1
              have hRl : R.length ≤ 140737488355328 := by have := HLE.out; rw [List.length_append] at this; omega
              have HLX := HLE.out
              go_wp2_with fail
              go_region_with (go_at_call 26; refine (oRU32_any _ _ _ F _ (HW.out.keep ((Chg.refl [] _).drew) (fun _ _ => by simp)) HLX).mono ?_; rintro e w1' ⟨rfl, hc1', F1, h1', hf1'⟩; rw [HTB.out.2.1, HTB.out.2.2] at h1'; rw [HV.out]; have HBN := hid (HBE'.out.drew.trans (hc1'.below HF.out HBE'.out.size)); have hc1b := (HBN.out.cell (p := ⟨b, off + j * 3 + 1, none⟩) hbw).trans ((HBE'.out.cell (p := ⟨b, off + j * 3 + 1, none⟩) hbw).symm.trans hc1); have h1 := hid h1'; have hcc1 := hid hc1'; have hf1 := hid hf1'; clear h1' hc1' hf1')
              all_goals
                go_wp2_with fail
                go_roundw
                case rel =>
                  first
                    | exact ⟨j + 1, F1, by omega, by go_num, by rw [HRE.out]; exact h1.out, hf1.out.ge HF.out HBE'.out.size, HBN.out, by rw [HRE.out]; exact hRl⟩
                    | exact ⟨_, ⟨j + 1, F1, by omega, by go_num, by rw [HRE.out]; exact h1.out, hf1.out.ge HF.out HBE'.out.size, HBN.out, by rw [HRE.out]; exact hRl⟩, rfl⟩
                case measure => simp [intOf]; omega
            · subst hz
              have HE := hid (show enc x = be 8 (x.n) by unfold enc; rw [HZ.out]; simp)
              rw [HSN.out, HE.out] at HW HLE
              have hTB := take_be 8 (x.n) R
              have e1 : ((8 : Nat) : Int) = (8 : Int) := rfl
              rw [e1] at hTB
              have HV := hid (show ((num (taken (be 8 x.n ++ R) false 8) : Nat) : Int) = (x.n : Int) by
                rw [hTB.1, num_be 8 _ (by decide)]
                have e256 : (256 : Nat) ^ 8 = 18446744073709551616 := by decide +kernel
                rw [e256, Nat.mod_eq_of_lt hn64])
              have HTB := hid hTB; clear hTB e1
              have hRl : R.length ≤ 140737488355328 := by have := HLE.out; rw [List.length_append] at this; omega
              have HLX := HLE.out
              go_wp2_with fail
              go_region_with (go_at_call 35; refine (oRU64_any _ _ _ F _ (HW.out.keep ((Chg.refl [] _).drew) (fun _ _ => by simp)) HLX).mono ?_; rintro e w1' ⟨rfl, hc1', F1, h1', hf1'⟩; rw [HTB.out.2.1, HTB.out.2.2] at h1'; rw [HV.out]; have HBN := hid (HBE'.out.drew.trans (hc1'.below HF.out HBE'.out.size)); have hc1b := (HBN.out.cell (p := ⟨b, off + j * 3 + 1, none⟩) hbw).trans ((HBE'.out.cell (p := ⟨b, off + j * 3 + 1, none⟩) hbw).symm.trans hc1); have h1 := hid h1'; have hcc1 := hid hc1'; have hf1 := hid hf1'; clear h1' hc1' hf1')
              all_goals
                go_wp2_with fail
                go_roundw
                case rel =>
                  first
                    | exact ⟨j + 1, F1, by omega, by go_num, by rw [HRE.out]; exact h1.out, hf1.out.ge HF.out HBE'.out.size, HBN.out, by rw [HRE.out]; exact hRl⟩
                    | exact ⟨_, ⟨j + 1, F1, by omega, by go_num, by rw [HRE.out]; exact h1.out, hf1.out.ge HF.out HBE'.out.size, HBN.out, by rw [HRE.out]; exact hRl⟩, rfl⟩
                case measure => simp [intOf]; omega
            · subst hz
              have HE := hid (show enc x = be 2 (x.b.take 500).length ++ x.b.take 500 by unfold enc; rw [HZ.out]; simp)
              rw [HSN.out, HE.out] at HW HLE
              have HTB := hid (take_short (x.b.take 500) R (Nat.le_trans (List.length_take_le _ _) (by omega)))
              have hRl : R.length ≤ 140737488355328 := by have := HLE.out; rw [List.length_append] at this; omega
              have HLX := HLE.out
              go_wp2_with fail
              go_region_with (first
                | (go_at_call 38
                   refine (oRShort_any _ _ _ F _ (HW.out.keep ((Chg.refl [] _).drew) (fun _ _ => by simp)) HLX).mono ?_
                   rintro e w1' ⟨a1, n1, c1, rfl, ho1, hc1', F1, h1', hf1'⟩
                   rw [HTB.out.1] at ho1
                   rw [HTB.out.2.1, HTB.out.2.2] at h1'
                   have HBM := hid (HBE'.out.drew.trans (hc1'.below HF.out HBE'.out.size))
                   have hc2b := (HBM.out.cell (p := ⟨b, off + j * 3 + 2, none⟩) hbw).trans ((HBE'.out.cell (p := ⟨b, off + j * 3 + 2, none⟩) hbw).symm.trans hc2)
                   have h1a := hid h1'; have hc1 := hid hc1'; have hf1 := hid hf1'; have HO1 := hid ho1
                   have hcv1 := run_bytes_str (P := Try.prog) (RdB.of_own ho1) c1 27 9 5 Try.underlying27 Try.underlying5 Try.underlying9
                   clear ho1 h1' hc1' hf1')
                | (go_at_call 31
                   refine (few_any _ _ _ 500 x.b _ (HRB.out.below HBM.out) hkcb (by omega) HNB.out (by unfold maxLen; omega)).mono ?_
                   rintro e w5 ⟨a5, c5, rfl, ho5, hb5⟩
                   have h1 := hid (h1a.out.keep (Chg.of_below hb5 []) (fun _ _ => by simp))
                   have HBN := hid (HBM.out.trans (hb5.mono HBM.out.size))
                   have hcv5 := run_bytes_str (P := Try.prog) (RdB.of_own ho5) c5 27 9 5 Try.underlying27 Try.underlying5 Try.underlying9
                   have hcv15 := run_bytes_str (P := Try.prog) ((RdB.of_own HO1.out).below hb5) c1 27 9 5 Try.underlying27 Try.underlying5 Try.underlying9
                   clear ho5 hb5))
              all_goals
                go_wp2_with fail
                go_roundw
                case rel =>
                  first
                    | exact ⟨j + 1, F1, by omega, by go_num, by rw [HRE.out]; exact h1.out, hf1.out.ge HF.out HBE'.out.size, HBN.out, by rw [HRE.out]; exact hRl⟩
                    | exact ⟨_, ⟨j + 1, F1, by omega, by go_num, by rw [HRE.out]; exact h1.out, hf1.out.ge HF.out HBE'.out.size, HBN.out, by rw [HRE.out]; exact hRl⟩, rfl⟩
                case measure => simp [intOf]; omega
          · obtain rfl : j = k := by omega
            have HNIL : Hid (encs ((l.take j).drop j) = []) := by
              show _ = _
              rw [List.drop_of_length_le (by rw [List.length_take]; omega)]; rfl
            rw [HNIL.out] at HW
            go_wp2_with fail
            refine (oLeft_any _ _ _ F _ HW.out).mono ?_
            rintro e w5 ⟨rfl, rfl⟩
            go_wp2_with fail
            refine (oLack_any _ _ _ F _ HW.out).mono ?_
            rintro e w5 ⟨rfl, rfl⟩
            go_wp2_with fail
            go_ret
            exact ⟨rfl, HBE'.out⟩
    · have HK : Hid (k ≤ n ∧ k ≤ 40) := ⟨hk, hk40⟩
      obtain ⟨wo, rfl⟩ : ∃ wo : World, wo = wr := ⟨_, rfl⟩
      have hl14 : (encs (l.take k)).length ≤ 140737488355328 := by have := HLE.out; omega
      go_wp2_with fail
      refine (oBytes_any _ _ F _ HW.out hl14).mono ?_
      rintro e w3 ⟨a3, n3, c3, rfl, ho3, hb3⟩
      have HR3 := hid (RdB.of_own ho3); have HN3 := hid (own_slice ho3).2.1
      have HB3 := hid (HBE.out.trans (hb3.mono HBE.out.size))
      have hn3 : n3 ≤ 140737488355328 := by have := ownB_len ho3; omega
      clear ho3 hb3
      go_wp2_with fail
      refine (oNewReader_any _ _ _ (encs (l.take k)) _ HR3.out HN3.out hn3).mono ?_
      rintro e w4 ⟨p, F4, rfl, h4, hF4, hb4⟩
      have HP4 := hid h4; have HF4 := hid (show ∀ q ∈ F4, w.heap.size ≤ q from fun q hq => Nat.le_trans HB3.out.size (hF4 q hq)); have HB4 := hid (HB3.out.trans (hb4.mono HB3.out.size))
      clear h4 hF4 hb4 HW HF HLE HR3 HN3 HB3
      go_wp2_with fail
      go_loopw [6, 7] (fun x _ wr => ∃ (j : Nat) (F : List Nat), j ≤ k ∧ x = .int .i64 j ∧ Rr 57 wr p (encs ((l.take k).drop j)) false F ∧ (∀ q ∈ F, w.heap.size ≤ q) ∧ Below w.heap.size w wr ∧ (encs ((l.take k).drop j)).length ≤ 140737488355328) (fun x _ _ => k - (intOf x).toNat)
      case atStart => exact ⟨0, F4, Nat.zero_le _, rfl, HP4.out, HF4.out, HB4.out, by simpa using hl14⟩
      case round =>
        obtain ⟨j, F, hj, rfl, hrr, hFB, hbel, hlen⟩ := hrel
        have HW := hid hrr; have HF := hid hFB; have HBE' := hid hbel; have HLE := hid hlen; clear hrr hFB hbel HP4 HF4 HB4
        by_cases hltj : j < k
        · obtain ⟨b, off, cs, rfl, hcl, hcc, v0, rfl, hv0, hn64⟩ := HEL.out j (by omega)
          have HSN := hid (encs_cons (l.take k) j (by rw [List.length_take, HLN.out]; omega))
          have hgd : (l.take k).getD j default = l.getD j default := by simp [List.getD_eq_getElem?_getD, List.getElem?_take, hltj]
          rw [hgd] at HSN
          clear hgd
          generalize l.getD j default = x at *
          have hc0 : wr.cell? ⟨b, off + j * 3, none⟩ = some (.int .i64 x.what) := (HBE'.out.cell (p := ⟨b, off + j * 3 + 0, none⟩) (World.block_lt_of_cell? _ _ (hcc 0 (by omega)))).trans (hcc 0 (by omega))
          have hbw : b < w.heap.size := World.block_lt_of_cell? w ⟨b, off + j * 3 + 0, none⟩ (hcc 0 (by omega))
          have hc1 : wr.cell? ⟨b, off + j * 3 + 1, none⟩ = some (.int .u64 x.n) := (HBE'.out.cell (p := ⟨b, off + j * 3 + 1, none⟩) (World.block_lt_of_cell? _ _ (hcc 1 (by omega)))).trans (hcc 1 (by omega))
          obtain ⟨ab, kb, cb, rfl, hrb, hkcb, hcb, hnb⟩ := hv0
          have hc2 : wr.cell? ⟨b, off + j * 3 + 2, none⟩ = some (.slice ab kb cb) := (HBE'.out.cell (p := ⟨b, off + j * 3 + 2, none⟩) (World.block_lt_of_cell? _ _ (hcc 2 (by omega)))).trans (hcc 2 (by omega))
          have HRB := hid hrb; have HNB := hid hnb
          clear hcc hcl hrb hnb
          have hzlo := pick_lo x.what 4 (by omega)
          have hzhi := pick_hi x.what 4 (by omega)
          go_wp2_with fail
          refine (pick_any x.what 4 _ (by omega) (by omega)).mono ?_
          rintro e w0' ⟨rfl, rfl⟩
          generalize hz : pick x.what 4 = z at *
          have HZ := hid hz; clear hz
          generalize hREST : encs ((l.take k).drop (j + 1)) = R at *
          have HRE := hid hREST; clear hREST
          obtain hz | hz | hz | hz : z = 0 ∨ z = 1 ∨ z = 2 ∨ z = 3 := by omega
          · subst hz
            have HE := hid (show enc x = be 1 (x.n % 256) by unfold enc; rw [HZ.out]; simp)
            rw [HSN.out, HE.out] at HW HLE
            have hTB := take_be 1 (x.n % 256) R
            have e1 : ((1 : Nat) : Int) = (1 : Int) := rfl
            rw [e1] at hTB
            have HV := hid (show asInt (num (taken (be 1 (x.n % 256) ++ R) false 1)) = ((x.n : Int) % 256) by
              rw [hTB.1, num_be 1 _ (by decide)]
              have e256 : (256 : Nat) ^ 1 = 256 := by decide
              rw [e256, asInt_small _ (by omega)]; omega)
            have HTB := hid hTB; clear hTB e1
            have hRl : R.length ≤ 140737488355328 := by have := HLE.out; rw [List.length_append] at this; omega
            have HLX := HLE.out
            go_wp2_with fail
            go_region_with (go_at_call 29; refine (oRU8_any _ _ _ F _ (HW.out.keep ((Chg.refl [] _).drew) (fun _ _ => by simp)) HLX).mono ?_; rintro e w1' ⟨rfl, hc1', F1, h1', hf1'⟩; rw [HTB.out.2.1, HTB.out.2.2] at h1'; rw [HV.out]; have HBN := hid (HBE'.out.drew.trans (hc1'.below HF.out HBE'.out.size)); have hc1b := (HBN.out.cell (p := ⟨b, off + j * 3 + 1, none⟩) hbw).trans ((HBE'.out.cell (p := ⟨b, off + j * 3 + 1, none⟩) hbw).symm.trans hc1); have h1 := hid h1'; have hcc1 := hid hc1'; have hf1 := hid hf1'; clear h1' hc1' hf1')
            all_goals
              go_wp2_with fail
              go_roundw
              case rel =>
                first
                  | exact ⟨j + 1, F1, by omega, by go_num, by rw [HRE.out]; exact h1.out, hf1.out.ge HF.out HBE'.out.size, HBN.out, by rw [HRE.out]; exact hRl⟩
                  | exact ⟨_, ⟨j + 1, F1, by omega, by go_num, by rw [HRE.out]; exact h1.out, hf1.out.ge HF.out HBE'.out.size, HBN.out, by rw [HRE.out]; exact hRl⟩, rfl⟩
              case measure => simp [intOf]; omega
          · subst hz
            have HE := hid (show enc x = be 4 (x.n % 4294967296) by unfold enc; rw [HZ.out]; simp)
            rw [HSN.out, HE.out] at HW HLE
            have hTB := take_be 4 (x.n % 4294967296) R
            have e1 : ((4 : Nat) : Int) = (4 : Int) := rfl
            rw [e1] at hTB
            have HV := hid (show asInt (num (taken (be 4 (x.n % 4294967296) ++ R) false 4)) = ((x.n : Int) % 4294967296) by
              rw [hTB.1, num_be 4 _ (by decide)]
              have e256 : (256 : Nat) ^ 4 = 4294967296 := by decide
              rw [e256, asInt_small _ (by omega)]; omega)
            have HTB := hid hTB; clear hTB e1
            have hRl : R.length ≤ 140737488355328 := by have := HLE.out; rw [List.length_append] at this; omega
            have HLX := HLE.out
            go_wp2_with fail
            go_region_with (go_at_call 26; refine (oRU32_any _ _ _ F _ (HW.out.keep ((Chg.refl [] _).drew) (fun _ _ => by simp)) HLX).mono ?_; rintro e w1' ⟨rfl, hc1', F1, h1', hf1'⟩; rw [HTB.out.2.1, HTB.out.2.2] at h1'; rw [HV.out]; have HBN := hid (HBE'.out.drew.trans (hc1'.below HF.out HBE'.out.size)); have hc1b := (HBN.out.cell (p := ⟨b, off + j * 3 + 1, none⟩) hbw).trans ((HBE'.out.cell (p := ⟨b, off + j * 3 + 1, none⟩) hbw).symm.trans hc1); have h1 := hid h1'; have hcc1 := hid hc1'; have hf1 := hid hf1'; clear h1' hc1' hf1')
            all_goals
              go_wp2_with fail
              go_roundw
              case rel =>
                first
                  | exact ⟨j + 1, F1, by omega, by go_num, by rw [HRE.out]; exact h1.out, hf1.out.ge HF.out HBE'.out.size, HBN.out, by rw [HRE.out]; exact hRl⟩
                  | exact ⟨_, ⟨j + 1, F1, by omega, by go_num, by rw [HRE.out]; exact h1.out, hf1.out.ge HF.out HBE'.out.size, HBN.out, by rw [HRE.out]; exact hRl⟩, rfl⟩
              case measure => simp [intOf]; omega
          · subst hz
            have HE := hid (show enc x = be 8 (x.n) by unfold enc; rw [HZ.out]; simp)
            rw [HSN.out, HE.out] at HW HLE
            have hTB := take_be 8 (x.n) R
            have e1 : ((8 : Nat) : Int) = (8 : Int) := rfl
            rw [e1] at hTB
            have HV := hid (show ((num (taken (be 8 x.n ++ R) false 8) : Nat) : Int) = (x.n : Int) by
              rw [hTB.1, num_be 8 _ (by decide)]
              have e256 : (256 : Nat) ^ 8 = 18446744073709551616 := by decide +kernel
              rw [e256, Nat.mod_eq_of_lt hn64])
            have HTB := hid hTB; clear hTB e1
            have hRl : R.length ≤ 140737488355328 := by have := HLE.out; rw [List.length_append] at this; omega
            have HLX := HLE.out
            go_wp2_with fail
            go_region_with (go_at_call 35; refine (oRU64_any _ _ _ F _ (HW.out.keep ((Chg.refl [] _).drew) (fun _ _ => by simp)) HLX).mono ?_; rintro e w1' ⟨rfl, hc1', F1, h1', hf1'⟩; rw [HTB.out.2.1, HTB.out.2.2] at h1'; rw [HV.out]; have HBN := hid (HBE'.out.drew.trans (hc1'.below HF.out HBE'.out.size)); have hc1b := (HBN.out.cell (p := ⟨b, off + j * 3 + 1, none⟩) hbw).trans ((HBE'.out.cell (p := ⟨b, off + j * 3 + 1, none⟩) hbw).symm.trans hc1); have h1 := hid h1'; have hcc1 := hid hc1'; have hf1 := hid hf1'; clear h1' hc1' hf1')
            all_goals
              go_wp2_with fail
              go_roundw
              case rel =>
                first
                  | exact ⟨j + 1, F1, by omega, by go_num, by rw [HRE.out]; exact h1.out, hf1.out.ge HF.out HBE'.out.size, HBN.out, by rw [HRE.out]; exact hRl⟩
                  | exact ⟨_, ⟨j + 1, F1, by omega, by go_num, by rw [HRE.out]; exact h1.out, hf1.out.ge HF.out HBE'.out.size, HBN.out, by rw [HRE.out]; exact hRl⟩, rfl⟩
              case measure => simp [intOf]; omega
          · subst hz
            have HE := hid (show enc x = be 2 (x.b.take 500).length ++ x.b.take 500 by unfold enc; rw [HZ.out]; simp)
            rw [HSN.out, HE.out] at HW HLE
            have HTB := hid (take_short (x.b.take 500) R (Nat.le_trans (List.length_take_le _ _) (by omega)))
            have hRl : R.length ≤ 140737488355328 := by have := HLE.out; rw [List.length_append] at this; omega
            have HLX := HLE.out
            go_wp2_with fail
            go_region_with (first
              | (go_at_call 38
                 refine (oRShort_any _ _ _ F _ (HW.out.keep ((Chg.refl [] _).drew) (fun _ _ => by simp)) HLX).mono ?_
                 rintro e w1' ⟨a1, n1, c1, rfl, ho1, hc1', F1, h1', hf1'⟩
                 rw [HTB.out.1] at ho1
                 rw [HTB.out.2.1, HTB.out.2.2] at h1'
                 have HBM := hid (HBE'.out.drew.trans (hc1'.below HF.out HBE'.out.size))
                 have hc2b := (HBM.out.cell (p := ⟨b, off + j * 3 + 2, none⟩) hbw).trans ((HBE'.out.cell (p := ⟨b, off + j * 3 + 2, none⟩) hbw).symm.trans hc2)
                 have h1a := hid h1'; have hc1 := hid hc1'; have hf1 := hid hf1'; have HO1 := hid ho1
                 have hcv1 := run_bytes_str (P := Try.prog) (RdB.of_own ho1) c1 27 9 5 Try.underlying27 Try.underlying5 Try.underlying9
                 clear ho1 h1' hc1' hf1')
              | (go_at_call 31
                 refine (few_any _ _ _ 500 x.b _ (HRB.out.below HBM.out) hkcb (by omega) HNB.out (by unfold maxLen; omega)).mono ?_
                 rintro e w5 ⟨a5, c5, rfl, ho5, hb5⟩
                 have h1 := hid (h1a.out.keep (Chg.of_below hb5 []) (fun _ _ => by simp))
                 have HBN := hid (HBM.out.trans (hb5.mono HBM.out.size))
                 have hcv5 := run_bytes_str (P := Try.prog) (RdB.of_own ho5) c5 27 9 5 Try.underlying27 Try.underlying5 Try.underlying9
                 have hcv15 := run_bytes_str (P := Try.prog) ((RdB.of_own HO1.out).below hb5) c1 27 9 5 Try.underlying27 Try.underlying5 Try.underlying9
                 clear ho5 hb5))
            all_goals
              go_wp2_with fail
              go_roundw
              case rel =>
                first
                  | exact ⟨j + 1, F1, by omega, by go_num, by rw [HRE.out]; exact h1.out, hf1.out.ge HF.out HBE'.out.size, HBN.out, by rw [HRE.out]; exact hRl⟩
                  | exact ⟨_, ⟨j + 1, F1, by omega, by go_num, by rw [HRE.out]; exact h1.out, hf1.out.ge HF.out HBE'.out.size, HBN.out, by rw [HRE.out]; exact hRl⟩, rfl⟩
              case measure => simp [intOf]; omega
        · obtain rfl : j = k := by omega
          have HNIL : Hid (encs ((l.take j).drop j) = []) := by
            show _ = _
            rw [List.drop_of_length_le (by rw [List.length_take]; omega)]; rfl
          rw [HNIL.out] at HW
          go_wp2_with fail
          refine (oLeft_any _ _ _ F _ HW.out).mono ?_
          rintro e w5 ⟨rfl, rfl⟩
          go_wp2_with fail
          refine (oLack_any _ _ _ F _ HW.out).mono ?_
          rintro e w5 ⟨rfl, rfl⟩
          go_wp2_with fail
          go_ret
          exact ⟨rfl, HBE'.out⟩
end Go.Proofs.Ytlamooiocmhikaa
