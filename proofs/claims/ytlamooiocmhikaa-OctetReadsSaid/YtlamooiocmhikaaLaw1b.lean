/- The walk of OctetReads. -/
import Derived.Test.YtlamooiocmhikaaLaw1
namespace Go.Proofs.Ytlamooiocmhikaa
open Go.RowKit
set_option linter.unusedVariables false
set_option linter.unusedSimpArgs false
set_option maxRecDepth 100000
set_option maxHeartbeats 8000000

/-- Two readers side by side. -/
def TwoR (B : Nat) (w : World) (p q : Nat) (l : List UInt8) (lack : Bool) : Prop :=
  ∃ F G, Rr 57 w p l lack F ∧ Rr 49 w q l lack G ∧ Disj F G ∧ (∀ k ∈ F, B ≤ k) ∧ (∀ k ∈ G, B ≤ k) ∧ B ≤ w.heap.size
theorem TwoR.step {B : Nat} {W0 w1 w2 : World} {p q : Nat} {l l' : List UInt8} {lack lack' : Bool} {F G F1 G1 : List Nat}
    (hR : Rr 49 W0 q l lack G) (hd : Disj F G) (hF : ∀ k ∈ F, B ≤ k) (hG : ∀ k ∈ G, B ≤ k) (hB : B ≤ W0.heap.size)
    (hc1 : Chg F W0 w1) (h1 : Rr 57 w1 p l' lack' F1) (hf1 : Fresh F F1 W0) (hc2 : Chg G w1 w2) (h2 : Rr 49 w2 q l' lack' G1) (hf2 : Fresh G G1 w1) :
    TwoR B w2 p q l' lack' ∧ Below B W0 w2 := by
  have hG0 := hR.lt
  have hd1 : Disj F1 G := hd.fresh hf1 hG0
  have hs1 := hc1.size
  refine ⟨⟨F1, G1, h1.keep hc2 hd1, h2, ?_, hf1.ge hF hB, hf2.ge hG (by omega), by have := hc2.size; omega⟩, (hc1.below hF hB).trans (hc2.below hG (by omega))⟩
  exact (hd1.symm.fresh hf2 h1.lt).symm
theorem TwoR.keep {B : Nat} {w w' : World} {p q : Nat} {l : List UInt8} {lack : Bool} (h : TwoR B w p q l lack) (hc : Chg [] w w') : TwoR B w' p q l lack := by
  obtain ⟨F, G, h1, h2, h3, h4, h5, h6⟩ := h
  exact ⟨F, G, h1.keep hc (fun _ _ => by simp), h2.keep hc (fun _ _ => by simp), h3, h4, h5, by have := hc.size; omega⟩
theorem short_len (l : List UInt8) (lack : Bool) : (shortRest l lack).length ≤ l.length := Nat.le_trans (rest_len _ _ _) (rest_len _ _ _)

theorem octetReads_walk (vb v : Value) (lb : List UInt8) (l : List StepD) (w : World) (hb : ArgB w vb lb) (h : ArgSl 3 (StepR w) w v l) :
    Calls Try.prog 5 #[vb, v] w fun e w' => e = .returned (.bool true) ∧ Below w.heap.size w w' := by
  obtain ⟨i0, hi, hz0, hz1, hz2⟩ := info_parts infoB'
  obtain ⟨a, n, c, rfl, hln, hnc, hcap, hnone, hel⟩ := h
  obtain ⟨ab, kb, cb, rfl, hrb, hkcb, hcb, hnb⟩ := hb
  have HLN := hid hln; have HNN := hid hnone; have HEL := hid hel
  have HRB := hid hrb; have HNB := hid hnb
  have hkb : kb ≤ 140737488355328 := by omega
  clear hln hnone hel hrb hnb
  go_enter Try.func5, Try.ntmps5
  go_wp2_with fail
  refine (oNewReader_any _ _ _ lb _ HRB.out HNB.out hkb).mono ?_
  rintro e w1 ⟨p, F1, rfl, h1, hF1, hb1⟩
  have H1 := hid h1; have HF1 := hid hF1; have HB1 := hid hb1; clear h1 hF1 hb1
  go_wp2_with fail
  refine (known_any _).mono ?_
  rintro e w2 ⟨rfl, hb2⟩
  have HB2 := hid (HB1.out.trans (hb2.mono HB1.out.size))
  have H2 := hid (H1.out.keep (Chg.of_below hb2 []) (fun _ _ => by simp))
  clear hb2 H1
  go_wp2_with fail
  refine (few_all _ _ _ lb _ (HRB.out.below HB2.out) hkcb hkb HNB.out).mono ?_
  rintro e w3 ⟨a3, c3, rfl, ho3, hb3⟩
  have HB3 := hid (HB2.out.trans (hb3.mono HB2.out.size))
  have T0 : TwoR w.heap.size (w3.alloc (.cells #[.slice a3 kb c3, .bool false] 49)) p w3.heap.size lb false := by
    have hs3 := hb3.size
    have hs2 := HB2.out.size
    refine ⟨F1, w3.heap.size :: (a3.map (·.block)).toList, (H2.out.keep (Chg.of_below hb3 []) (fun _ _ => by simp)).keep (Chg.alloc (Chg.refl [] _) _) (fun _ _ => by simp), Rr.mk_new HRB.out.len ho3 hs3, ?_, HF1.out, ?_, by simp; omega⟩
    · intro k h1 h2
      have h3 := H2.out.lt k h1
      rcases List.mem_cons.1 h2 with h4 | h4
      · omega
      · have := own_ge ho3 h4; omega
    · intro k h2
      rcases List.mem_cons.1 h2 with h4 | h4
      · omega
      · have := own_ge ho3 h4; omega
  have HT0 := hid T0
  have HBW := hid (HB3.out.alloc HB3.out.size (.cells #[.slice a3 kb c3, .bool false] 49))
  have HLB := hid HRB.out.len
  clear T0 ho3 hb3 H2 HB1 HB2 HB3 HF1
  go_wp2_with fail
  generalize w3.heap.size = q at *
  go_loopw [7, 8, 9] (fun x _ _ wr => ∃ (k : Nat) (l' : List UInt8) (lack : Bool), k ≤ n ∧ k ≤ 40 ∧ x = .int .i64 k ∧ TwoR w.heap.size wr p q l' lack ∧ Below w.heap.size w wr ∧ l'.length ≤ 140737488355328) (fun x _ _ _ => n - (intOf x).toNat)
  case atStart => exact ⟨0, lb, false, Nat.zero_le _, Nat.zero_le _, rfl, HT0.out, HBW.out, by rw [HLB.out]; exact hkb⟩
  case round =>
    obtain ⟨k, l', lack, hk, hk40, rfl, htwo, hbel, hlen⟩ := hrel
    have HTW := hid htwo; have HBE := hid hbel; clear htwo hbel HT0 HBW
    by_cases hlt : k < n
    · by_cases hlt40 : k < 40
      · obtain ⟨b, off, cs, rfl, hcl, hcc, v0, rfl, hv0, hn64⟩ := HEL.out k hlt
        generalize l.getD k default = x at *
        have hc0 : wr.cell? ⟨b, off + k * 3, none⟩ = some (.int .i64 x.what) := (HBE.out.cell (p := ⟨b, off + k * 3 + 0, none⟩) (World.block_lt_of_cell? _ _ (hcc 0 (by omega)))).trans (hcc 0 (by omega))
        have hc1 : wr.cell? ⟨b, off + k * 3 + 1, none⟩ = some (.int .u64 x.n) := (HBE.out.cell (p := ⟨b, off + k * 3 + 1, none⟩) (World.block_lt_of_cell? _ _ (hcc 1 (by omega)))).trans (hcc 1 (by omega))
        clear hcc hcl hv0
        obtain ⟨F, G, hP0, hQ0, hd', hF', hG', hB'⟩ := HTW.out
        have hFl := hid hP0.lt; have hGl := hid hQ0.lt; have hd := hid hd'; have hF := hid hF'; have hG := hid hG'
        have hP := hid hP0; have hQ := hid hQ0
        have hB := hB'
        have hzlo := pick_lo x.what 6 (by omega)
        have hzhi := pick_hi x.what 6 (by omega)
        clear hP0 hQ0 hd' hF' hG' hB'
        go_wp2_with fail
        refine (pick_any x.what 6 _ (by omega) (by omega)).mono ?_
        rintro e w0' ⟨rfl, rfl⟩
        generalize pick x.what 6 = z at *
        obtain hz | hz | hz | hz | hz | hz : z = 0 ∨ z = 1 ∨ z = 2 ∨ z = 3 ∨ z = 4 ∨ z = 5 := by omega
        · subst hz
          go_wp2_with fail
          refine (oRU8_any _ _ _ F _ hP.out hlen).mono ?_
          rintro e w1' ⟨rfl, hc1', F1, h1', hf1'⟩
          have h1 := hid h1'; have hc1 := hid hc1'; have hf1 := hid hf1'; clear h1' hc1' hf1'
          have hQ1 := hid (hQ.out.keep hc1.out hd.out.symm)
          go_wp2_with fail
          refine (rRU8_any _ _ _ G _ hQ1.out hlen).mono ?_
          rintro e w2' ⟨rfl, hc2', G1, h2', hf2'⟩
          have h2 := hid h2'; have hc2 := hid hc2'; have hf2 := hid hf2'; clear h2' hc2' hf2' hQ1
          have HLL := hid (show (restOf l' lack 1).length ≤ 140737488355328 from Nat.le_trans (rest_len _ _ _) hlen)
          obtain ⟨htwo2, hbel2⟩ := TwoR.step hQ.out hd.out hF.out hG.out hB hc1.out h1.out hf1.out hc2.out h2.out hf2.out
          have HBE2 := hid (HBE.out.trans hbel2)
          have HTW2 := hid htwo2
          clear hP hQ hc1 h1 hf1 hc2 h2 hf2 htwo2 hbel2 HTW HBE hd hF hG hFl hGl
          generalize hL : restOf l' lack 1 = L at *
          generalize hK : lackOf l' lack 1 = K at *
          clear hL hK
          obtain ⟨F, G, hP, hQ, hd, hF, hG, hB2⟩ := HTW2.out
          obtain ⟨ar, mr, cr, hm, hk1, hk2, hk3, hk4, hk5, hk6⟩ := hQ
          have hcq0 : w2'.cell? ⟨q, 0, none⟩ = some (.slice ar mr cr) := cell_of_block hk1 rfl
          have hcq1 : w2'.cell? ⟨q, 1, none⟩ = some (.bool K) := cell_of_block hk1 rfl
          have hne : ((L.length : Int) != (mr : Int)) = false := by simp; omega
          have hP' := hid hP
          clear hm hk1 hk2 hk3 hk4 hk5 hk6 hd hF hG hB2 hP
          go_wp2_with fail
          go_quiet ((first | (go_at_call 27; refine quiet_pure (oLack_any _ _ _ F _ (hP'.out.keep (Chg.drewN (Chg.refl [] _) _) (fun _ _ => by simp)))) | (go_at_call 28; refine quiet_pure (oLeft_any _ _ _ F _ (hP'.out.keep (Chg.drewN (Chg.refl [] _) _) (fun _ _ => by simp))))))
          go_wp2_with fail
          go_roundw
          case rel =>
            first
              | exact ⟨k + 1, L, K, by omega, by omega, by go_num, HTW2.out.keep ((Chg.refl [] _).drewN _), HBE2.out.trans ((Chg.drewN (Chg.refl [] _) _).below (by simp) HBE2.out.size), HLL.out⟩
              | exact ⟨_, ⟨k + 1, L, K, by omega, by omega, by go_num, HTW2.out.keep ((Chg.refl [] _).drewN _), HBE2.out.trans ((Chg.drewN (Chg.refl [] _) _).below (by simp) HBE2.out.size), HLL.out⟩, rfl⟩
          case measure => simp [intOf]; omega
        · subst hz
          go_wp2_with fail
          refine (oRU16_any _ _ _ F _ hP.out hlen).mono ?_
          rintro e w1' ⟨rfl, hc1', F1, h1', hf1'⟩
          have h1 := hid h1'; have hc1 := hid hc1'; have hf1 := hid hf1'; clear h1' hc1' hf1'
          have hQ1 := hid (hQ.out.keep hc1.out hd.out.symm)
          go_wp2_with fail
          refine (rRU16_any _ _ _ G _ hQ1.out hlen).mono ?_
          rintro e w2' ⟨rfl, hc2', G1, h2', hf2'⟩
          have h2 := hid h2'; have hc2 := hid hc2'; have hf2 := hid hf2'; clear h2' hc2' hf2' hQ1
          have HLL := hid (show (restOf l' lack 2).length ≤ 140737488355328 from Nat.le_trans (rest_len _ _ _) hlen)
          obtain ⟨htwo2, hbel2⟩ := TwoR.step hQ.out hd.out hF.out hG.out hB hc1.out h1.out hf1.out hc2.out h2.out hf2.out
          have HBE2 := hid (HBE.out.trans hbel2)
          have HTW2 := hid htwo2
          clear hP hQ hc1 h1 hf1 hc2 h2 hf2 htwo2 hbel2 HTW HBE hd hF hG hFl hGl
          generalize hL : restOf l' lack 2 = L at *
          generalize hK : lackOf l' lack 2 = K at *
          clear hL hK
          obtain ⟨F, G, hP, hQ, hd, hF, hG, hB2⟩ := HTW2.out
          obtain ⟨ar, mr, cr, hm, hk1, hk2, hk3, hk4, hk5, hk6⟩ := hQ
          have hcq0 : w2'.cell? ⟨q, 0, none⟩ = some (.slice ar mr cr) := cell_of_block hk1 rfl
          have hcq1 : w2'.cell? ⟨q, 1, none⟩ = some (.bool K) := cell_of_block hk1 rfl
          have hne : ((L.length : Int) != (mr : Int)) = false := by simp; omega
          have hP' := hid hP
          clear hm hk1 hk2 hk3 hk4 hk5 hk6 hd hF hG hB2 hP
          go_wp2_with fail
          go_quiet ((first | (go_at_call 27; refine quiet_pure (oLack_any _ _ _ F _ (hP'.out.keep (Chg.drewN (Chg.refl [] _) _) (fun _ _ => by simp)))) | (go_at_call 28; refine quiet_pure (oLeft_any _ _ _ F _ (hP'.out.keep (Chg.drewN (Chg.refl [] _) _) (fun _ _ => by simp))))))
          go_wp2_with fail
          go_roundw
          case rel =>
            first
              | exact ⟨k + 1, L, K, by omega, by omega, by go_num, HTW2.out.keep ((Chg.refl [] _).drewN _), HBE2.out.trans ((Chg.drewN (Chg.refl [] _) _).below (by simp) HBE2.out.size), HLL.out⟩
              | exact ⟨_, ⟨k + 1, L, K, by omega, by omega, by go_num, HTW2.out.keep ((Chg.refl [] _).drewN _), HBE2.out.trans ((Chg.drewN (Chg.refl [] _) _).below (by simp) HBE2.out.size), HLL.out⟩, rfl⟩
          case measure => simp [intOf]; omega
        · subst hz
          go_wp2_with fail
          refine (oRU32_any _ _ _ F _ hP.out hlen).mono ?_
          rintro e w1' ⟨rfl, hc1', F1, h1', hf1'⟩
          have h1 := hid h1'; have hc1 := hid hc1'; have hf1 := hid hf1'; clear h1' hc1' hf1'
          have hQ1 := hid (hQ.out.keep hc1.out hd.out.symm)
          go_wp2_with fail
          refine (rRU32_any _ _ _ G _ hQ1.out hlen).mono ?_
          rintro e w2' ⟨rfl, hc2', G1, h2', hf2'⟩
          have h2 := hid h2'; have hc2 := hid hc2'; have hf2 := hid hf2'; clear h2' hc2' hf2' hQ1
          have HLL := hid (show (restOf l' lack 4).length ≤ 140737488355328 from Nat.le_trans (rest_len _ _ _) hlen)
          obtain ⟨htwo2, hbel2⟩ := TwoR.step hQ.out hd.out hF.out hG.out hB hc1.out h1.out hf1.out hc2.out h2.out hf2.out
          have HBE2 := hid (HBE.out.trans hbel2)
          have HTW2 := hid htwo2
          clear hP hQ hc1 h1 hf1 hc2 h2 hf2 htwo2 hbel2 HTW HBE hd hF hG hFl hGl
          generalize hL : restOf l' lack 4 = L at *
          generalize hK : lackOf l' lack 4 = K at *
          clear hL hK
          obtain ⟨F, G, hP, hQ, hd, hF, hG, hB2⟩ := HTW2.out
          obtain ⟨ar, mr, cr, hm, hk1, hk2, hk3, hk4, hk5, hk6⟩ := hQ
          have hcq0 : w2'.cell? ⟨q, 0, none⟩ = some (.slice ar mr cr) := cell_of_block hk1 rfl
          have hcq1 : w2'.cell? ⟨q, 1, none⟩ = some (.bool K) := cell_of_block hk1 rfl
          have hne : ((L.length : Int) != (mr : Int)) = false := by simp; omega
          have hP' := hid hP
          clear hm hk1 hk2 hk3 hk4 hk5 hk6 hd hF hG hB2 hP
          go_wp2_with fail
          go_quiet ((first | (go_at_call 27; refine quiet_pure (oLack_any _ _ _ F _ (hP'.out.keep (Chg.drewN (Chg.refl [] _) _) (fun _ _ => by simp)))) | (go_at_call 28; refine quiet_pure (oLeft_any _ _ _ F _ (hP'.out.keep (Chg.drewN (Chg.refl [] _) _) (fun _ _ => by simp))))))
          go_wp2_with fail
          go_roundw
          case rel =>
            first
              | exact ⟨k + 1, L, K, by omega, by omega, by go_num, HTW2.out.keep ((Chg.refl [] _).drewN _), HBE2.out.trans ((Chg.drewN (Chg.refl [] _) _).below (by simp) HBE2.out.size), HLL.out⟩
              | exact ⟨_, ⟨k + 1, L, K, by omega, by omega, by go_num, HTW2.out.keep ((Chg.refl [] _).drewN _), HBE2.out.trans ((Chg.drewN (Chg.refl [] _) _).below (by simp) HBE2.out.size), HLL.out⟩, rfl⟩
          case measure => simp [intOf]; omega
        · subst hz
          go_wp2_with fail
          refine (oRU64_any _ _ _ F _ hP.out hlen).mono ?_
          rintro e w1' ⟨rfl, hc1', F1, h1', hf1'⟩
          have h1 := hid h1'; have hc1 := hid hc1'; have hf1 := hid hf1'; clear h1' hc1' hf1'
          have hQ1 := hid (hQ.out.keep hc1.out hd.out.symm)
          go_wp2_with fail
          refine (rRU64_any _ _ _ G _ hQ1.out hlen).mono ?_
          rintro e w2' ⟨rfl, hc2', G1, h2', hf2'⟩
          have h2 := hid h2'; have hc2 := hid hc2'; have hf2 := hid hf2'; clear h2' hc2' hf2' hQ1
          have HLL := hid (show (restOf l' lack 8).length ≤ 140737488355328 from Nat.le_trans (rest_len _ _ _) hlen)
          obtain ⟨htwo2, hbel2⟩ := TwoR.step hQ.out hd.out hF.out hG.out hB hc1.out h1.out hf1.out hc2.out h2.out hf2.out
          have HBE2 := hid (HBE.out.trans hbel2)
          have HTW2 := hid htwo2
          clear hP hQ hc1 h1 hf1 hc2 h2 hf2 htwo2 hbel2 HTW HBE hd hF hG hFl hGl
          generalize hL : restOf l' lack 8 = L at *
          generalize hK : lackOf l' lack 8 = K at *
          clear hL hK
          obtain ⟨F, G, hP, hQ, hd, hF, hG, hB2⟩ := HTW2.out
          obtain ⟨ar, mr, cr, hm, hk1, hk2, hk3, hk4, hk5, hk6⟩ := hQ
          have hcq0 : w2'.cell? ⟨q, 0, none⟩ = some (.slice ar mr cr) := cell_of_block hk1 rfl
          have hcq1 : w2'.cell? ⟨q, 1, none⟩ = some (.bool K) := cell_of_block hk1 rfl
          have hne : ((L.length : Int) != (mr : Int)) = false := by simp; omega
          have hP' := hid hP
          clear hm hk1 hk2 hk3 hk4 hk5 hk6 hd hF hG hB2 hP
          go_wp2_with fail
          go_quiet ((first | (go_at_call 27; refine quiet_pure (oLack_any _ _ _ F _ (hP'.out.keep (Chg.drewN (Chg.refl [] _) _) (fun _ _ => by simp)))) | (go_at_call 28; refine quiet_pure (oLeft_any _ _ _ F _ (hP'.out.keep (Chg.drewN (Chg.refl [] _) _) (fun _ _ => by simp))))))
          go_wp2_with fail
          go_roundw
          case rel =>
            first
              | exact ⟨k + 1, L, K, by omega, by omega, by go_num, HTW2.out.keep ((Chg.refl [] _).drewN _), HBE2.out.trans ((Chg.drewN (Chg.refl [] _) _).below (by simp) HBE2.out.size), HLL.out⟩
              | exact ⟨_, ⟨k + 1, L, K, by omega, by omega, by go_num, HTW2.out.keep ((Chg.refl [] _).drewN _), HBE2.out.trans ((Chg.drewN (Chg.refl [] _) _).below (by simp) HBE2.out.size), HLL.out⟩, rfl⟩
          case measure => simp [intOf]; omega
        · subst hz
          have hnb : x.n % 1000 < 1000 := Nat.mod_lt _ (by decide)
          go_wp2_with fail
          refine (pick_any _ 9 _ (by omega) (by omega)).mono ?_
          rintro e w0'' ⟨rfl, rfl⟩
          generalize hy : pick _ 9 = y at *
          have hylo : 0 ≤ y := by rw [← hy]; exact pick_lo _ 9 (by omega)
          have hyhi : y < 9 := by rw [← hy]; exact pick_hi _ 9 (by omega)
          clear hy
          go_wp2_with fail
          go_region_with (first
            | (go_at_call 30; refine (oTake_any _ _ _ F (y - 1) _ (hP.out.keep ((Chg.refl [] _).drew) (fun _ _ => by simp)) hlen).mono ?_
               rintro e w1' ⟨a1, n1, c1, rfl, ho1, hc1', F1, h1', hf1'⟩
               have h1 := hid h1'; have hc1 := hid hc1'; have hf1 := hid hf1'; clear h1' hc1' hf1'
               have HO1 := hid ho1
               have hcv1 := run_bytes_str (P := Try.prog) (RdB.of_own ho1) c1 27 9 5 Try.underlying27 Try.underlying5 Try.underlying9
               clear ho1
               have hQ1 := hid ((hQ.out.keep ((Chg.refl [] _).drew) (fun _ _ => by simp)).keep hc1.out hd.out.symm))
            | (go_at_call 37; refine (rTake_any _ _ _ G (y - 1) _ hQ1.out hlen).mono ?_
               rintro e w2' ⟨a2, n2, c2, rfl, ho2, hc2', G1, h2', hf2'⟩
               have h2 := hid h2'; have hc2 := hid hc2'; have hf2 := hid hf2'; clear h2' hc2' hf2'
               have hcv2 := run_bytes_str (P := Try.prog) (RdB.of_own ho2) c2 27 9 5 Try.underlying27 Try.underlying5 Try.underlying9
               have hcv12 := run_bytes_str (P := Try.prog) (RdB.of_own (hc2.out.owns HO1.out (fun k hk hm => by have h5 := (HO1.out.lt k hk).1; have h6 := hGl.out k hm; simp at h5; omega))) c1 27 9 5 Try.underlying27 Try.underlying5 Try.underlying9
               clear ho2))
          all_goals
            have HLL := hid (show (restOf l' lack (y - 1)).length ≤ 140737488355328 from Nat.le_trans (rest_len _ _ _) hlen)
            obtain ⟨htwo2, hbel2⟩ := TwoR.step (hQ.out.keep ((Chg.refl [] _).drew) (fun _ _ => by simp)) hd.out hF.out hG.out hB hc1.out h1.out hf1.out hc2.out h2.out hf2.out
            have HBE2 := hid (HBE.out.drew.trans hbel2)
            have HTW2 := hid htwo2
            clear hP hQ hc1 h1 hf1 hc2 h2 hf2 htwo2 hbel2 HTW HBE hd hF hG hFl hGl
            generalize hL : restOf l' lack (y - 1) = L at *
            generalize hK : lackOf l' lack (y - 1) = K at *
            clear hL hK
            obtain ⟨F, G, hP, hQ, hd, hF, hG, hB2⟩ := HTW2.out
            obtain ⟨ar, mr, cr, hm, hk1, hk2, hk3, hk4, hk5, hk6⟩ := hQ
            have hcq0 : w2'.cell? ⟨q, 0, none⟩ = some (.slice ar mr cr) := cell_of_block hk1 rfl
            have hcq1 : w2'.cell? ⟨q, 1, none⟩ = some (.bool K) := cell_of_block hk1 rfl
            have hne : ((L.length : Int) != (mr : Int)) = false := by simp; omega
            have hP' := hid hP
            clear hm hk1 hk2 hk3 hk4 hk5 hk6 hd hF hG hB2 hP
            go_wp2_with fail
            go_quiet ((first | (go_at_call 27; refine quiet_pure (oLack_any _ _ _ F _ (hP'.out.keep (Chg.drewN (Chg.refl [] _) _) (fun _ _ => by simp)))) | (go_at_call 28; refine quiet_pure (oLeft_any _ _ _ F _ (hP'.out.keep (Chg.drewN (Chg.refl [] _) _) (fun _ _ => by simp))))))
            go_wp2_with fail
            go_roundw
            case rel =>
              first
                | exact ⟨k + 1, L, K, by omega, by omega, by go_num, HTW2.out.keep ((Chg.refl [] _).drewN _), HBE2.out.trans ((Chg.drewN (Chg.refl [] _) _).below (by simp) HBE2.out.size), HLL.out⟩
                | exact ⟨_, ⟨k + 1, L, K, by omega, by omega, by go_num, HTW2.out.keep ((Chg.refl [] _).drewN _), HBE2.out.trans ((Chg.drewN (Chg.refl [] _) _).below (by simp) HBE2.out.size), HLL.out⟩, rfl⟩
            case measure => simp [intOf]; omega
        · subst hz
          go_wp2_with fail
          go_region_with (first
            | (go_at_call 38; refine (oRShort_any _ _ _ F _ (hP.out.keep ((Chg.refl [] _).drew) (fun _ _ => by simp)) hlen).mono ?_
               rintro e w1' ⟨a1, n1, c1, rfl, ho1, hc1', F1, h1', hf1'⟩
               have h1 := hid h1'; have hc1 := hid hc1'; have hf1 := hid hf1'; clear h1' hc1' hf1'
               have HO1 := hid ho1
               have hcv1 := run_bytes_str (P := Try.prog) (RdB.of_own ho1) c1 27 9 5 Try.underlying27 Try.underlying5 Try.underlying9
               clear ho1
               have hQ1 := hid ((hQ.out.keep ((Chg.refl [] _).drew) (fun _ _ => by simp)).keep hc1.out hd.out.symm))
            | (go_at_call 39; refine (rRShort_any _ _ _ G _ hQ1.out hlen).mono ?_
               rintro e w2' ⟨a2, n2, c2, rfl, ho2, hc2', G1, h2', hf2'⟩
               have h2 := hid h2'; have hc2 := hid hc2'; have hf2 := hid hf2'; clear h2' hc2' hf2'
               have hcv2 := run_bytes_str (P := Try.prog) (RdB.of_own ho2) c2 27 9 5 Try.underlying27 Try.underlying5 Try.underlying9
               have hcv12 := run_bytes_str (P := Try.prog) (RdB.of_own (hc2.out.owns HO1.out (fun k hk hm => by have h5 := (HO1.out.lt k hk).1; have h6 := hGl.out k hm; simp at h5; omega))) c1 27 9 5 Try.underlying27 Try.underlying5 Try.underlying9
               clear ho2))
          all_goals
            have HLL := hid (show (shortRest l' lack).length ≤ 140737488355328 from Nat.le_trans (short_len _ _) hlen)
            obtain ⟨htwo2, hbel2⟩ := TwoR.step (hQ.out.keep ((Chg.refl [] _).drew) (fun _ _ => by simp)) hd.out hF.out hG.out hB hc1.out h1.out hf1.out hc2.out h2.out hf2.out
            have HBE2 := hid (HBE.out.drew.trans hbel2)
            have HTW2 := hid htwo2
            clear hP hQ hc1 h1 hf1 hc2 h2 hf2 htwo2 hbel2 HTW HBE hd hF hG hFl hGl
            generalize hL : shortRest l' lack = L at *
            generalize hK : shortLack l' lack = K at *
            clear hL hK
            obtain ⟨F, G, hP, hQ, hd, hF, hG, hB2⟩ := HTW2.out
            obtain ⟨ar, mr, cr, hm, hk1, hk2, hk3, hk4, hk5, hk6⟩ := hQ
            have hcq0 : w2'.cell? ⟨q, 0, none⟩ = some (.slice ar mr cr) := cell_of_block hk1 rfl
            have hcq1 : w2'.cell? ⟨q, 1, none⟩ = some (.bool K) := cell_of_block hk1 rfl
            have hne : ((L.length : Int) != (mr : Int)) = false := by simp; omega
            have hP' := hid hP
            clear hm hk1 hk2 hk3 hk4 hk5 hk6 hd hF hG hB2 hP
            go_wp2_with fail
            go_quiet ((first | (go_at_call 27; refine quiet_pure (oLack_any _ _ _ F _ (hP'.out.keep (Chg.drewN (Chg.refl [] _) _) (fun _ _ => by simp)))) | (go_at_call 28; refine quiet_pure (oLeft_any _ _ _ F _ (hP'.out.keep (Chg.drewN (Chg.refl [] _) _) (fun _ _ => by simp))))))
            go_wp2_with fail
            go_roundw
            case rel =>
              first
                | exact ⟨k + 1, L, K, by omega, by omega, by go_num, HTW2.out.keep ((Chg.refl [] _).drewN _), HBE2.out.trans ((Chg.drewN (Chg.refl [] _) _).below (by simp) HBE2.out.size), HLL.out⟩
                | exact ⟨_, ⟨k + 1, L, K, by omega, by omega, by go_num, HTW2.out.keep ((Chg.refl [] _).drewN _), HBE2.out.trans ((Chg.drewN (Chg.refl [] _) _).below (by simp) HBE2.out.size), HLL.out⟩, rfl⟩
            case measure => simp [intOf]; omega
      · go_wp2_with fail
        go_ret
        exact ⟨rfl, HBE.out⟩
    · go_wp2_with fail
      go_ret
      exact ⟨rfl, HBE.out⟩
end Go.Proofs.Ytlamooiocmhikaa
