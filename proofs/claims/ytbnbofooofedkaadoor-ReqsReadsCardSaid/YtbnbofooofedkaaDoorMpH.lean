/- locksmithhand.Payload: arms of its switch. -/
import Derived.Test.YtbnbofooofedkaaDoorMb
namespace Go.Proofs.YtbnbofooofedkaaDoor
section
open Go.RowKit
set_option linter.unusedVariables false
set_option linter.unusedSimpArgs false
set_option maxRecDepth 1000000
set_option maxHeartbeats 16000000
theorem pay_8 {x : AskD} {w W : World} {b p pr m c : Nat} {r : RawD} (aA aH aI aJ aK aL aM aN aO aP aQ aR aS aT aU aV aW aX aY aZ bA bB bC bD bE bF bG bH bI bJ bK bL bM bN bO bP bQ bR bS bT bU bV bW bX bY bZ cA cB cC cD cE cF cG cI cJ cK cL cM cN cO cP cQ cR cS cT cU cV cW cX cY cZ dA dB dC dD dE dF dG dH dI dJ dK dL dM dN dO dP dQ dR dS dT dU dV dW dX dY dZ eA eB eC eD eE eF eG eH eI eJ eK eL eM eN eO eP eQ eR eS eT eU eV eW eX eY eZ fA fB fC fD fE fF fG fH fI fJ fK fL fM fN fO fP fQ fR fS fT fU fV fW fX fY fZ gA gB gC gD gE gF gG gH gI gJ gK gL gM gN gO gP gQ gR gS gT gU gV gW gX gY gZ iA iB iC iD iE iF iG iH iI iJ iK iL iM iN iO iP iQ iR iS iT iU iV iW iX iY iZ jA jB jC jD jE jF jG jH jI jJ jK jL jM jN jO jP jQ jR jS jT jU jV jW jX jY jZ kA kB kC kD kE kF kG kH kI kJ kK kL kM kN kO kP kQ kR kS kT kU kV kW kX kY kZ lA lB lC lD lE lF lG lH lI lJ lK lL lM lN lO lP lQ lR lS lT lU lV lW lX lY lZ mA mB mC mD mE mF mG mH mI mJ mK mL mM mN mO mP mQ mR mS mT mU mV mW mX mY mZ nA nB nC nD nE nF nG nH nI nJ nK nL nM nN nO nP nQ nR nS nT nU nV nW nX nY nZ oA oB oC oD oE oF oG oH oI oJ oK oL oM oN oO oP oQ oR oS oT oU oV oW oX oY oZ pA pB pC pD pE pF pG pH pI pJ pK pL pM pN pO pP pQ pR pS pT pU pV pW pX : Value) (J K' : Act → World → Prop) (Q' : Exit → Act → World → Prop)
  (P : Hid (PS x w b p m c W)) (HM : Hid (m ≤ 1)) (HRB : Hid (W.heap[pr]? = some (.cells r.cells 75 (0, 0)))) (HRK : Hid r.ok) (HX : Hid (x.ok w)) (HT : Hid (NamesTab w))
  (h1 : ∀ a' w', (∃ aH aI aJ aK aL cI cJ cK cL cM cN cO cP cQ cR cS cT cU cV cW cX cY cZ dA dB dC dD dE dF dG dH dI dJ dK dL dM dN dO dP dQ dR dS dT dU dV dW dX dY dZ eA eB eC eD eE eF eG eH eI eJ eK eL eM eN eO eP eQ eR eS eT eU eV eW eX eY eZ fA fB fC fD fE fF fG fH fI fJ fK fL fM fN fO fP fQ fR fS fT fU fV fW fX fY fZ gA gB gC gD gE gF gG gH gI gJ gK gL gM gN gO gP gQ gR gS gT gU gV gW gX gY gZ iA iB iC iD iE iF iG iH iI iJ iK iL iM iN iO iP iQ iR iS iT iU iV iW iX iY iZ jA jB jC jD jE jF jG jH jI jJ jK jL jM jN jO jP jQ jR jS jT jU jV jW jX jY jZ kA kB kC kD kE kF kG kH kI kJ kK kL kM kN kO kP kQ kR kS kT kU kV kW kX kY kZ lA lB lC lD lE lF lG lH lI lJ lK lL lM lN lO lP lQ lR lS lT lU lV lW lX lY lZ mA mB mC mD mE mF mG mH mI mJ mK mL mM mN mO mP mQ mR mS mT mU mV mW mX mY mZ nA nB nC nD nE nF nG nH nI nJ nK nL nM nN nO nP nQ nR nS nT nU nV nW nX nY nZ oA oB oC oD oE oF oG oH oI oJ oK oL oM oN oO oP oQ oR oS oT oU oV oW oX oY oZ pA pB : Value, (∃ m c, m ≤ 11 ∧ PS x w b p m c w') ∧ a' = ⟨#[aA, .pointer (some ⟨b, 0, none⟩), .pointer (some ⟨b + 1, 0, none⟩), .pointer (some ⟨p, 0, none⟩), .func (.func 49) #[] #[.pointer (some ⟨p, 0, none⟩)], .int .i64 8, .pointer (some ⟨pr, 0, none⟩), aH, aI, aJ, aK, aL, aM, aN, aO, aP, aQ, aR, aS, aT, aU, aV, aW, aX, aY, aZ, bA, bB, bC, bD, bE, bF, bG, bH, bI, bJ, bK, bL, bM, bN, bO, bP, bQ, bR, bS, bT, bU, bV, bW, bX, bY, bZ, cA, cB, cC, cD, cE, cF, cG, .int .i64 8, cI, cJ, cK, cL, cM, cN, cO, cP, cQ, cR, cS, cT, cU, cV, cW, cX, cY, cZ, dA, dB, dC, dD, dE, dF, dG, dH, dI, dJ, dK, dL, dM, dN, dO, dP, dQ, dR, dS, dT, dU, dV, dW, dX, dY, dZ, eA, eB, eC, eD, eE, eF, eG, eH, eI, eJ, eK, eL, eM, eN, eO, eP, eQ, eR, eS, eT, eU, eV, eW, eX, eY, eZ, fA, fB, fC, fD, fE, fF, fG, fH, fI, fJ, fK, fL, fM, fN, fO, fP, fQ, fR, fS, fT, fU, fV, fW, fX, fY, fZ, gA, gB, gC, gD, gE, gF, gG, gH, gI, gJ, gK, gL, gM, gN, gO, gP, gQ, gR, gS, gT, gU, gV, gW, gX, gY, gZ, iA, iB, iC, iD, iE, iF, iG, iH, iI, iJ, iK, iL, iM, iN, iO, iP, iQ, iR, iS, iT, iU, iV, iW, iX, iY, iZ, jA, jB, jC, jD, jE, jF, jG, jH, jI, jJ, jK, jL, jM, jN, jO, jP, jQ, jR, jS, jT, jU, jV, jW, jX, jY, jZ, kA, kB, kC, kD, kE, kF, kG, kH, kI, kJ, kK, kL, kM, kN, kO, kP, kQ, kR, kS, kT, kU, kV, kW, kX, kY, kZ, lA, lB, lC, lD, lE, lF, lG, lH, lI, lJ, lK, lL, lM, lN, lO, lP, lQ, lR, lS, lT, lU, lV, lW, lX, lY, lZ, mA, mB, mC, mD, mE, mF, mG, mH, mI, mJ, mK, mL, mM, mN, mO, mP, mQ, mR, mS, mT, mU, mV, mW, mX, mY, mZ, nA, nB, nC, nD, nE, nF, nG, nH, nI, nJ, nK, nL, nM, nN, nO, nP, nQ, nR, nS, nT, nU, nV, nW, nX, nY, nZ, oA, oB, oC, oD, oE, oF, oG, oH, oI, oJ, oK, oL, oM, oN, oO, oP, oQ, oR, oS, oT, oU, oV, oW, oX, oY, oZ, pA, pB, pC, pD, pE, pF, pG, pH, pI, pJ, pK, pL, pM, pN, pO, pP, pQ, pR, pS, pT, pU, pV, pW, pX], []⟩) → J a' w') (h2 : ∀ a' w', Met J a' w' → K' a' w') :
  Code.wp Tryd.prog paySw (Exit.then K' Q') ⟨#[aA, .pointer (some ⟨b, 0, none⟩), .pointer (some ⟨b + 1, 0, none⟩), .pointer (some ⟨p, 0, none⟩), .func (.func 49) #[] #[.pointer (some ⟨p, 0, none⟩)], .int .i64 8, .pointer (some ⟨pr, 0, none⟩), aH, aI, aJ, aK, aL, aM, aN, aO, aP, aQ, aR, aS, aT, aU, aV, aW, aX, aY, aZ, bA, bB, bC, bD, bE, bF, bG, bH, bI, bJ, bK, bL, bM, bN, bO, bP, bQ, bR, bS, bT, bU, bV, bW, bX, bY, bZ, cA, cB, cC, cD, cE, cF, cG, .int .i64 8, cI, cJ, cK, cL, cM, cN, cO, cP, cQ, cR, cS, cT, cU, cV, cW, cX, cY, cZ, dA, dB, dC, dD, dE, dF, dG, dH, dI, dJ, dK, dL, dM, dN, dO, dP, dQ, dR, dS, dT, dU, dV, dW, dX, dY, dZ, eA, eB, eC, eD, eE, eF, eG, eH, eI, eJ, eK, eL, eM, eN, eO, eP, eQ, eR, eS, eT, eU, eV, eW, eX, eY, eZ, fA, fB, fC, fD, fE, fF, fG, fH, fI, fJ, fK, fL, fM, fN, fO, fP, fQ, fR, fS, fT, fU, fV, fW, fX, fY, fZ, gA, gB, gC, gD, gE, gF, gG, gH, gI, gJ, gK, gL, gM, gN, gO, gP, gQ, gR, gS, gT, gU, gV, gW, gX, gY, gZ, iA, iB, iC, iD, iE, iF, iG, iH, iI, iJ, iK, iL, iM, iN, iO, iP, iQ, iR, iS, iT, iU, iV, iW, iX, iY, iZ, jA, jB, jC, jD, jE, jF, jG, jH, jI, jJ, jK, jL, jM, jN, jO, jP, jQ, jR, jS, jT, jU, jV, jW, jX, jY, jZ, kA, kB, kC, kD, kE, kF, kG, kH, kI, kJ, kK, kL, kM, kN, kO, kP, kQ, kR, kS, kT, kU, kV, kW, kX, kY, kZ, lA, lB, lC, lD, lE, lF, lG, lH, lI, lJ, lK, lL, lM, lN, lO, lP, lQ, lR, lS, lT, lU, lV, lW, lX, lY, lZ, mA, mB, mC, mD, mE, mF, mG, mH, mI, mJ, mK, mL, mM, mN, mO, mP, mQ, mR, mS, mT, mU, mV, mW, mX, mY, mZ, nA, nB, nC, nD, nE, nF, nG, nH, nI, nJ, nK, nL, nM, nN, nO, nP, nQ, nR, nS, nT, nU, nV, nW, nX, nY, nZ, oA, oB, oC, oD, oE, oF, oG, oH, oI, oJ, oK, oL, oM, oN, oO, oP, oQ, oR, oS, oT, oU, oV, oW, oX, oY, oZ, pA, pB, pC, pD, pE, pF, pG, pH, pI, pJ, pK, pL, pM, pN, pO, pP, pQ, pR, pS, pT, pU, pV, pW, pX], []⟩ W := by
 obtain ⟨i, hi, hz0, hz1, hz2⟩ := info_parts iInfo
 have hm1 : m ≤ 1 := HM.out
 conv => arg 2; whnf
 have P2 := hid P.out.mark; clear P; have P := P2; clear P2
 have x0 := P.out.cx 0 (v := .int .i64 x.op) rfl
 have x1 := P.out.cx 1 (v := .int .i64 x.a) rfl
 have x2 := P.out.cx 2 (v := .int .i64 x.b) rfl
 have x3 := P.out.cx 3 (v := .int .i64 x.c) rfl
 have x4 := P.out.cx 4 (v := .slice x.la x.ln x.lc) rfl
 have x5 := P.out.cx 5 (v := .slice x.ba x.bn x.bc) rfl
 have hwq : IntKind.i64.wrap (x.a.tmod 3) = x.a.tmod 3 := wrap_tmod (by omega) (by omega)
 by_cases hcq : x.a.tmod 3 = 0
 ·have hdq : (x.a.tmod 3 == 0) = true := by simpa using hcq
  go_wp2_with fail
  refine (pick_any x.a 5 _ (by omega) (by omega)).mono ?_
  rintro e u ⟨rfl, rfl⟩
  dsimp only
  go_wp2_with fail
  refine (handNum_any _ _ _ _).mono ?_
  rintro e w5 ⟨rfl, hb5⟩
  dsimp only
  clear x0 x1 x2 x3 x4 x5
  have P2 := hid (P.out.grow hb5); have R2 := hid ((hb5.block _ (block_lt HRB.out)).trans HRB.out); clear hb5 P HRB; have P := P2; have HRB := R2; clear P2 R2
  go_wp2_with fail
  refine (P.out.add (numV_ok _ _ _ _) (numV_foot _) (by simp) (numV_nz _ _ _) (by omega) HRB.out).mono ?_
  rintro e w6 ⟨rfl, hp6, hr6⟩
  dsimp only
  clear P HRB
  have P := hid hp6; have HRB := hid hr6; clear hp6 hr6
  have x0 := P.out.cx 0 (v := .int .i64 x.op) rfl
  have x1 := P.out.cx 1 (v := .int .i64 x.a) rfl
  have x2 := P.out.cx 2 (v := .int .i64 x.b) rfl
  have x3 := P.out.cx 3 (v := .int .i64 x.c) rfl
  have x4 := P.out.cx 4 (v := .slice x.la x.ln x.lc) rfl
  have x5 := P.out.cx 5 (v := .slice x.ba x.bn x.bc) rfl
  go_wp2_with fail
  go_loopw [9] (fun u wr => ∃ (k m c : Nat), k ≤ x.ln ∧ k ≤ 2 ∧ m ≤ 2 + k ∧ u = .int .i64 (k : Int) ∧ PS x w b p m c wr ∧ wr.heap[pr]? = some (.cells r.cells 75 (0, 0))) (fun u _ => 2 - (intOf u).toNat)
  case atStart => exact ⟨0, _, _, Nat.zero_le _, Nat.zero_le _, by omega, rfl, P.out, HRB.out⟩
  case round =>
   clear P HRB
   obtain ⟨k, m, c, hkn, hk2, hmk, rfl, hp, hr⟩ := hrel
   have P := hid hp; have HRB := hid hr
   clear hp hr
   have hnl := (argSl_len (HX.out.below P.out.old).l).2
   have P2 := hid P.out.mark; clear P; have P := P2; clear P2
   have x0 := P.out.cx 0 (v := .int .i64 x.op) rfl
   have x1 := P.out.cx 1 (v := .int .i64 x.a) rfl
   have x2 := P.out.cx 2 (v := .int .i64 x.b) rfl
   have x3 := P.out.cx 3 (v := .int .i64 x.c) rfl
   have x4 := P.out.cx 4 (v := .slice x.la x.ln x.lc) rfl
   have x5 := P.out.cx 5 (v := .slice x.ba x.bn x.bc) rfl
   by_cases hlt : k < x.ln
   ·by_cases hlt2 : k < 2
    ·have hwz : IntKind.i64.wrap (x.b.tmod 3) = x.b.tmod 3 := wrap_tmod (by omega) (by omega)
     by_cases hcz : 0 < x.b.tmod 3
     ·obtain ⟨bq, oq, y, hay, hy, hyok, c0, c1, c2, c3⟩ := raw_get (HX.out.below P.out.old).l hlt
      rw [hay] at x4
      clear hay hy
      have HYOK := hid hyok; clear hyok
      have HRG := hid (raw_range c0 c1 c2 c3)
      clear c0 c1 c2 c3
      go_upto_region 36 with (fail)
      go_upto_region 37 with (first | (refine wpList_load_mid rfl 75 _ rfl bq (oq + k * 4) rfl y.cells.toList _ HRG.out Tryd.underlying75 rfl rawSz ?_; simp only [Array.toArray_toList]) | (refine wpList_alloc_obj rfl 75 rfl _ rawZero ?_) | (refine wpList_store_obj rfl 75 _ _ rfl wr.heap.size rfl y.cells rfl _ _ (block_new wr _) rfl rawSz (raw_one y) ?_; intro w2 hb2 hc2 hs2; have HY := hid hb2; have HC2 := hid hc2; clear hb2 hc2 hs2))
      have y2 := cell_of_block (j := 2) (v := .int .i64 y.b) HY.out rfl
      have hfz : ∀ j, w2.frozen? ⟨wr.heap.size, j, none⟩ = false := fun j => frozen_of_block HY.out
      go_upto_region 38 with (fail)
      clear y2 hfz
      have hb2 : Below wr.heap.size wr (w2.setCell ⟨wr.heap.size, 2, none⟩ (.int .i64 1)) := (((Below.refl _ wr).alloc (Nat.le_refl _) _).trans (HC2.out.below (fun k hk => by rw [List.mem_singleton.1 hk]; exact Nat.le_refl _) (by simp))).setCell (Nat.le_refl _) _
      have HY3 : Hid ((w2.setCell ⟨wr.heap.size, 2, none⟩ (.int .i64 1)).heap[wr.heap.size]? = some (.cells (RawD.cells { y with b := 1 }) 75 (0, 0))) := block_setCell HY.out _
      have HY4 : Hid (RawD.ok { y with b := 1 }) := ⟨HYOK.out.1, HYOK.out.2.1, ⟨by simp, by simp⟩, HYOK.out.2.2.2⟩
      clear HC2 HRG HY
      clear x0 x1 x2 x3 x4 x5
      have P2 := hid (P.out.grow hb2); have R2 := hid ((hb2.block _ (block_lt HRB.out)).trans HRB.out); clear hb2 P HRB; have P := P2; have HRB := R2; clear P2 R2
      generalize w2.setCell ⟨wr.heap.size, 2, none⟩ (.int .i64 1) = w3 at *
      generalize wr.heap.size = q at *
      obtain ⟨yy, hyy⟩ : ∃ yy : RawD, yy = { y with b := 1 } := ⟨_, rfl⟩
      rw [← hyy] at HY3 HY4
      clear hyy
      go_wp2_with (refine wpList_load_row rfl 75 _ rfl q rfl _ _ _ _ HY3.out Tryd.underlying75 rfl rawSzA ?_)
      refine (attr_any _ HY4.out _ (HT.out.below P.out.old)).mono ?_
      rintro e w4 ⟨nm, ix, v4, rfl, hn4, ho4, hz4, hf4, ht4, hb4⟩
      dsimp only
      have hf4' : ∀ k ∈ v4.foot, _ := fun k hk => Nat.le_trans P.out.lt.2.2 (hf4 k hk)
      clear hf4
      have P2 := hid (P.out.grow hb4); have R2 := hid ((hb4.block _ (block_lt HRB.out)).trans HRB.out); clear hb4 P HRB; have P := P2; have HRB := R2; clear P2 R2
      have HA1 := hid (And.intro hn4 (And.intro ho4 (And.intro hz4 (And.intro hf4' ht4))))
      clear hn4 ho4 hz4 hf4' ht4
      go_wp2_with fail
      refine (layA_any nm ix v4 _ _ (by have := HA1.out.1; omega) HA1.out.2.1 HA1.out.2.2.1 HA1.out.2.2.2.2 HA1.out.2.2.2.1 (fun k hk => Nat.le_trans P.out.lt.2.2 hk)).mono ?_
      rintro e w5 ⟨v, rfl, hvo, hvn, hvf, hvt, hb5⟩
      dsimp only
      clear HA1
      have P2 := hid (P.out.grow hb5); have R2 := hid ((hb5.block _ (block_lt HRB.out)).trans HRB.out); clear hb5 P HRB; have P := P2; have HRB := R2; clear P2 R2
      clear HY3 HY4
      have HVO := hid hvo; have HVF := hid hvf; have HVT := hid hvt; have HVN := hid hvn; clear hvo hvf hvt hvn
      go_wp2_with fail
      refine (P.out.add HVO.out HVF.out HVT.out HVN.out (by omega) HRB.out).mono ?_
      rintro e w6 ⟨rfl, hp6, hr6⟩
      dsimp only
      clear P HRB
      have P := hid hp6; have HRB := hid hr6; clear hp6 hr6
      clear HVO HVF HVT HVN
      go_wp2_with fail
      go_roundw
      case rel =>
       first
        | exact ⟨k + 1, _, _, by omega, by omega, by omega, rfl, P.out, HRB.out⟩
        | exact ⟨k + 1, _, _, by omega, by omega, by omega, by go_num, P.out, HRB.out⟩
      case measure => simp [intOf]; omega
     ·have hdz : ¬ (0 < x.b.tmod 3) := hcz
      go_wp2_with fail
      go_meet
      exact ⟨_, _, by omega, P.out⟩
    ·obtain rfl : k = 2 := by omega
     go_wp2_with fail
     go_meet
     exact ⟨_, _, by omega, P.out⟩
   ·obtain rfl : k = x.ln := by omega
    go_wp2_with fail
    go_meet
    exact ⟨_, _, by omega, P.out⟩
 ·have hdq : (x.a.tmod 3 == 0) = false := by simpa using hcq
  go_wp2_with fail
  go_loopw [9] (fun u wr => ∃ (k m c : Nat), k ≤ x.ln ∧ k ≤ 2 ∧ m ≤ 2 + k ∧ u = .int .i64 (k : Int) ∧ PS x w b p m c wr ∧ wr.heap[pr]? = some (.cells r.cells 75 (0, 0))) (fun u _ => 2 - (intOf u).toNat)
  case atStart => exact ⟨0, _, _, Nat.zero_le _, Nat.zero_le _, by omega, rfl, P.out, HRB.out⟩
  case round =>
   clear P HRB
   obtain ⟨k, m, c, hkn, hk2, hmk, rfl, hp, hr⟩ := hrel
   have P := hid hp; have HRB := hid hr
   clear hp hr
   have hnl := (argSl_len (HX.out.below P.out.old).l).2
   have P2 := hid P.out.mark; clear P; have P := P2; clear P2
   have x0 := P.out.cx 0 (v := .int .i64 x.op) rfl
   have x1 := P.out.cx 1 (v := .int .i64 x.a) rfl
   have x2 := P.out.cx 2 (v := .int .i64 x.b) rfl
   have x3 := P.out.cx 3 (v := .int .i64 x.c) rfl
   have x4 := P.out.cx 4 (v := .slice x.la x.ln x.lc) rfl
   have x5 := P.out.cx 5 (v := .slice x.ba x.bn x.bc) rfl
   by_cases hlt : k < x.ln
   ·by_cases hlt2 : k < 2
    ·have hwz : IntKind.i64.wrap (x.b.tmod 3) = x.b.tmod 3 := wrap_tmod (by omega) (by omega)
     by_cases hcz : 0 < x.b.tmod 3
     ·obtain ⟨bq, oq, y, hay, hy, hyok, c0, c1, c2, c3⟩ := raw_get (HX.out.below P.out.old).l hlt
      rw [hay] at x4
      clear hay hy
      have HYOK := hid hyok; clear hyok
      have HRG := hid (raw_range c0 c1 c2 c3)
      clear c0 c1 c2 c3
      go_upto_region 36 with (fail)
      go_upto_region 37 with (first | (refine wpList_load_mid rfl 75 _ rfl bq (oq + k * 4) rfl y.cells.toList _ HRG.out Tryd.underlying75 rfl rawSz ?_; simp only [Array.toArray_toList]) | (refine wpList_alloc_obj rfl 75 rfl _ rawZero ?_) | (refine wpList_store_obj rfl 75 _ _ rfl wr.heap.size rfl y.cells rfl _ _ (block_new wr _) rfl rawSz (raw_one y) ?_; intro w2 hb2 hc2 hs2; have HY := hid hb2; have HC2 := hid hc2; clear hb2 hc2 hs2))
      have y2 := cell_of_block (j := 2) (v := .int .i64 y.b) HY.out rfl
      have hfz : ∀ j, w2.frozen? ⟨wr.heap.size, j, none⟩ = false := fun j => frozen_of_block HY.out
      go_upto_region 38 with (fail)
      clear y2 hfz
      have hb2 : Below wr.heap.size wr (w2.setCell ⟨wr.heap.size, 2, none⟩ (.int .i64 1)) := (((Below.refl _ wr).alloc (Nat.le_refl _) _).trans (HC2.out.below (fun k hk => by rw [List.mem_singleton.1 hk]; exact Nat.le_refl _) (by simp))).setCell (Nat.le_refl _) _
      have HY3 : Hid ((w2.setCell ⟨wr.heap.size, 2, none⟩ (.int .i64 1)).heap[wr.heap.size]? = some (.cells (RawD.cells { y with b := 1 }) 75 (0, 0))) := block_setCell HY.out _
      have HY4 : Hid (RawD.ok { y with b := 1 }) := ⟨HYOK.out.1, HYOK.out.2.1, ⟨by simp, by simp⟩, HYOK.out.2.2.2⟩
      clear HC2 HRG HY
      clear x0 x1 x2 x3 x4 x5
      have P2 := hid (P.out.grow hb2); have R2 := hid ((hb2.block _ (block_lt HRB.out)).trans HRB.out); clear hb2 P HRB; have P := P2; have HRB := R2; clear P2 R2
      generalize w2.setCell ⟨wr.heap.size, 2, none⟩ (.int .i64 1) = w3 at *
      generalize wr.heap.size = q at *
      obtain ⟨yy, hyy⟩ : ∃ yy : RawD, yy = { y with b := 1 } := ⟨_, rfl⟩
      rw [← hyy] at HY3 HY4
      clear hyy
      go_wp2_with (refine wpList_load_row rfl 75 _ rfl q rfl _ _ _ _ HY3.out Tryd.underlying75 rfl rawSzA ?_)
      refine (attr_any _ HY4.out _ (HT.out.below P.out.old)).mono ?_
      rintro e w4 ⟨nm, ix, v4, rfl, hn4, ho4, hz4, hf4, ht4, hb4⟩
      dsimp only
      have hf4' : ∀ k ∈ v4.foot, _ := fun k hk => Nat.le_trans P.out.lt.2.2 (hf4 k hk)
      clear hf4
      have P2 := hid (P.out.grow hb4); have R2 := hid ((hb4.block _ (block_lt HRB.out)).trans HRB.out); clear hb4 P HRB; have P := P2; have HRB := R2; clear P2 R2
      have HA1 := hid (And.intro hn4 (And.intro ho4 (And.intro hz4 (And.intro hf4' ht4))))
      clear hn4 ho4 hz4 hf4' ht4
      go_wp2_with fail
      refine (layA_any nm ix v4 _ _ (by have := HA1.out.1; omega) HA1.out.2.1 HA1.out.2.2.1 HA1.out.2.2.2.2 HA1.out.2.2.2.1 (fun k hk => Nat.le_trans P.out.lt.2.2 hk)).mono ?_
      rintro e w5 ⟨v, rfl, hvo, hvn, hvf, hvt, hb5⟩
      dsimp only
      clear HA1
      have P2 := hid (P.out.grow hb5); have R2 := hid ((hb5.block _ (block_lt HRB.out)).trans HRB.out); clear hb5 P HRB; have P := P2; have HRB := R2; clear P2 R2
      clear HY3 HY4
      have HVO := hid hvo; have HVF := hid hvf; have HVT := hid hvt; have HVN := hid hvn; clear hvo hvf hvt hvn
      go_wp2_with fail
      refine (P.out.add HVO.out HVF.out HVT.out HVN.out (by omega) HRB.out).mono ?_
      rintro e w6 ⟨rfl, hp6, hr6⟩
      dsimp only
      clear P HRB
      have P := hid hp6; have HRB := hid hr6; clear hp6 hr6
      clear HVO HVF HVT HVN
      go_wp2_with fail
      go_roundw
      case rel =>
       first
        | exact ⟨k + 1, _, _, by omega, by omega, by omega, rfl, P.out, HRB.out⟩
        | exact ⟨k + 1, _, _, by omega, by omega, by omega, by go_num, P.out, HRB.out⟩
      case measure => simp [intOf]; omega
     ·have hdz : ¬ (0 < x.b.tmod 3) := hcz
      go_wp2_with fail
      go_meet
      exact ⟨_, _, by omega, P.out⟩
    ·obtain rfl : k = 2 := by omega
     go_wp2_with fail
     go_meet
     exact ⟨_, _, by omega, P.out⟩
   ·obtain rfl : k = x.ln := by omega
    go_wp2_with fail
    go_meet
    exact ⟨_, _, by omega, P.out⟩
end
end Go.Proofs.YtbnbofooofedkaaDoor
