/- locksmithhand.Payload: arms of its switch. -/
import Derived.Test.YtbnbofooofedkaaDoorMb
namespace Go.Proofs.YtbnbofooofedkaaDoor
section
open Go.RowKit
set_option linter.unusedVariables false
set_option linter.unusedSimpArgs false
set_option maxRecDepth 1000000
set_option maxHeartbeats 16000000
theorem pay_4 {x : AskD} {w W : World} {b p pr m c : Nat} {r : RawD} (aA aH aI aJ aK aL aM aN aO aP aQ aR aS aT aU aV aW aX aY aZ bA bB bC bD bE bF bG bH bI bJ bK bL bM bN bO bP bQ bR bS bT bU bV bW bX bY bZ cA cB cC cD cE cF cG cI cJ cK cL cM cN cO cP cQ cR cS cT cU cV cW cX cY cZ dA dB dC dD dE dF dG dH dI dJ dK dL dM dN dO dP dQ dR dS dT dU dV dW dX dY dZ eA eB eC eD eE eF eG eH eI eJ eK eL eM eN eO eP eQ eR eS eT eU eV eW eX eY eZ fA fB fC fD fE fF fG fH fI fJ fK fL fM fN fO fP fQ fR fS fT fU fV fW fX fY fZ gA gB gC gD gE gF gG gH gI gJ gK gL gM gN gO gP gQ gR gS gT gU gV gW gX gY gZ iA iB iC iD iE iF iG iH iI iJ iK iL iM iN iO iP iQ iR iS iT iU iV iW iX iY iZ jA jB jC jD jE jF jG jH jI jJ jK jL jM jN jO jP jQ jR jS jT jU jV jW jX jY jZ kA kB kC kD kE kF kG kH kI kJ kK kL kM kN kO kP kQ kR kS kT kU kV kW kX kY kZ lA lB lC lD lE lF lG lH lI lJ lK lL lM lN lO lP lQ lR lS lT lU lV lW lX lY lZ mA mB mC mD mE mF mG mH mI mJ mK mL mM mN mO mP mQ mR mS mT mU mV mW mX mY mZ nA nB nC nD nE nF nG nH nI nJ nK nL nM nN nO nP nQ nR nS nT nU nV nW nX nY nZ oA oB oC oD oE oF oG oH oI oJ oK oL oM oN oO oP oQ oR oS oT oU oV oW oX oY oZ pA pB pC pD pE pF pG pH pI pJ pK pL pM pN pO pP pQ pR pS pT pU pV pW pX : Value) (J K' : Act → World → Prop) (Q' : Exit → Act → World → Prop)
  (P : Hid (PS x w b p m c W)) (HM : Hid (m ≤ 1)) (HRB : Hid (W.heap[pr]? = some (.cells r.cells 75 (0, 0)))) (HRK : Hid r.ok) (HX : Hid (x.ok w)) (HT : Hid (NamesTab w))
  (h1 : ∀ a' w', (∃ aH aI aJ aK aL cI cJ cK cL cM cN cO cP cQ cR cS cT cU cV cW cX cY cZ dA dB dC dD dE dF dG dH dI dJ dK dL dM dN dO dP dQ dR dS dT dU dV dW dX dY dZ eA eB eC eD eE eF eG eH eI eJ eK eL eM eN eO eP eQ eR eS eT eU eV eW eX eY eZ fA fB fC fD fE fF fG fH fI fJ fK fL fM fN fO fP fQ fR fS fT fU fV fW fX fY fZ gA gB gC gD gE gF gG gH gI gJ gK gL gM gN gO gP gQ gR gS gT gU gV gW gX gY gZ iA iB iC iD iE iF iG iH iI iJ iK iL iM iN iO iP iQ iR iS iT iU iV iW iX iY iZ jA jB jC jD jE jF jG jH jI jJ jK jL jM jN jO jP jQ jR jS jT jU jV jW jX jY jZ kA kB kC kD kE kF kG kH kI kJ kK kL kM kN kO kP kQ kR kS kT kU kV kW kX kY kZ lA lB lC lD lE lF lG lH lI lJ lK lL lM lN lO lP lQ lR lS lT lU lV lW lX lY lZ mA mB mC mD mE mF mG mH mI mJ mK mL mM mN mO mP mQ mR mS mT mU mV mW mX mY mZ nA nB nC nD nE nF nG nH nI nJ nK nL nM nN nO nP nQ nR nS nT nU nV nW nX nY nZ oA oB oC oD oE oF oG oH oI oJ oK oL oM oN oO oP oQ oR oS oT oU oV oW oX oY oZ pA pB : Value, (∃ m c, m ≤ 11 ∧ PS x w b p m c w') ∧ a' = ⟨#[aA, .pointer (some ⟨b, 0, none⟩), .pointer (some ⟨b + 1, 0, none⟩), .pointer (some ⟨p, 0, none⟩), .func (.func 49) #[] #[.pointer (some ⟨p, 0, none⟩)], .int .i64 4, .pointer (some ⟨pr, 0, none⟩), aH, aI, aJ, aK, aL, aM, aN, aO, aP, aQ, aR, aS, aT, aU, aV, aW, aX, aY, aZ, bA, bB, bC, bD, bE, bF, bG, bH, bI, bJ, bK, bL, bM, bN, bO, bP, bQ, bR, bS, bT, bU, bV, bW, bX, bY, bZ, cA, cB, cC, cD, cE, cF, cG, .int .i64 4, cI, cJ, cK, cL, cM, cN, cO, cP, cQ, cR, cS, cT, cU, cV, cW, cX, cY, cZ, dA, dB, dC, dD, dE, dF, dG, dH, dI, dJ, dK, dL, dM, dN, dO, dP, dQ, dR, dS, dT, dU, dV, dW, dX, dY, dZ, eA, eB, eC, eD, eE, eF, eG, eH, eI, eJ, eK, eL, eM, eN, eO, eP, eQ, eR, eS, eT, eU, eV, eW, eX, eY, eZ, fA, fB, fC, fD, fE, fF, fG, fH, fI, fJ, fK, fL, fM, fN, fO, fP, fQ, fR, fS, fT, fU, fV, fW, fX, fY, fZ, gA, gB, gC, gD, gE, gF, gG, gH, gI, gJ, gK, gL, gM, gN, gO, gP, gQ, gR, gS, gT, gU, gV, gW, gX, gY, gZ, iA, iB, iC, iD, iE, iF, iG, iH, iI, iJ, iK, iL, iM, iN, iO, iP, iQ, iR, iS, iT, iU, iV, iW, iX, iY, iZ, jA, jB, jC, jD, jE, jF, jG, jH, jI, jJ, jK, jL, jM, jN, jO, jP, jQ, jR, jS, jT, jU, jV, jW, jX, jY, jZ, kA, kB, kC, kD, kE, kF, kG, kH, kI, kJ, kK, kL, kM, kN, kO, kP, kQ, kR, kS, kT, kU, kV, kW, kX, kY, kZ, lA, lB, lC, lD, lE, lF, lG, lH, lI, lJ, lK, lL, lM, lN, lO, lP, lQ, lR, lS, lT, lU, lV, lW, lX, lY, lZ, mA, mB, mC, mD, mE, mF, mG, mH, mI, mJ, mK, mL, mM, mN, mO, mP, mQ, mR, mS, mT, mU, mV, mW, mX, mY, mZ, nA, nB, nC, nD, nE, nF, nG, nH, nI, nJ, nK, nL, nM, nN, nO, nP, nQ, nR, nS, nT, nU, nV, nW, nX, nY, nZ, oA, oB, oC, oD, oE, oF, oG, oH, oI, oJ, oK, oL, oM, oN, oO, oP, oQ, oR, oS, oT, oU, oV, oW, oX, oY, oZ, pA, pB, pC, pD, pE, pF, pG, pH, pI, pJ, pK, pL, pM, pN, pO, pP, pQ, pR, pS, pT, pU, pV, pW, pX], []⟩) → J a' w') (h2 : ∀ a' w', Met J a' w' → K' a' w') :
  Code.wp Tryd.prog paySw (Exit.then K' Q') ⟨#[aA, .pointer (some ⟨b, 0, none⟩), .pointer (some ⟨b + 1, 0, none⟩), .pointer (some ⟨p, 0, none⟩), .func (.func 49) #[] #[.pointer (some ⟨p, 0, none⟩)], .int .i64 4, .pointer (some ⟨pr, 0, none⟩), aH, aI, aJ, aK, aL, aM, aN, aO, aP, aQ, aR, aS, aT, aU, aV, aW, aX, aY, aZ, bA, bB, bC, bD, bE, bF, bG, bH, bI, bJ, bK, bL, bM, bN, bO, bP, bQ, bR, bS, bT, bU, bV, bW, bX, bY, bZ, cA, cB, cC, cD, cE, cF, cG, .int .i64 4, cI, cJ, cK, cL, cM, cN, cO, cP, cQ, cR, cS, cT, cU, cV, cW, cX, cY, cZ, dA, dB, dC, dD, dE, dF, dG, dH, dI, dJ, dK, dL, dM, dN, dO, dP, dQ, dR, dS, dT, dU, dV, dW, dX, dY, dZ, eA, eB, eC, eD, eE, eF, eG, eH, eI, eJ, eK, eL, eM, eN, eO, eP, eQ, eR, eS, eT, eU, eV, eW, eX, eY, eZ, fA, fB, fC, fD, fE, fF, fG, fH, fI, fJ, fK, fL, fM, fN, fO, fP, fQ, fR, fS, fT, fU, fV, fW, fX, fY, fZ, gA, gB, gC, gD, gE, gF, gG, gH, gI, gJ, gK, gL, gM, gN, gO, gP, gQ, gR, gS, gT, gU, gV, gW, gX, gY, gZ, iA, iB, iC, iD, iE, iF, iG, iH, iI, iJ, iK, iL, iM, iN, iO, iP, iQ, iR, iS, iT, iU, iV, iW, iX, iY, iZ, jA, jB, jC, jD, jE, jF, jG, jH, jI, jJ, jK, jL, jM, jN, jO, jP, jQ, jR, jS, jT, jU, jV, jW, jX, jY, jZ, kA, kB, kC, kD, kE, kF, kG, kH, kI, kJ, kK, kL, kM, kN, kO, kP, kQ, kR, kS, kT, kU, kV, kW, kX, kY, kZ, lA, lB, lC, lD, lE, lF, lG, lH, lI, lJ, lK, lL, lM, lN, lO, lP, lQ, lR, lS, lT, lU, lV, lW, lX, lY, lZ, mA, mB, mC, mD, mE, mF, mG, mH, mI, mJ, mK, mL, mM, mN, mO, mP, mQ, mR, mS, mT, mU, mV, mW, mX, mY, mZ, nA, nB, nC, nD, nE, nF, nG, nH, nI, nJ, nK, nL, nM, nN, nO, nP, nQ, nR, nS, nT, nU, nV, nW, nX, nY, nZ, oA, oB, oC, oD, oE, oF, oG, oH, oI, oJ, oK, oL, oM, oN, oO, oP, oQ, oR, oS, oT, oU, oV, oW, oX, oY, oZ, pA, pB, pC, pD, pE, pF, pG, pH, pI, pJ, pK, pL, pM, pN, pO, pP, pQ, pR, pS, pT, pU, pV, pW, pX], []⟩ W := by
 obtain ⟨i, hi, hz0, hz1, hz2⟩ := info_parts iInfo
 have hm1 : m ≤ 1 := HM.out
 conv => arg 2; whnf
 have P2 := hid P.out.mark; clear P; have P := P2; clear P2
 have x0 := P.out.cx 0 (v := .int .i64 x.op) rfl
 have x1 := P.out.cx 1 (v := .int .i64 x.a) rfl
 have x2 := P.out.cx 2 (v := .int .i64 x.b) rfl
 have x3 := P.out.cx 3 (v := .int .i64 x.c) rfl
 have x4 := P.out.cx 4 (v := .slice x.la x.ln x.lc) rfl
 have x5 := P.out.cx 5 (v := .slice x.ba x.bn x.bc) rfl
 have hwq : IntKind.i64.wrap (x.b.tmod 3) = x.b.tmod 3 := wrap_tmod (by omega) (by omega)
 by_cases hcq : x.b.tmod 3 = 0
 ·have hdq : (x.b.tmod 3 == 0) = true := by simpa using hcq
  go_wp2_with fail
  refine (pick_any x.b 30 _ (by omega) (by omega)).mono ?_
  rintro e u ⟨rfl, rfl⟩
  dsimp only
  go_wp2_with fail
  refine (handNum_any _ _ _ _).mono ?_
  rintro e w5 ⟨rfl, hb5⟩
  dsimp only
  clear x0 x1 x2 x3 x4 x5
  have P2 := hid (P.out.grow hb5); have R2 := hid ((hb5.block _ (block_lt HRB.out)).trans HRB.out); clear hb5 P HRB; have P := P2; have HRB := R2; clear P2 R2
  go_wp2_with fail
  refine (P.out.add (numV_ok _ _ _ _) (numV_foot _) (by simp) (numV_nz _ _ _) (by omega) HRB.out).mono ?_
  rintro e w6 ⟨rfl, hp6, hr6⟩
  dsimp only
  clear P HRB
  have P := hid hp6; have HRB := hid hr6; clear hp6 hr6
  have P2 := hid P.out.mark; clear P; have P := P2; clear P2
  have x0 := P.out.cx 0 (v := .int .i64 x.op) rfl
  have x1 := P.out.cx 1 (v := .int .i64 x.a) rfl
  have x2 := P.out.cx 2 (v := .int .i64 x.b) rfl
  have x3 := P.out.cx 3 (v := .int .i64 x.c) rfl
  have x4 := P.out.cx 4 (v := .slice x.la x.ln x.lc) rfl
  have x5 := P.out.cx 5 (v := .slice x.ba x.bn x.bc) rfl
  have hws : IntKind.i64.wrap (x.b.tmod 5) = x.b.tmod 5 := wrap_tmod (by omega) (by omega)
  by_cases hcs : x.b.tmod 5 = 0
  ·have hds : (x.b.tmod 5 == 0) = true := by simpa using hcs
   go_wp2_with (refine wpList_load_row rfl 75 _ rfl pr rfl _ _ _ _ HRB.out Tryd.underlying75 rfl rawSzA ?_)
   refine (attr_any _ HRK.out _ (HT.out.below P.out.old)).mono ?_
   rintro e w4 ⟨nm, ix, v4, rfl, hn4, ho4, hz4, hf4, ht4, hb4⟩
   dsimp only
   have hf4' : ∀ k ∈ v4.foot, _ := fun k hk => Nat.le_trans P.out.lt.2.2 (hf4 k hk)
   clear hf4
   clear x0 x1 x2 x3 x4 x5
   have P2 := hid (P.out.grow hb4); have R2 := hid ((hb4.block _ (block_lt HRB.out)).trans HRB.out); clear hb4 P HRB; have P := P2; have HRB := R2; clear P2 R2
   have HA1 := hid (And.intro hn4 (And.intro ho4 (And.intro hz4 (And.intro hf4' ht4))))
   clear hn4 ho4 hz4 hf4' ht4
   go_wp2_with fail
   refine (layA_any nm ix v4 _ _ (by have := HA1.out.1; omega) HA1.out.2.1 HA1.out.2.2.1 HA1.out.2.2.2.2 HA1.out.2.2.2.1 (fun k hk => Nat.le_trans P.out.lt.2.2 hk)).mono ?_
   rintro e w5 ⟨v, rfl, hvo, hvn, hvf, hvt, hb5⟩
   dsimp only
   clear HA1
   have P2 := hid (P.out.grow hb5); have R2 := hid ((hb5.block _ (block_lt HRB.out)).trans HRB.out); clear hb5 P HRB; have P := P2; have HRB := R2; clear P2 R2
   have HVO := hid hvo
   have HZC := hid P.out.lt
   have HW5 := hid (SlR.built (w := w5) (T := 27) (C := v.arr) (vs := [v]) (by simp [itmCells, ItV.cells]) (n := 1) rfl (by decide))
   have hb6 : Grow w5 (w5.alloc (.cells v.arr 27)) := (Below.refl _ _).alloc (Nat.le_refl _) _
   have HV6 := hid (HVO.out.below hb6)
   have HVF := hid hvf; have HVT := hid hvt; have HVN := hid hvn
   clear hvo hvf hvt hvn HVO
   have P2 := hid (P.out.grow hb6); have R2 := hid ((hb6.block _ (block_lt HRB.out)).trans HRB.out); clear hb6 P HRB
   go_wp2_with (refine wpList_build_item rfl 25 27 _ rfl v rfl i Tryd.underlying25 hi hz0 hz1 ?_)
   have P := P2; have HRB := R2; clear P2 R2
   generalize w5.alloc (.cells v.arr 27) = w6 at *
   generalize w5.heap.size = z5 at *
   refine (handOf_any 4325521 ⟨some ⟨z5, 0, none⟩, 1, 1⟩ _).mono ?_
   rintro e w7 ⟨rfl, hb7⟩
   dsimp only
   have HW7 := hid (HW5.out.below hb7); have HV7 := hid (HV6.out.below hb7)
   clear HW5 HV6
   have P2 := hid (P.out.grow hb7); have R2 := hid ((hb7.block _ (block_lt HRB.out)).trans HRB.out); clear hb7 P HRB; have P := P2; have HRB := R2; clear P2 R2
   go_wp2_with fail
   refine (P.out.add (y := { tag := 4325521, typ := 1, ks := ⟨some ⟨z5, 0, none⟩, 1, 1⟩, kids := [v] }) (some_of HW7.out (fun y hy => by rw [List.mem_singleton.1 hy]; exact HV7.out)) (foot_of (fun k hk => by simp [Sl.blk] at hk; subst hk; have := HZC.out; omega) (fun y hy => by rw [List.mem_singleton.1 hy]; exact HVF.out)) (by simp) (nz_of (fun y hy => by rw [List.mem_singleton.1 hy]; exact ⟨HVT.out, HVN.out⟩)) (by omega) HRB.out).mono ?_
   rintro e w6 ⟨rfl, hp6, hr6⟩
   dsimp only
   clear P HRB
   have P := hid hp6; have HRB := hid hr6; clear hp6 hr6
   clear HW7 HV7 HVF HVT HVN HZC
   go_wp2_with fail
   go_meet
   exact ⟨_, _, by omega, P.out⟩
  ·have hds : (x.b.tmod 5 == 0) = false := by simpa using hcs
   go_wp2_with fail
   go_meet
   exact ⟨_, _, by omega, P.out⟩
 ·have hdq : (x.b.tmod 3 == 0) = false := by simpa using hcq
  have P2 := hid P.out.mark; clear P; have P := P2; clear P2
  have x0 := P.out.cx 0 (v := .int .i64 x.op) rfl
  have x1 := P.out.cx 1 (v := .int .i64 x.a) rfl
  have x2 := P.out.cx 2 (v := .int .i64 x.b) rfl
  have x3 := P.out.cx 3 (v := .int .i64 x.c) rfl
  have x4 := P.out.cx 4 (v := .slice x.la x.ln x.lc) rfl
  have x5 := P.out.cx 5 (v := .slice x.ba x.bn x.bc) rfl
  have hws : IntKind.i64.wrap (x.b.tmod 5) = x.b.tmod 5 := wrap_tmod (by omega) (by omega)
  by_cases hcs : x.b.tmod 5 = 0
  ·have hds : (x.b.tmod 5 == 0) = true := by simpa using hcs
   go_wp2_with (refine wpList_load_row rfl 75 _ rfl pr rfl _ _ _ _ HRB.out Tryd.underlying75 rfl rawSzA ?_)
   refine (attr_any _ HRK.out _ (HT.out.below P.out.old)).mono ?_
   rintro e w4 ⟨nm, ix, v4, rfl, hn4, ho4, hz4, hf4, ht4, hb4⟩
   dsimp only
   have hf4' : ∀ k ∈ v4.foot, _ := fun k hk => Nat.le_trans P.out.lt.2.2 (hf4 k hk)
   clear hf4
   clear x0 x1 x2 x3 x4 x5
   have P2 := hid (P.out.grow hb4); have R2 := hid ((hb4.block _ (block_lt HRB.out)).trans HRB.out); clear hb4 P HRB; have P := P2; have HRB := R2; clear P2 R2
   have HA1 := hid (And.intro hn4 (And.intro ho4 (And.intro hz4 (And.intro hf4' ht4))))
   clear hn4 ho4 hz4 hf4' ht4
   go_wp2_with fail
   refine (layA_any nm ix v4 _ _ (by have := HA1.out.1; omega) HA1.out.2.1 HA1.out.2.2.1 HA1.out.2.2.2.2 HA1.out.2.2.2.1 (fun k hk => Nat.le_trans P.out.lt.2.2 hk)).mono ?_
   rintro e w5 ⟨v, rfl, hvo, hvn, hvf, hvt, hb5⟩
   dsimp only
   clear HA1
   have P2 := hid (P.out.grow hb5); have R2 := hid ((hb5.block _ (block_lt HRB.out)).trans HRB.out); clear hb5 P HRB; have P := P2; have HRB := R2; clear P2 R2
   have HVO := hid hvo
   have HZC := hid P.out.lt
   have HW5 := hid (SlR.built (w := w5) (T := 27) (C := v.arr) (vs := [v]) (by simp [itmCells, ItV.cells]) (n := 1) rfl (by decide))
   have hb6 : Grow w5 (w5.alloc (.cells v.arr 27)) := (Below.refl _ _).alloc (Nat.le_refl _) _
   have HV6 := hid (HVO.out.below hb6)
   have HVF := hid hvf; have HVT := hid hvt; have HVN := hid hvn
   clear hvo hvf hvt hvn HVO
   have P2 := hid (P.out.grow hb6); have R2 := hid ((hb6.block _ (block_lt HRB.out)).trans HRB.out); clear hb6 P HRB
   go_wp2_with (refine wpList_build_item rfl 25 27 _ rfl v rfl i Tryd.underlying25 hi hz0 hz1 ?_)
   have P := P2; have HRB := R2; clear P2 R2
   generalize w5.alloc (.cells v.arr 27) = w6 at *
   generalize w5.heap.size = z5 at *
   refine (handOf_any 4325521 ⟨some ⟨z5, 0, none⟩, 1, 1⟩ _).mono ?_
   rintro e w7 ⟨rfl, hb7⟩
   dsimp only
   have HW7 := hid (HW5.out.below hb7); have HV7 := hid (HV6.out.below hb7)
   clear HW5 HV6
   have P2 := hid (P.out.grow hb7); have R2 := hid ((hb7.block _ (block_lt HRB.out)).trans HRB.out); clear hb7 P HRB; have P := P2; have HRB := R2; clear P2 R2
   go_wp2_with fail
   refine (P.out.add (y := { tag := 4325521, typ := 1, ks := ⟨some ⟨z5, 0, none⟩, 1, 1⟩, kids := [v] }) (some_of HW7.out (fun y hy => by rw [List.mem_singleton.1 hy]; exact HV7.out)) (foot_of (fun k hk => by simp [Sl.blk] at hk; subst hk; have := HZC.out; omega) (fun y hy => by rw [List.mem_singleton.1 hy]; exact HVF.out)) (by simp) (nz_of (fun y hy => by rw [List.mem_singleton.1 hy]; exact ⟨HVT.out, HVN.out⟩)) (by omega) HRB.out).mono ?_
   rintro e w6 ⟨rfl, hp6, hr6⟩
   dsimp only
   clear P HRB
   have P := hid hp6; have HRB := hid hr6; clear hp6 hr6
   clear HW7 HV7 HVF HVT HVN HZC
   go_wp2_with fail
   go_meet
   exact ⟨_, _, by omega, P.out⟩
  ·have hds : (x.b.tmod 5 == 0) = false := by simpa using hcs
   go_wp2_with fail
   go_meet
   exact ⟨_, _, by omega, P.out⟩
theorem pay_19 {x : AskD} {w W : World} {b p pr m c : Nat} {r : RawD} (aA aH aI aJ aK aL aM aN aO aP aQ aR aS aT aU aV aW aX aY aZ bA bB bC bD bE bF bG bH bI bJ bK bL bM bN bO bP bQ bR bS bT bU bV bW bX bY bZ cA cB cC cD cE cF cG cI cJ cK cL cM cN cO cP cQ cR cS cT cU cV cW cX cY cZ dA dB dC dD dE dF dG dH dI dJ dK dL dM dN dO dP dQ dR dS dT dU dV dW dX dY dZ eA eB eC eD eE eF eG eH eI eJ eK eL eM eN eO eP eQ eR eS eT eU eV eW eX eY eZ fA fB fC fD fE fF fG fH fI fJ fK fL fM fN fO fP fQ fR fS fT fU fV fW fX fY fZ gA gB gC gD gE gF gG gH gI gJ gK gL gM gN gO gP gQ gR gS gT gU gV gW gX gY gZ iA iB iC iD iE iF iG iH iI iJ iK iL iM iN iO iP iQ iR iS iT iU iV iW iX iY iZ jA jB jC jD jE jF jG jH jI jJ jK jL jM jN jO jP jQ jR jS jT jU jV jW jX jY jZ kA kB kC kD kE kF kG kH kI kJ kK kL kM kN kO kP kQ kR kS kT kU kV kW kX kY kZ lA lB lC lD lE lF lG lH lI lJ lK lL lM lN lO lP lQ lR lS lT lU lV lW lX lY lZ mA mB mC mD mE mF mG mH mI mJ mK mL mM mN mO mP mQ mR mS mT mU mV mW mX mY mZ nA nB nC nD nE nF nG nH nI nJ nK nL nM nN nO nP nQ nR nS nT nU nV nW nX nY nZ oA oB oC oD oE oF oG oH oI oJ oK oL oM oN oO oP oQ oR oS oT oU oV oW oX oY oZ pA pB pC pD pE pF pG pH pI pJ pK pL pM pN pO pP pQ pR pS pT pU pV pW pX : Value) (J K' : Act → World → Prop) (Q' : Exit → Act → World → Prop)
  (P : Hid (PS x w b p m c W)) (HM : Hid (m ≤ 1)) (HRB : Hid (W.heap[pr]? = some (.cells r.cells 75 (0, 0)))) (HRK : Hid r.ok) (HX : Hid (x.ok w)) (HT : Hid (NamesTab w))
  (h1 : ∀ a' w', (∃ aH aI aJ aK aL cI cJ cK cL cM cN cO cP cQ cR cS cT cU cV cW cX cY cZ dA dB dC dD dE dF dG dH dI dJ dK dL dM dN dO dP dQ dR dS dT dU dV dW dX dY dZ eA eB eC eD eE eF eG eH eI eJ eK eL eM eN eO eP eQ eR eS eT eU eV eW eX eY eZ fA fB fC fD fE fF fG fH fI fJ fK fL fM fN fO fP fQ fR fS fT fU fV fW fX fY fZ gA gB gC gD gE gF gG gH gI gJ gK gL gM gN gO gP gQ gR gS gT gU gV gW gX gY gZ iA iB iC iD iE iF iG iH iI iJ iK iL iM iN iO iP iQ iR iS iT iU iV iW iX iY iZ jA jB jC jD jE jF jG jH jI jJ jK jL jM jN jO jP jQ jR jS jT jU jV jW jX jY jZ kA kB kC kD kE kF kG kH kI kJ kK kL kM kN kO kP kQ kR kS kT kU kV kW kX kY kZ lA lB lC lD lE lF lG lH lI lJ lK lL lM lN lO lP lQ lR lS lT lU lV lW lX lY lZ mA mB mC mD mE mF mG mH mI mJ mK mL mM mN mO mP mQ mR mS mT mU mV mW mX mY mZ nA nB nC nD nE nF nG nH nI nJ nK nL nM nN nO nP nQ nR nS nT nU nV nW nX nY nZ oA oB oC oD oE oF oG oH oI oJ oK oL oM oN oO oP oQ oR oS oT oU oV oW oX oY oZ pA pB : Value, (∃ m c, m ≤ 11 ∧ PS x w b p m c w') ∧ a' = ⟨#[aA, .pointer (some ⟨b, 0, none⟩), .pointer (some ⟨b + 1, 0, none⟩), .pointer (some ⟨p, 0, none⟩), .func (.func 49) #[] #[.pointer (some ⟨p, 0, none⟩)], .int .i64 19, .pointer (some ⟨pr, 0, none⟩), aH, aI, aJ, aK, aL, aM, aN, aO, aP, aQ, aR, aS, aT, aU, aV, aW, aX, aY, aZ, bA, bB, bC, bD, bE, bF, bG, bH, bI, bJ, bK, bL, bM, bN, bO, bP, bQ, bR, bS, bT, bU, bV, bW, bX, bY, bZ, cA, cB, cC, cD, cE, cF, cG, .int .i64 19, cI, cJ, cK, cL, cM, cN, cO, cP, cQ, cR, cS, cT, cU, cV, cW, cX, cY, cZ, dA, dB, dC, dD, dE, dF, dG, dH, dI, dJ, dK, dL, dM, dN, dO, dP, dQ, dR, dS, dT, dU, dV, dW, dX, dY, dZ, eA, eB, eC, eD, eE, eF, eG, eH, eI, eJ, eK, eL, eM, eN, eO, eP, eQ, eR, eS, eT, eU, eV, eW, eX, eY, eZ, fA, fB, fC, fD, fE, fF, fG, fH, fI, fJ, fK, fL, fM, fN, fO, fP, fQ, fR, fS, fT, fU, fV, fW, fX, fY, fZ, gA, gB, gC, gD, gE, gF, gG, gH, gI, gJ, gK, gL, gM, gN, gO, gP, gQ, gR, gS, gT, gU, gV, gW, gX, gY, gZ, iA, iB, iC, iD, iE, iF, iG, iH, iI, iJ, iK, iL, iM, iN, iO, iP, iQ, iR, iS, iT, iU, iV, iW, iX, iY, iZ, jA, jB, jC, jD, jE, jF, jG, jH, jI, jJ, jK, jL, jM, jN, jO, jP, jQ, jR, jS, jT, jU, jV, jW, jX, jY, jZ, kA, kB, kC, kD, kE, kF, kG, kH, kI, kJ, kK, kL, kM, kN, kO, kP, kQ, kR, kS, kT, kU, kV, kW, kX, kY, kZ, lA, lB, lC, lD, lE, lF, lG, lH, lI, lJ, lK, lL, lM, lN, lO, lP, lQ, lR, lS, lT, lU, lV, lW, lX, lY, lZ, mA, mB, mC, mD, mE, mF, mG, mH, mI, mJ, mK, mL, mM, mN, mO, mP, mQ, mR, mS, mT, mU, mV, mW, mX, mY, mZ, nA, nB, nC, nD, nE, nF, nG, nH, nI, nJ, nK, nL, nM, nN, nO, nP, nQ, nR, nS, nT, nU, nV, nW, nX, nY, nZ, oA, oB, oC, oD, oE, oF, oG, oH, oI, oJ, oK, oL, oM, oN, oO, oP, oQ, oR, oS, oT, oU, oV, oW, oX, oY, oZ, pA, pB, pC, pD, pE, pF, pG, pH, pI, pJ, pK, pL, pM, pN, pO, pP, pQ, pR, pS, pT, pU, pV, pW, pX], []⟩) → J a' w') (h2 : ∀ a' w', Met J a' w' → K' a' w') :
  Code.wp Tryd.prog paySw (Exit.then K' Q') ⟨#[aA, .pointer (some ⟨b, 0, none⟩), .pointer (some ⟨b + 1, 0, none⟩), .pointer (some ⟨p, 0, none⟩), .func (.func 49) #[] #[.pointer (some ⟨p, 0, none⟩)], .int .i64 19, .pointer (some ⟨pr, 0, none⟩), aH, aI, aJ, aK, aL, aM, aN, aO, aP, aQ, aR, aS, aT, aU, aV, aW, aX, aY, aZ, bA, bB, bC, bD, bE, bF, bG, bH, bI, bJ, bK, bL, bM, bN, bO, bP, bQ, bR, bS, bT, bU, bV, bW, bX, bY, bZ, cA, cB, cC, cD, cE, cF, cG, .int .i64 19, cI, cJ, cK, cL, cM, cN, cO, cP, cQ, cR, cS, cT, cU, cV, cW, cX, cY, cZ, dA, dB, dC, dD, dE, dF, dG, dH, dI, dJ, dK, dL, dM, dN, dO, dP, dQ, dR, dS, dT, dU, dV, dW, dX, dY, dZ, eA, eB, eC, eD, eE, eF, eG, eH, eI, eJ, eK, eL, eM, eN, eO, eP, eQ, eR, eS, eT, eU, eV, eW, eX, eY, eZ, fA, fB, fC, fD, fE, fF, fG, fH, fI, fJ, fK, fL, fM, fN, fO, fP, fQ, fR, fS, fT, fU, fV, fW, fX, fY, fZ, gA, gB, gC, gD, gE, gF, gG, gH, gI, gJ, gK, gL, gM, gN, gO, gP, gQ, gR, gS, gT, gU, gV, gW, gX, gY, gZ, iA, iB, iC, iD, iE, iF, iG, iH, iI, iJ, iK, iL, iM, iN, iO, iP, iQ, iR, iS, iT, iU, iV, iW, iX, iY, iZ, jA, jB, jC, jD, jE, jF, jG, jH, jI, jJ, jK, jL, jM, jN, jO, jP, jQ, jR, jS, jT, jU, jV, jW, jX, jY, jZ, kA, kB, kC, kD, kE, kF, kG, kH, kI, kJ, kK, kL, kM, kN, kO, kP, kQ, kR, kS, kT, kU, kV, kW, kX, kY, kZ, lA, lB, lC, lD, lE, lF, lG, lH, lI, lJ, lK, lL, lM, lN, lO, lP, lQ, lR, lS, lT, lU, lV, lW, lX, lY, lZ, mA, mB, mC, mD, mE, mF, mG, mH, mI, mJ, mK, mL, mM, mN, mO, mP, mQ, mR, mS, mT, mU, mV, mW, mX, mY, mZ, nA, nB, nC, nD, nE, nF, nG, nH, nI, nJ, nK, nL, nM, nN, nO, nP, nQ, nR, nS, nT, nU, nV, nW, nX, nY, nZ, oA, oB, oC, oD, oE, oF, oG, oH, oI, oJ, oK, oL, oM, oN, oO, oP, oQ, oR, oS, oT, oU, oV, oW, oX, oY, oZ, pA, pB, pC, pD, pE, pF, pG, pH, pI, pJ, pK, pL, pM, pN, pO, pP, pQ, pR, pS, pT, pU, pV, pW, pX], []⟩ W := by
 obtain ⟨i, hi, hz0, hz1, hz2⟩ := info_parts iInfo
 have hm1 : m ≤ 1 := HM.out
 conv => arg 2; whnf
 have P2 := hid P.out.mark; clear P; have P := P2; clear P2
 have x0 := P.out.cx 0 (v := .int .i64 x.op) rfl
 have x1 := P.out.cx 1 (v := .int .i64 x.a) rfl
 have x2 := P.out.cx 2 (v := .int .i64 x.b) rfl
 have x3 := P.out.cx 3 (v := .int .i64 x.c) rfl
 have x4 := P.out.cx 4 (v := .slice x.la x.ln x.lc) rfl
 have x5 := P.out.cx 5 (v := .slice x.ba x.bn x.bc) rfl
 have HPK : Hid (pick x.b 6 = (pickN x.b 6 : Int)) := pickN_eq _ 6 (by omega)
 have HLK : Hid (pickN x.b 6 < 6) := pickN_lt _ 6 (by omega)
 have HGK := hid (intsA_get [1, 2, 2, 3, 7, 8] (pickN x.b 6) (by simpa using HLK.out))
 go_wp2_with fail
 refine (pick_any x.b 6 _ (by omega) (by omega)).mono ?_
 rintro e u ⟨rfl, rfl⟩
 dsimp only
 rw [HPK.out]
 go_wp2_with (refine wpList_index_row rfl _ _ rfl Tryd.underlying84 sizeInt Tryd.underlying3 rfl (intsA [1, 2, 2, 3, 7, 8]) rfl _ rfl (pickN x.b 6) rfl _ HLK.out HGK.out ?_)
 clear HPK HLK HGK
 refine (handNum_any _ _ _ _).mono ?_
 rintro e w5 ⟨rfl, hb5⟩
 dsimp only
 clear x0 x1 x2 x3 x4 x5
 have P2 := hid (P.out.grow hb5); have R2 := hid ((hb5.block _ (block_lt HRB.out)).trans HRB.out); clear hb5 P HRB; have P := P2; have HRB := R2; clear P2 R2
 go_wp2_with fail
 refine (handText_any _ _ _ (by decide)).mono ?_
 rintro e w5 ⟨v, rfl, hvi, hvo, hvf0, hb5⟩
 dsimp only
 have hvf : ∀ k ∈ v.foot, _ := fun k hk => Nat.le_trans P.out.lt.2.2 (hvf0 k hk)
 have HVT : Hid (v.typ ≠ 0) := by show _ ≠ _; rw [← it_typ', hvi]; show (7 : Int) ≠ 0; decide
 have HVN : Hid (nz v.it = true) := by show _ = _; rw [hvi]; rfl
 have HVF := hid hvf
 clear hvi hvf0 hvf
 have P2 := hid (P.out.grow hb5); have R2 := hid ((hb5.block _ (block_lt HRB.out)).trans HRB.out); clear hb5 P HRB; have P := P2; have HRB := R2; clear P2 R2
 obtain ⟨v1, hv1⟩ : ∃ v1 : ItV, v1 = { tag := 4325506, typ := 5, int := [1, 2, 2, 3, 7, 8].getD (pickN x.b 6) 0 } := ⟨_, rfl⟩
 have hn1 : v1.typ ≠ 0 ∧ nz v1.it = true ∧ (∀ w, v1.ok w) ∧ ∀ k, k ∉ v1.foot := by rw [hv1]; exact ⟨by simp, numV_nz _ _ _, fun w => numV_ok _ _ _ _, fun k hk => numV_foot (fun _ => False) k hk⟩
 have HN1 := hid hn1
 have HVO := hid hvo
 have HZC := hid P.out.lt
 have HW5 := hid (SlR.built (w := w5) (T := 27) (C := v1.arr ++ v.arr) (vs := [v1, v]) (by simp [itmCells, ItV.cells]) (n := 2) rfl (by decide))
 have hb6 : Grow w5 (w5.alloc (.cells (v1.arr ++ v.arr) 27)) := (Below.refl _ _).alloc (Nat.le_refl _) _
 have HV6 := hid (HVO.out.below hb6)
 have P2 := hid (P.out.grow hb6); have R2 := hid ((hb6.block _ (block_lt HRB.out)).trans HRB.out); clear hb6 P HRB hn1 hvo HVO
 have HE1 := hid hv1
 clear hv1
 go_wp2_with (refine wpList_build_items rfl 25 27 2 _ rfl [v1, v] rfl (by decide) (by decide) (by rw [HE1.out]; kernel_rfl) (v1.arr ++ v.arr) i Tryd.underlying25 hi hz0 hz1 (fill2 v1 v) ?_)
 have P := P2; have HRB := R2; clear P2 R2
 generalize w5.alloc (.cells (v1.arr ++ v.arr) 27) = w6 at *
 generalize w5.heap.size = z5 at *
 refine (handOf_any 4325505 ⟨some ⟨z5, 0, none⟩, 2, 2⟩ _).mono ?_
 rintro e w7 ⟨rfl, hb7⟩
 dsimp only
 have HW7 := hid (HW5.out.below hb7); have HV7 := hid (HV6.out.below hb7)
 clear HW5 HV6 HE1
 have P2 := hid (P.out.grow hb7); have R2 := hid ((hb7.block _ (block_lt HRB.out)).trans HRB.out); clear hb7 P HRB; have P := P2; have HRB := R2; clear P2 R2
 go_wp2_with fail
 refine (P.out.add (y := { tag := 4325505, typ := 1, ks := ⟨some ⟨z5, 0, none⟩, 2, 2⟩, kids := [v1, v] }) (some_of HW7.out (fun y hy => by simp only [List.mem_cons, List.not_mem_nil, or_false] at hy; rcases hy with rfl | rfl; exact HN1.out.2.2.1 _; exact HV7.out)) (foot_of (fun k hk => by simp [Sl.blk] at hk; subst hk; have := HZC.out; omega) (fun y hy k hk => by simp only [List.mem_cons, List.not_mem_nil, or_false] at hy; rcases hy with rfl | rfl; exact absurd hk (HN1.out.2.2.2 k); exact HVF.out k hk)) (by simp) (nz_of (fun y hy => by simp only [List.mem_cons, List.not_mem_nil, or_false] at hy; rcases hy with rfl | rfl; exact ⟨HN1.out.1, HN1.out.2.1⟩; exact ⟨HVT.out, HVN.out⟩)) (by omega) HRB.out).mono ?_
 rintro e w6 ⟨rfl, hp6, hr6⟩
 dsimp only
 clear P HRB
 have P := hid hp6; have HRB := hid hr6; clear hp6 hr6
 clear HW7 HV7 HVF HVT HVN HZC HN1
 have P2 := hid P.out.mark; clear P; have P := P2; clear P2
 have x0 := P.out.cx 0 (v := .int .i64 x.op) rfl
 have x1 := P.out.cx 1 (v := .int .i64 x.a) rfl
 have x2 := P.out.cx 2 (v := .int .i64 x.b) rfl
 have x3 := P.out.cx 3 (v := .int .i64 x.c) rfl
 have x4 := P.out.cx 4 (v := .slice x.la x.ln x.lc) rfl
 have x5 := P.out.cx 5 (v := .slice x.ba x.bn x.bc) rfl
 have hwq : IntKind.i64.wrap (x.b.tmod 4) = x.b.tmod 4 := wrap_tmod (by omega) (by omega)
 by_cases hcq : x.b.tmod 4 = 0
 ·have hdq : (x.b.tmod 4 == 0) = true := by simpa using hcq
  go_wp2_with fail
  refine (pick_any x.b 30 _ (by omega) (by omega)).mono ?_
  rintro e u ⟨rfl, rfl⟩
  dsimp only
  go_wp2_with fail
  refine (handNum_any _ _ _ _).mono ?_
  rintro e w5 ⟨rfl, hb5⟩
  dsimp only
  clear x0 x1 x2 x3 x4 x5
  have P2 := hid (P.out.grow hb5); have R2 := hid ((hb5.block _ (block_lt HRB.out)).trans HRB.out); clear hb5 P HRB; have P := P2; have HRB := R2; clear P2 R2
  go_wp2_with fail
  refine (P.out.add (numV_ok _ _ _ _) (numV_foot _) (by simp) (numV_nz _ _ _) (by omega) HRB.out).mono ?_
  rintro e w6 ⟨rfl, hp6, hr6⟩
  dsimp only
  clear P HRB
  have P := hid hp6; have HRB := hid hr6; clear hp6 hr6
  go_wp2_with fail
  go_meet
  exact ⟨_, _, by omega, P.out⟩
 ·have hdq : (x.b.tmod 4 == 0) = false := by simpa using hcq
  go_wp2_with fail
  go_meet
  exact ⟨_, _, by omega, P.out⟩
end
end Go.Proofs.YtbnbofooofedkaaDoor
