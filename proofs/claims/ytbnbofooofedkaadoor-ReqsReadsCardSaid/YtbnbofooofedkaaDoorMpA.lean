/- locksmithhand.Payload: arms of its switch. -/
import Derived.Test.YtbnbofooofedkaaDoorMb
namespace Go.Proofs.YtbnbofooofedkaaDoor
section
open Go.RowKit
set_option linter.unusedVariables false
set_option linter.unusedSimpArgs false
set_option maxRecDepth 1000000
set_option maxHeartbeats 16000000
theorem pay_9 {x : AskD} {w W : World} {b p pr m c : Nat} {r : RawD} (aA aH aI aJ aK aL aM aN aO aP aQ aR aS aT aU aV aW aX aY aZ bA bB bC bD bE bF bG bH bI bJ bK bL bM bN bO bP bQ bR bS bT bU bV bW bX bY bZ cA cB cC cD cE cF cG cI cJ cK cL cM cN cO cP cQ cR cS cT cU cV cW cX cY cZ dA dB dC dD dE dF dG dH dI dJ dK dL dM dN dO dP dQ dR dS dT dU dV dW dX dY dZ eA eB eC eD eE eF eG eH eI eJ eK eL eM eN eO eP eQ eR eS eT eU eV eW eX eY eZ fA fB fC fD fE fF fG fH fI fJ fK fL fM fN fO fP fQ fR fS fT fU fV fW fX fY fZ gA gB gC gD gE gF gG gH gI gJ gK gL gM gN gO gP gQ gR gS gT gU gV gW gX gY gZ iA iB iC iD iE iF iG iH iI iJ iK iL iM iN iO iP iQ iR iS iT iU iV iW iX iY iZ jA jB jC jD jE jF jG jH jI jJ jK jL jM jN jO jP jQ jR jS jT jU jV jW jX jY jZ kA kB kC kD kE kF kG kH kI kJ kK kL kM kN kO kP kQ kR kS kT kU kV kW kX kY kZ lA lB lC lD lE lF lG lH lI lJ lK lL lM lN lO lP lQ lR lS lT lU lV lW lX lY lZ mA mB mC mD mE mF mG mH mI mJ mK mL mM mN mO mP mQ mR mS mT mU mV mW mX mY mZ nA nB nC nD nE nF nG nH nI nJ nK nL nM nN nO nP nQ nR nS nT nU nV nW nX nY nZ oA oB oC oD oE oF oG oH oI oJ oK oL oM oN oO oP oQ oR oS oT oU oV oW oX oY oZ pA pB pC pD pE pF pG pH pI pJ pK pL pM pN pO pP pQ pR pS pT pU pV pW pX : Value) (J K' : Act → World → Prop) (Q' : Exit → Act → World → Prop)
  (P : Hid (PS x w b p m c W)) (HM : Hid (m ≤ 1)) (HRB : Hid (W.heap[pr]? = some (.cells r.cells 75 (0, 0)))) (HRK : Hid r.ok) (HX : Hid (x.ok w)) (HT : Hid (NamesTab w))
  (h1 : ∀ a' w', (∃ aH aI aJ aK aL cI cJ cK cL cM cN cO cP cQ cR cS cT cU cV cW cX cY cZ dA dB dC dD dE dF dG dH dI dJ dK dL dM dN dO dP dQ dR dS dT dU dV dW dX dY dZ eA eB eC eD eE eF eG eH eI eJ eK eL eM eN eO eP eQ eR eS eT eU eV eW eX eY eZ fA fB fC fD fE fF fG fH fI fJ fK fL fM fN fO fP fQ fR fS fT fU fV fW fX fY fZ gA gB gC gD gE gF gG gH gI gJ gK gL gM gN gO gP gQ gR gS gT gU gV gW gX gY gZ iA iB iC iD iE iF iG iH iI iJ iK iL iM iN iO iP iQ iR iS iT iU iV iW iX iY iZ jA jB jC jD jE jF jG jH jI jJ jK jL jM jN jO jP jQ jR jS jT jU jV jW jX jY jZ kA kB kC kD kE kF kG kH kI kJ kK kL kM kN kO kP kQ kR kS kT kU kV kW kX kY kZ lA lB lC lD lE lF lG lH lI lJ lK lL lM lN lO lP lQ lR lS lT lU lV lW lX lY lZ mA mB mC mD mE mF mG mH mI mJ mK mL mM mN mO mP mQ mR mS mT mU mV mW mX mY mZ nA nB nC nD nE nF nG nH nI nJ nK nL nM nN nO nP nQ nR nS nT nU nV nW nX nY nZ oA oB oC oD oE oF oG oH oI oJ oK oL oM oN oO oP oQ oR oS oT oU oV oW oX oY oZ pA pB : Value, (∃ m c, m ≤ 11 ∧ PS x w b p m c w') ∧ a' = ⟨#[aA, .pointer (some ⟨b, 0, none⟩), .pointer (some ⟨b + 1, 0, none⟩), .pointer (some ⟨p, 0, none⟩), .func (.func 49) #[] #[.pointer (some ⟨p, 0, none⟩)], .int .i64 9, .pointer (some ⟨pr, 0, none⟩), aH, aI, aJ, aK, aL, aM, aN, aO, aP, aQ, aR, aS, aT, aU, aV, aW, aX, aY, aZ, bA, bB, bC, bD, bE, bF, bG, bH, bI, bJ, bK, bL, bM, bN, bO, bP, bQ, bR, bS, bT, bU, bV, bW, bX, bY, bZ, cA, cB, cC, cD, cE, cF, cG, .int .i64 9, cI, cJ, cK, cL, cM, cN, cO, cP, cQ, cR, cS, cT, cU, cV, cW, cX, cY, cZ, dA, dB, dC, dD, dE, dF, dG, dH, dI, dJ, dK, dL, dM, dN, dO, dP, dQ, dR, dS, dT, dU, dV, dW, dX, dY, dZ, eA, eB, eC, eD, eE, eF, eG, eH, eI, eJ, eK, eL, eM, eN, eO, eP, eQ, eR, eS, eT, eU, eV, eW, eX, eY, eZ, fA, fB, fC, fD, fE, fF, fG, fH, fI, fJ, fK, fL, fM, fN, fO, fP, fQ, fR, fS, fT, fU, fV, fW, fX, fY, fZ, gA, gB, gC, gD, gE, gF, gG, gH, gI, gJ, gK, gL, gM, gN, gO, gP, gQ, gR, gS, gT, gU, gV, gW, gX, gY, gZ, iA, iB, iC, iD, iE, iF, iG, iH, iI, iJ, iK, iL, iM, iN, iO, iP, iQ, iR, iS, iT, iU, iV, iW, iX, iY, iZ, jA, jB, jC, jD, jE, jF, jG, jH, jI, jJ, jK, jL, jM, jN, jO, jP, jQ, jR, jS, jT, jU, jV, jW, jX, jY, jZ, kA, kB, kC, kD, kE, kF, kG, kH, kI, kJ, kK, kL, kM, kN, kO, kP, kQ, kR, kS, kT, kU, kV, kW, kX, kY, kZ, lA, lB, lC, lD, lE, lF, lG, lH, lI, lJ, lK, lL, lM, lN, lO, lP, lQ, lR, lS, lT, lU, lV, lW, lX, lY, lZ, mA, mB, mC, mD, mE, mF, mG, mH, mI, mJ, mK, mL, mM, mN, mO, mP, mQ, mR, mS, mT, mU, mV, mW, mX, mY, mZ, nA, nB, nC, nD, nE, nF, nG, nH, nI, nJ, nK, nL, nM, nN, nO, nP, nQ, nR, nS, nT, nU, nV, nW, nX, nY, nZ, oA, oB, oC, oD, oE, oF, oG, oH, oI, oJ, oK, oL, oM, oN, oO, oP, oQ, oR, oS, oT, oU, oV, oW, oX, oY, oZ, pA, pB, pC, pD, pE, pF, pG, pH, pI, pJ, pK, pL, pM, pN, pO, pP, pQ, pR, pS, pT, pU, pV, pW, pX], []⟩) → J a' w') (h2 : ∀ a' w', Met J a' w' → K' a' w') :
  Code.wp Tryd.prog paySw (Exit.then K' Q') ⟨#[aA, .pointer (some ⟨b, 0, none⟩), .pointer (some ⟨b + 1, 0, none⟩), .pointer (some ⟨p, 0, none⟩), .func (.func 49) #[] #[.pointer (some ⟨p, 0, none⟩)], .int .i64 9, .pointer (some ⟨pr, 0, none⟩), aH, aI, aJ, aK, aL, aM, aN, aO, aP, aQ, aR, aS, aT, aU, aV, aW, aX, aY, aZ, bA, bB, bC, bD, bE, bF, bG, bH, bI, bJ, bK, bL, bM, bN, bO, bP, bQ, bR, bS, bT, bU, bV, bW, bX, bY, bZ, cA, cB, cC, cD, cE, cF, cG, .int .i64 9, cI, cJ, cK, cL, cM, cN, cO, cP, cQ, cR, cS, cT, cU, cV, cW, cX, cY, cZ, dA, dB, dC, dD, dE, dF, dG, dH, dI, dJ, dK, dL, dM, dN, dO, dP, dQ, dR, dS, dT, dU, dV, dW, dX, dY, dZ, eA, eB, eC, eD, eE, eF, eG, eH, eI, eJ, eK, eL, eM, eN, eO, eP, eQ, eR, eS, eT, eU, eV, eW, eX, eY, eZ, fA, fB, fC, fD, fE, fF, fG, fH, fI, fJ, fK, fL, fM, fN, fO, fP, fQ, fR, fS, fT, fU, fV, fW, fX, fY, fZ, gA, gB, gC, gD, gE, gF, gG, gH, gI, gJ, gK, gL, gM, gN, gO, gP, gQ, gR, gS, gT, gU, gV, gW, gX, gY, gZ, iA, iB, iC, iD, iE, iF, iG, iH, iI, iJ, iK, iL, iM, iN, iO, iP, iQ, iR, iS, iT, iU, iV, iW, iX, iY, iZ, jA, jB, jC, jD, jE, jF, jG, jH, jI, jJ, jK, jL, jM, jN, jO, jP, jQ, jR, jS, jT, jU, jV, jW, jX, jY, jZ, kA, kB, kC, kD, kE, kF, kG, kH, kI, kJ, kK, kL, kM, kN, kO, kP, kQ, kR, kS, kT, kU, kV, kW, kX, kY, kZ, lA, lB, lC, lD, lE, lF, lG, lH, lI, lJ, lK, lL, lM, lN, lO, lP, lQ, lR, lS, lT, lU, lV, lW, lX, lY, lZ, mA, mB, mC, mD, mE, mF, mG, mH, mI, mJ, mK, mL, mM, mN, mO, mP, mQ, mR, mS, mT, mU, mV, mW, mX, mY, mZ, nA, nB, nC, nD, nE, nF, nG, nH, nI, nJ, nK, nL, nM, nN, nO, nP, nQ, nR, nS, nT, nU, nV, nW, nX, nY, nZ, oA, oB, oC, oD, oE, oF, oG, oH, oI, oJ, oK, oL, oM, oN, oO, oP, oQ, oR, oS, oT, oU, oV, oW, oX, oY, oZ, pA, pB, pC, pD, pE, pF, pG, pH, pI, pJ, pK, pL, pM, pN, pO, pP, pQ, pR, pS, pT, pU, pV, pW, pX], []⟩ W := by
 obtain ⟨i, hi, hz0, hz1, hz2⟩ := info_parts iInfo
 have hm1 : m ≤ 1 := HM.out
 conv => arg 2; whnf
 have P2 := hid P.out.mark; clear P; have P := P2; clear P2
 have x0 := P.out.cx 0 (v := .int .i64 x.op) rfl
 have x1 := P.out.cx 1 (v := .int .i64 x.a) rfl
 have x2 := P.out.cx 2 (v := .int .i64 x.b) rfl
 have x3 := P.out.cx 3 (v := .int .i64 x.c) rfl
 have x4 := P.out.cx 4 (v := .slice x.la x.ln x.lc) rfl
 have x5 := P.out.cx 5 (v := .slice x.ba x.bn x.bc) rfl
 go_wp2_with fail
 refine (pick_any x.b 60 _ (by omega) (by omega)).mono ?_
 rintro e u ⟨rfl, rfl⟩
 dsimp only
 go_wp2_with fail
 refine (handNum_any _ _ _ _).mono ?_
 rintro e w5 ⟨rfl, hb5⟩
 dsimp only
 clear x0 x1 x2 x3 x4 x5
 have P2 := hid (P.out.grow hb5); have R2 := hid ((hb5.block _ (block_lt HRB.out)).trans HRB.out); clear hb5 P HRB; have P := P2; have HRB := R2; clear P2 R2
 go_wp2_with fail
 refine (P.out.add (numV_ok _ _ _ _) (numV_foot _) (by simp) (numV_nz _ _ _) (by omega) HRB.out).mono ?_
 rintro e w6 ⟨rfl, hp6, hr6⟩
 dsimp only
 clear P HRB
 have P := hid hp6; have HRB := hid hr6; clear hp6 hr6
 have P2 := hid P.out.mark; clear P; have P := P2; clear P2
 have x0 := P.out.cx 0 (v := .int .i64 x.op) rfl
 have x1 := P.out.cx 1 (v := .int .i64 x.a) rfl
 have x2 := P.out.cx 2 (v := .int .i64 x.b) rfl
 have x3 := P.out.cx 3 (v := .int .i64 x.c) rfl
 have x4 := P.out.cx 4 (v := .slice x.la x.ln x.lc) rfl
 have x5 := P.out.cx 5 (v := .slice x.ba x.bn x.bc) rfl
 go_wp2_with fail
 refine (pick_any x.c 512 _ (by omega) (by omega)).mono ?_
 rintro e u ⟨rfl, rfl⟩
 dsimp only
 go_wp2_with fail
 refine (handNum_any _ _ _ _).mono ?_
 rintro e w5 ⟨rfl, hb5⟩
 dsimp only
 clear x0 x1 x2 x3 x4 x5
 have P2 := hid (P.out.grow hb5); have R2 := hid ((hb5.block _ (block_lt HRB.out)).trans HRB.out); clear hb5 P HRB; have P := P2; have HRB := R2; clear P2 R2
 go_wp2_with fail
 refine (P.out.add (numV_ok _ _ _ _) (numV_foot _) (by simp) (numV_nz _ _ _) (by omega) HRB.out).mono ?_
 rintro e w6 ⟨rfl, hp6, hr6⟩
 dsimp only
 clear P HRB
 have P := hid hp6; have HRB := hid hr6; clear hp6 hr6
 go_wp2_with fail
 go_meet
 exact ⟨_, _, by omega, P.out⟩
theorem pay_17 {x : AskD} {w W : World} {b p pr m c : Nat} {r : RawD} (aA aH aI aJ aK aL aM aN aO aP aQ aR aS aT aU aV aW aX aY aZ bA bB bC bD bE bF bG bH bI bJ bK bL bM bN bO bP bQ bR bS bT bU bV bW bX bY bZ cA cB cC cD cE cF cG cI cJ cK cL cM cN cO cP cQ cR cS cT cU cV cW cX cY cZ dA dB dC dD dE dF dG dH dI dJ dK dL dM dN dO dP dQ dR dS dT dU dV dW dX dY dZ eA eB eC eD eE eF eG eH eI eJ eK eL eM eN eO eP eQ eR eS eT eU eV eW eX eY eZ fA fB fC fD fE fF fG fH fI fJ fK fL fM fN fO fP fQ fR fS fT fU fV fW fX fY fZ gA gB gC gD gE gF gG gH gI gJ gK gL gM gN gO gP gQ gR gS gT gU gV gW gX gY gZ iA iB iC iD iE iF iG iH iI iJ iK iL iM iN iO iP iQ iR iS iT iU iV iW iX iY iZ jA jB jC jD jE jF jG jH jI jJ jK jL jM jN jO jP jQ jR jS jT jU jV jW jX jY jZ kA kB kC kD kE kF kG kH kI kJ kK kL kM kN kO kP kQ kR kS kT kU kV kW kX kY kZ lA lB lC lD lE lF lG lH lI lJ lK lL lM lN lO lP lQ lR lS lT lU lV lW lX lY lZ mA mB mC mD mE mF mG mH mI mJ mK mL mM mN mO mP mQ mR mS mT mU mV mW mX mY mZ nA nB nC nD nE nF nG nH nI nJ nK nL nM nN nO nP nQ nR nS nT nU nV nW nX nY nZ oA oB oC oD oE oF oG oH oI oJ oK oL oM oN oO oP oQ oR oS oT oU oV oW oX oY oZ pA pB pC pD pE pF pG pH pI pJ pK pL pM pN pO pP pQ pR pS pT pU pV pW pX : Value) (J K' : Act → World → Prop) (Q' : Exit → Act → World → Prop)
  (P : Hid (PS x w b p m c W)) (HM : Hid (m ≤ 1)) (HRB : Hid (W.heap[pr]? = some (.cells r.cells 75 (0, 0)))) (HRK : Hid r.ok) (HX : Hid (x.ok w)) (HT : Hid (NamesTab w))
  (h1 : ∀ a' w', (∃ aH aI aJ aK aL cI cJ cK cL cM cN cO cP cQ cR cS cT cU cV cW cX cY cZ dA dB dC dD dE dF dG dH dI dJ dK dL dM dN dO dP dQ dR dS dT dU dV dW dX dY dZ eA eB eC eD eE eF eG eH eI eJ eK eL eM eN eO eP eQ eR eS eT eU eV eW eX eY eZ fA fB fC fD fE fF fG fH fI fJ fK fL fM fN fO fP fQ fR fS fT fU fV fW fX fY fZ gA gB gC gD gE gF gG gH gI gJ gK gL gM gN gO gP gQ gR gS gT gU gV gW gX gY gZ iA iB iC iD iE iF iG iH iI iJ iK iL iM iN iO iP iQ iR iS iT iU iV iW iX iY iZ jA jB jC jD jE jF jG jH jI jJ jK jL jM jN jO jP jQ jR jS jT jU jV jW jX jY jZ kA kB kC kD kE kF kG kH kI kJ kK kL kM kN kO kP kQ kR kS kT kU kV kW kX kY kZ lA lB lC lD lE lF lG lH lI lJ lK lL lM lN lO lP lQ lR lS lT lU lV lW lX lY lZ mA mB mC mD mE mF mG mH mI mJ mK mL mM mN mO mP mQ mR mS mT mU mV mW mX mY mZ nA nB nC nD nE nF nG nH nI nJ nK nL nM nN nO nP nQ nR nS nT nU nV nW nX nY nZ oA oB oC oD oE oF oG oH oI oJ oK oL oM oN oO oP oQ oR oS oT oU oV oW oX oY oZ pA pB : Value, (∃ m c, m ≤ 11 ∧ PS x w b p m c w') ∧ a' = ⟨#[aA, .pointer (some ⟨b, 0, none⟩), .pointer (some ⟨b + 1, 0, none⟩), .pointer (some ⟨p, 0, none⟩), .func (.func 49) #[] #[.pointer (some ⟨p, 0, none⟩)], .int .i64 17, .pointer (some ⟨pr, 0, none⟩), aH, aI, aJ, aK, aL, aM, aN, aO, aP, aQ, aR, aS, aT, aU, aV, aW, aX, aY, aZ, bA, bB, bC, bD, bE, bF, bG, bH, bI, bJ, bK, bL, bM, bN, bO, bP, bQ, bR, bS, bT, bU, bV, bW, bX, bY, bZ, cA, cB, cC, cD, cE, cF, cG, .int .i64 17, cI, cJ, cK, cL, cM, cN, cO, cP, cQ, cR, cS, cT, cU, cV, cW, cX, cY, cZ, dA, dB, dC, dD, dE, dF, dG, dH, dI, dJ, dK, dL, dM, dN, dO, dP, dQ, dR, dS, dT, dU, dV, dW, dX, dY, dZ, eA, eB, eC, eD, eE, eF, eG, eH, eI, eJ, eK, eL, eM, eN, eO, eP, eQ, eR, eS, eT, eU, eV, eW, eX, eY, eZ, fA, fB, fC, fD, fE, fF, fG, fH, fI, fJ, fK, fL, fM, fN, fO, fP, fQ, fR, fS, fT, fU, fV, fW, fX, fY, fZ, gA, gB, gC, gD, gE, gF, gG, gH, gI, gJ, gK, gL, gM, gN, gO, gP, gQ, gR, gS, gT, gU, gV, gW, gX, gY, gZ, iA, iB, iC, iD, iE, iF, iG, iH, iI, iJ, iK, iL, iM, iN, iO, iP, iQ, iR, iS, iT, iU, iV, iW, iX, iY, iZ, jA, jB, jC, jD, jE, jF, jG, jH, jI, jJ, jK, jL, jM, jN, jO, jP, jQ, jR, jS, jT, jU, jV, jW, jX, jY, jZ, kA, kB, kC, kD, kE, kF, kG, kH, kI, kJ, kK, kL, kM, kN, kO, kP, kQ, kR, kS, kT, kU, kV, kW, kX, kY, kZ, lA, lB, lC, lD, lE, lF, lG, lH, lI, lJ, lK, lL, lM, lN, lO, lP, lQ, lR, lS, lT, lU, lV, lW, lX, lY, lZ, mA, mB, mC, mD, mE, mF, mG, mH, mI, mJ, mK, mL, mM, mN, mO, mP, mQ, mR, mS, mT, mU, mV, mW, mX, mY, mZ, nA, nB, nC, nD, nE, nF, nG, nH, nI, nJ, nK, nL, nM, nN, nO, nP, nQ, nR, nS, nT, nU, nV, nW, nX, nY, nZ, oA, oB, oC, oD, oE, oF, oG, oH, oI, oJ, oK, oL, oM, oN, oO, oP, oQ, oR, oS, oT, oU, oV, oW, oX, oY, oZ, pA, pB, pC, pD, pE, pF, pG, pH, pI, pJ, pK, pL, pM, pN, pO, pP, pQ, pR, pS, pT, pU, pV, pW, pX], []⟩) → J a' w') (h2 : ∀ a' w', Met J a' w' → K' a' w') :
  Code.wp Tryd.prog paySw (Exit.then K' Q') ⟨#[aA, .pointer (some ⟨b, 0, none⟩), .pointer (some ⟨b + 1, 0, none⟩), .pointer (some ⟨p, 0, none⟩), .func (.func 49) #[] #[.pointer (some ⟨p, 0, none⟩)], .int .i64 17, .pointer (some ⟨pr, 0, none⟩), aH, aI, aJ, aK, aL, aM, aN, aO, aP, aQ, aR, aS, aT, aU, aV, aW, aX, aY, aZ, bA, bB, bC, bD, bE, bF, bG, bH, bI, bJ, bK, bL, bM, bN, bO, bP, bQ, bR, bS, bT, bU, bV, bW, bX, bY, bZ, cA, cB, cC, cD, cE, cF, cG, .int .i64 17, cI, cJ, cK, cL, cM, cN, cO, cP, cQ, cR, cS, cT, cU, cV, cW, cX, cY, cZ, dA, dB, dC, dD, dE, dF, dG, dH, dI, dJ, dK, dL, dM, dN, dO, dP, dQ, dR, dS, dT, dU, dV, dW, dX, dY, dZ, eA, eB, eC, eD, eE, eF, eG, eH, eI, eJ, eK, eL, eM, eN, eO, eP, eQ, eR, eS, eT, eU, eV, eW, eX, eY, eZ, fA, fB, fC, fD, fE, fF, fG, fH, fI, fJ, fK, fL, fM, fN, fO, fP, fQ, fR, fS, fT, fU, fV, fW, fX, fY, fZ, gA, gB, gC, gD, gE, gF, gG, gH, gI, gJ, gK, gL, gM, gN, gO, gP, gQ, gR, gS, gT, gU, gV, gW, gX, gY, gZ, iA, iB, iC, iD, iE, iF, iG, iH, iI, iJ, iK, iL, iM, iN, iO, iP, iQ, iR, iS, iT, iU, iV, iW, iX, iY, iZ, jA, jB, jC, jD, jE, jF, jG, jH, jI, jJ, jK, jL, jM, jN, jO, jP, jQ, jR, jS, jT, jU, jV, jW, jX, jY, jZ, kA, kB, kC, kD, kE, kF, kG, kH, kI, kJ, kK, kL, kM, kN, kO, kP, kQ, kR, kS, kT, kU, kV, kW, kX, kY, kZ, lA, lB, lC, lD, lE, lF, lG, lH, lI, lJ, lK, lL, lM, lN, lO, lP, lQ, lR, lS, lT, lU, lV, lW, lX, lY, lZ, mA, mB, mC, mD, mE, mF, mG, mH, mI, mJ, mK, mL, mM, mN, mO, mP, mQ, mR, mS, mT, mU, mV, mW, mX, mY, mZ, nA, nB, nC, nD, nE, nF, nG, nH, nI, nJ, nK, nL, nM, nN, nO, nP, nQ, nR, nS, nT, nU, nV, nW, nX, nY, nZ, oA, oB, oC, oD, oE, oF, oG, oH, oI, oJ, oK, oL, oM, oN, oO, oP, oQ, oR, oS, oT, oU, oV, oW, oX, oY, oZ, pA, pB, pC, pD, pE, pF, pG, pH, pI, pJ, pK, pL, pM, pN, pO, pP, pQ, pR, pS, pT, pU, pV, pW, pX], []⟩ W := by
 obtain ⟨i, hi, hz0, hz1, hz2⟩ := info_parts iInfo
 have hm1 : m ≤ 1 := HM.out
 conv => arg 2; whnf
 have P2 := hid P.out.mark; clear P; have P := P2; clear P2
 have x0 := P.out.cx 0 (v := .int .i64 x.op) rfl
 have x1 := P.out.cx 1 (v := .int .i64 x.a) rfl
 have x2 := P.out.cx 2 (v := .int .i64 x.b) rfl
 have x3 := P.out.cx 3 (v := .int .i64 x.c) rfl
 have x4 := P.out.cx 4 (v := .slice x.la x.ln x.lc) rfl
 have x5 := P.out.cx 5 (v := .slice x.ba x.bn x.bc) rfl
 go_wp2_with fail
 refine (pick_any x.b 30 _ (by omega) (by omega)).mono ?_
 rintro e u ⟨rfl, rfl⟩
 dsimp only
 go_wp2_with fail
 refine (handNum_any _ _ _ _).mono ?_
 rintro e w5 ⟨rfl, hb5⟩
 dsimp only
 clear x0 x1 x2 x3 x4 x5
 have P2 := hid (P.out.grow hb5); have R2 := hid ((hb5.block _ (block_lt HRB.out)).trans HRB.out); clear hb5 P HRB; have P := P2; have HRB := R2; clear P2 R2
 go_wp2_with fail
 refine (P.out.add (numV_ok _ _ _ _) (numV_foot _) (by simp) (numV_nz _ _ _) (by omega) HRB.out).mono ?_
 rintro e w6 ⟨rfl, hp6, hr6⟩
 dsimp only
 clear P HRB
 have P := hid hp6; have HRB := hid hr6; clear hp6 hr6
 go_wp2_with fail
 go_meet
 exact ⟨_, _, by omega, P.out⟩
theorem pay_24 {x : AskD} {w W : World} {b p pr m c : Nat} {r : RawD} (aA aH aI aJ aK aL aM aN aO aP aQ aR aS aT aU aV aW aX aY aZ bA bB bC bD bE bF bG bH bI bJ bK bL bM bN bO bP bQ bR bS bT bU bV bW bX bY bZ cA cB cC cD cE cF cG cI cJ cK cL cM cN cO cP cQ cR cS cT cU cV cW cX cY cZ dA dB dC dD dE dF dG dH dI dJ dK dL dM dN dO dP dQ dR dS dT dU dV dW dX dY dZ eA eB eC eD eE eF eG eH eI eJ eK eL eM eN eO eP eQ eR eS eT eU eV eW eX eY eZ fA fB fC fD fE fF fG fH fI fJ fK fL fM fN fO fP fQ fR fS fT fU fV fW fX fY fZ gA gB gC gD gE gF gG gH gI gJ gK gL gM gN gO gP gQ gR gS gT gU gV gW gX gY gZ iA iB iC iD iE iF iG iH iI iJ iK iL iM iN iO iP iQ iR iS iT iU iV iW iX iY iZ jA jB jC jD jE jF jG jH jI jJ jK jL jM jN jO jP jQ jR jS jT jU jV jW jX jY jZ kA kB kC kD kE kF kG kH kI kJ kK kL kM kN kO kP kQ kR kS kT kU kV kW kX kY kZ lA lB lC lD lE lF lG lH lI lJ lK lL lM lN lO lP lQ lR lS lT lU lV lW lX lY lZ mA mB mC mD mE mF mG mH mI mJ mK mL mM mN mO mP mQ mR mS mT mU mV mW mX mY mZ nA nB nC nD nE nF nG nH nI nJ nK nL nM nN nO nP nQ nR nS nT nU nV nW nX nY nZ oA oB oC oD oE oF oG oH oI oJ oK oL oM oN oO oP oQ oR oS oT oU oV oW oX oY oZ pA pB pC pD pE pF pG pH pI pJ pK pL pM pN pO pP pQ pR pS pT pU pV pW pX : Value) (J K' : Act → World → Prop) (Q' : Exit → Act → World → Prop)
  (P : Hid (PS x w b p m c W)) (HM : Hid (m ≤ 1)) (HRB : Hid (W.heap[pr]? = some (.cells r.cells 75 (0, 0)))) (HRK : Hid r.ok) (HX : Hid (x.ok w)) (HT : Hid (NamesTab w))
  (h1 : ∀ a' w', (∃ aH aI aJ aK aL cI cJ cK cL cM cN cO cP cQ cR cS cT cU cV cW cX cY cZ dA dB dC dD dE dF dG dH dI dJ dK dL dM dN dO dP dQ dR dS dT dU dV dW dX dY dZ eA eB eC eD eE eF eG eH eI eJ eK eL eM eN eO eP eQ eR eS eT eU eV eW eX eY eZ fA fB fC fD fE fF fG fH fI fJ fK fL fM fN fO fP fQ fR fS fT fU fV fW fX fY fZ gA gB gC gD gE gF gG gH gI gJ gK gL gM gN gO gP gQ gR gS gT gU gV gW gX gY gZ iA iB iC iD iE iF iG iH iI iJ iK iL iM iN iO iP iQ iR iS iT iU iV iW iX iY iZ jA jB jC jD jE jF jG jH jI jJ jK jL jM jN jO jP jQ jR jS jT jU jV jW jX jY jZ kA kB kC kD kE kF kG kH kI kJ kK kL kM kN kO kP kQ kR kS kT kU kV kW kX kY kZ lA lB lC lD lE lF lG lH lI lJ lK lL lM lN lO lP lQ lR lS lT lU lV lW lX lY lZ mA mB mC mD mE mF mG mH mI mJ mK mL mM mN mO mP mQ mR mS mT mU mV mW mX mY mZ nA nB nC nD nE nF nG nH nI nJ nK nL nM nN nO nP nQ nR nS nT nU nV nW nX nY nZ oA oB oC oD oE oF oG oH oI oJ oK oL oM oN oO oP oQ oR oS oT oU oV oW oX oY oZ pA pB : Value, (∃ m c, m ≤ 11 ∧ PS x w b p m c w') ∧ a' = ⟨#[aA, .pointer (some ⟨b, 0, none⟩), .pointer (some ⟨b + 1, 0, none⟩), .pointer (some ⟨p, 0, none⟩), .func (.func 49) #[] #[.pointer (some ⟨p, 0, none⟩)], .int .i64 24, .pointer (some ⟨pr, 0, none⟩), aH, aI, aJ, aK, aL, aM, aN, aO, aP, aQ, aR, aS, aT, aU, aV, aW, aX, aY, aZ, bA, bB, bC, bD, bE, bF, bG, bH, bI, bJ, bK, bL, bM, bN, bO, bP, bQ, bR, bS, bT, bU, bV, bW, bX, bY, bZ, cA, cB, cC, cD, cE, cF, cG, .int .i64 24, cI, cJ, cK, cL, cM, cN, cO, cP, cQ, cR, cS, cT, cU, cV, cW, cX, cY, cZ, dA, dB, dC, dD, dE, dF, dG, dH, dI, dJ, dK, dL, dM, dN, dO, dP, dQ, dR, dS, dT, dU, dV, dW, dX, dY, dZ, eA, eB, eC, eD, eE, eF, eG, eH, eI, eJ, eK, eL, eM, eN, eO, eP, eQ, eR, eS, eT, eU, eV, eW, eX, eY, eZ, fA, fB, fC, fD, fE, fF, fG, fH, fI, fJ, fK, fL, fM, fN, fO, fP, fQ, fR, fS, fT, fU, fV, fW, fX, fY, fZ, gA, gB, gC, gD, gE, gF, gG, gH, gI, gJ, gK, gL, gM, gN, gO, gP, gQ, gR, gS, gT, gU, gV, gW, gX, gY, gZ, iA, iB, iC, iD, iE, iF, iG, iH, iI, iJ, iK, iL, iM, iN, iO, iP, iQ, iR, iS, iT, iU, iV, iW, iX, iY, iZ, jA, jB, jC, jD, jE, jF, jG, jH, jI, jJ, jK, jL, jM, jN, jO, jP, jQ, jR, jS, jT, jU, jV, jW, jX, jY, jZ, kA, kB, kC, kD, kE, kF, kG, kH, kI, kJ, kK, kL, kM, kN, kO, kP, kQ, kR, kS, kT, kU, kV, kW, kX, kY, kZ, lA, lB, lC, lD, lE, lF, lG, lH, lI, lJ, lK, lL, lM, lN, lO, lP, lQ, lR, lS, lT, lU, lV, lW, lX, lY, lZ, mA, mB, mC, mD, mE, mF, mG, mH, mI, mJ, mK, mL, mM, mN, mO, mP, mQ, mR, mS, mT, mU, mV, mW, mX, mY, mZ, nA, nB, nC, nD, nE, nF, nG, nH, nI, nJ, nK, nL, nM, nN, nO, nP, nQ, nR, nS, nT, nU, nV, nW, nX, nY, nZ, oA, oB, oC, oD, oE, oF, oG, oH, oI, oJ, oK, oL, oM, oN, oO, oP, oQ, oR, oS, oT, oU, oV, oW, oX, oY, oZ, pA, pB, pC, pD, pE, pF, pG, pH, pI, pJ, pK, pL, pM, pN, pO, pP, pQ, pR, pS, pT, pU, pV, pW, pX], []⟩) → J a' w') (h2 : ∀ a' w', Met J a' w' → K' a' w') :
  Code.wp Tryd.prog paySw (Exit.then K' Q') ⟨#[aA, .pointer (some ⟨b, 0, none⟩), .pointer (some ⟨b + 1, 0, none⟩), .pointer (some ⟨p, 0, none⟩), .func (.func 49) #[] #[.pointer (some ⟨p, 0, none⟩)], .int .i64 24, .pointer (some ⟨pr, 0, none⟩), aH, aI, aJ, aK, aL, aM, aN, aO, aP, aQ, aR, aS, aT, aU, aV, aW, aX, aY, aZ, bA, bB, bC, bD, bE, bF, bG, bH, bI, bJ, bK, bL, bM, bN, bO, bP, bQ, bR, bS, bT, bU, bV, bW, bX, bY, bZ, cA, cB, cC, cD, cE, cF, cG, .int .i64 24, cI, cJ, cK, cL, cM, cN, cO, cP, cQ, cR, cS, cT, cU, cV, cW, cX, cY, cZ, dA, dB, dC, dD, dE, dF, dG, dH, dI, dJ, dK, dL, dM, dN, dO, dP, dQ, dR, dS, dT, dU, dV, dW, dX, dY, dZ, eA, eB, eC, eD, eE, eF, eG, eH, eI, eJ, eK, eL, eM, eN, eO, eP, eQ, eR, eS, eT, eU, eV, eW, eX, eY, eZ, fA, fB, fC, fD, fE, fF, fG, fH, fI, fJ, fK, fL, fM, fN, fO, fP, fQ, fR, fS, fT, fU, fV, fW, fX, fY, fZ, gA, gB, gC, gD, gE, gF, gG, gH, gI, gJ, gK, gL, gM, gN, gO, gP, gQ, gR, gS, gT, gU, gV, gW, gX, gY, gZ, iA, iB, iC, iD, iE, iF, iG, iH, iI, iJ, iK, iL, iM, iN, iO, iP, iQ, iR, iS, iT, iU, iV, iW, iX, iY, iZ, jA, jB, jC, jD, jE, jF, jG, jH, jI, jJ, jK, jL, jM, jN, jO, jP, jQ, jR, jS, jT, jU, jV, jW, jX, jY, jZ, kA, kB, kC, kD, kE, kF, kG, kH, kI, kJ, kK, kL, kM, kN, kO, kP, kQ, kR, kS, kT, kU, kV, kW, kX, kY, kZ, lA, lB, lC, lD, lE, lF, lG, lH, lI, lJ, lK, lL, lM, lN, lO, lP, lQ, lR, lS, lT, lU, lV, lW, lX, lY, lZ, mA, mB, mC, mD, mE, mF, mG, mH, mI, mJ, mK, mL, mM, mN, mO, mP, mQ, mR, mS, mT, mU, mV, mW, mX, mY, mZ, nA, nB, nC, nD, nE, nF, nG, nH, nI, nJ, nK, nL, nM, nN, nO, nP, nQ, nR, nS, nT, nU, nV, nW, nX, nY, nZ, oA, oB, oC, oD, oE, oF, oG, oH, oI, oJ, oK, oL, oM, oN, oO, oP, oQ, oR, oS, oT, oU, oV, oW, oX, oY, oZ, pA, pB, pC, pD, pE, pF, pG, pH, pI, pJ, pK, pL, pM, pN, pO, pP, pQ, pR, pS, pT, pU, pV, pW, pX], []⟩ W := by
 obtain ⟨i, hi, hz0, hz1, hz2⟩ := info_parts iInfo
 have hm1 : m ≤ 1 := HM.out
 conv => arg 2; whnf
 have P2 := hid P.out.mark; clear P; have P := P2; clear P2
 have x0 := P.out.cx 0 (v := .int .i64 x.op) rfl
 have x1 := P.out.cx 1 (v := .int .i64 x.a) rfl
 have x2 := P.out.cx 2 (v := .int .i64 x.b) rfl
 have x3 := P.out.cx 3 (v := .int .i64 x.c) rfl
 have x4 := P.out.cx 4 (v := .slice x.la x.ln x.lc) rfl
 have x5 := P.out.cx 5 (v := .slice x.ba x.bn x.bc) rfl
 have p1 := pick_lo x.a 4 (by omega)
 have p2 := pick_hi x.a 4 (by omega)
 have hw1 : IntKind.i64.wrap (1 + pick x.a 4) = 1 + pick x.a 4 := IntWalk.i64_in _ (by omega)
 go_wp2_with fail
 refine (pick_any x.a 4 _ (by omega) (by omega)).mono ?_
 rintro e u ⟨rfl, rfl⟩
 dsimp only
 go_wp2_with fail
 refine (handNum_any _ _ _ _).mono ?_
 rintro e w5 ⟨rfl, hb5⟩
 dsimp only
 clear x0 x1 x2 x3 x4 x5
 have P2 := hid (P.out.grow hb5); have R2 := hid ((hb5.block _ (block_lt HRB.out)).trans HRB.out); clear hb5 P HRB; have P := P2; have HRB := R2; clear P2 R2
 go_wp2_with fail
 refine (P.out.add (numV_ok _ _ _ _) (numV_foot _) (by simp) (numV_nz _ _ _) (by omega) HRB.out).mono ?_
 rintro e w6 ⟨rfl, hp6, hr6⟩
 dsimp only
 clear P HRB
 have P := hid hp6; have HRB := hid hr6; clear hp6 hr6
 go_wp2_with fail
 go_meet
 exact ⟨_, _, by omega, P.out⟩
theorem pay_15 {x : AskD} {w W : World} {b p pr m c : Nat} {r : RawD} (aA aH aI aJ aK aL aM aN aO aP aQ aR aS aT aU aV aW aX aY aZ bA bB bC bD bE bF bG bH bI bJ bK bL bM bN bO bP bQ bR bS bT bU bV bW bX bY bZ cA cB cC cD cE cF cG cI cJ cK cL cM cN cO cP cQ cR cS cT cU cV cW cX cY cZ dA dB dC dD dE dF dG dH dI dJ dK dL dM dN dO dP dQ dR dS dT dU dV dW dX dY dZ eA eB eC eD eE eF eG eH eI eJ eK eL eM eN eO eP eQ eR eS eT eU eV eW eX eY eZ fA fB fC fD fE fF fG fH fI fJ fK fL fM fN fO fP fQ fR fS fT fU fV fW fX fY fZ gA gB gC gD gE gF gG gH gI gJ gK gL gM gN gO gP gQ gR gS gT gU gV gW gX gY gZ iA iB iC iD iE iF iG iH iI iJ iK iL iM iN iO iP iQ iR iS iT iU iV iW iX iY iZ jA jB jC jD jE jF jG jH jI jJ jK jL jM jN jO jP jQ jR jS jT jU jV jW jX jY jZ kA kB kC kD kE kF kG kH kI kJ kK kL kM kN kO kP kQ kR kS kT kU kV kW kX kY kZ lA lB lC lD lE lF lG lH lI lJ lK lL lM lN lO lP lQ lR lS lT lU lV lW lX lY lZ mA mB mC mD mE mF mG mH mI mJ mK mL mM mN mO mP mQ mR mS mT mU mV mW mX mY mZ nA nB nC nD nE nF nG nH nI nJ nK nL nM nN nO nP nQ nR nS nT nU nV nW nX nY nZ oA oB oC oD oE oF oG oH oI oJ oK oL oM oN oO oP oQ oR oS oT oU oV oW oX oY oZ pA pB pC pD pE pF pG pH pI pJ pK pL pM pN pO pP pQ pR pS pT pU pV pW pX : Value) (J K' : Act → World → Prop) (Q' : Exit → Act → World → Prop)
  (P : Hid (PS x w b p m c W)) (HM : Hid (m ≤ 1)) (HRB : Hid (W.heap[pr]? = some (.cells r.cells 75 (0, 0)))) (HRK : Hid r.ok) (HX : Hid (x.ok w)) (HT : Hid (NamesTab w))
  (h1 : ∀ a' w', (∃ aH aI aJ aK aL cI cJ cK cL cM cN cO cP cQ cR cS cT cU cV cW cX cY cZ dA dB dC dD dE dF dG dH dI dJ dK dL dM dN dO dP dQ dR dS dT dU dV dW dX dY dZ eA eB eC eD eE eF eG eH eI eJ eK eL eM eN eO eP eQ eR eS eT eU eV eW eX eY eZ fA fB fC fD fE fF fG fH fI fJ fK fL fM fN fO fP fQ fR fS fT fU fV fW fX fY fZ gA gB gC gD gE gF gG gH gI gJ gK gL gM gN gO gP gQ gR gS gT gU gV gW gX gY gZ iA iB iC iD iE iF iG iH iI iJ iK iL iM iN iO iP iQ iR iS iT iU iV iW iX iY iZ jA jB jC jD jE jF jG jH jI jJ jK jL jM jN jO jP jQ jR jS jT jU jV jW jX jY jZ kA kB kC kD kE kF kG kH kI kJ kK kL kM kN kO kP kQ kR kS kT kU kV kW kX kY kZ lA lB lC lD lE lF lG lH lI lJ lK lL lM lN lO lP lQ lR lS lT lU lV lW lX lY lZ mA mB mC mD mE mF mG mH mI mJ mK mL mM mN mO mP mQ mR mS mT mU mV mW mX mY mZ nA nB nC nD nE nF nG nH nI nJ nK nL nM nN nO nP nQ nR nS nT nU nV nW nX nY nZ oA oB oC oD oE oF oG oH oI oJ oK oL oM oN oO oP oQ oR oS oT oU oV oW oX oY oZ pA pB : Value, (∃ m c, m ≤ 11 ∧ PS x w b p m c w') ∧ a' = ⟨#[aA, .pointer (some ⟨b, 0, none⟩), .pointer (some ⟨b + 1, 0, none⟩), .pointer (some ⟨p, 0, none⟩), .func (.func 49) #[] #[.pointer (some ⟨p, 0, none⟩)], .int .i64 15, .pointer (some ⟨pr, 0, none⟩), aH, aI, aJ, aK, aL, aM, aN, aO, aP, aQ, aR, aS, aT, aU, aV, aW, aX, aY, aZ, bA, bB, bC, bD, bE, bF, bG, bH, bI, bJ, bK, bL, bM, bN, bO, bP, bQ, bR, bS, bT, bU, bV, bW, bX, bY, bZ, cA, cB, cC, cD, cE, cF, cG, .int .i64 15, cI, cJ, cK, cL, cM, cN, cO, cP, cQ, cR, cS, cT, cU, cV, cW, cX, cY, cZ, dA, dB, dC, dD, dE, dF, dG, dH, dI, dJ, dK, dL, dM, dN, dO, dP, dQ, dR, dS, dT, dU, dV, dW, dX, dY, dZ, eA, eB, eC, eD, eE, eF, eG, eH, eI, eJ, eK, eL, eM, eN, eO, eP, eQ, eR, eS, eT, eU, eV, eW, eX, eY, eZ, fA, fB, fC, fD, fE, fF, fG, fH, fI, fJ, fK, fL, fM, fN, fO, fP, fQ, fR, fS, fT, fU, fV, fW, fX, fY, fZ, gA, gB, gC, gD, gE, gF, gG, gH, gI, gJ, gK, gL, gM, gN, gO, gP, gQ, gR, gS, gT, gU, gV, gW, gX, gY, gZ, iA, iB, iC, iD, iE, iF, iG, iH, iI, iJ, iK, iL, iM, iN, iO, iP, iQ, iR, iS, iT, iU, iV, iW, iX, iY, iZ, jA, jB, jC, jD, jE, jF, jG, jH, jI, jJ, jK, jL, jM, jN, jO, jP, jQ, jR, jS, jT, jU, jV, jW, jX, jY, jZ, kA, kB, kC, kD, kE, kF, kG, kH, kI, kJ, kK, kL, kM, kN, kO, kP, kQ, kR, kS, kT, kU, kV, kW, kX, kY, kZ, lA, lB, lC, lD, lE, lF, lG, lH, lI, lJ, lK, lL, lM, lN, lO, lP, lQ, lR, lS, lT, lU, lV, lW, lX, lY, lZ, mA, mB, mC, mD, mE, mF, mG, mH, mI, mJ, mK, mL, mM, mN, mO, mP, mQ, mR, mS, mT, mU, mV, mW, mX, mY, mZ, nA, nB, nC, nD, nE, nF, nG, nH, nI, nJ, nK, nL, nM, nN, nO, nP, nQ, nR, nS, nT, nU, nV, nW, nX, nY, nZ, oA, oB, oC, oD, oE, oF, oG, oH, oI, oJ, oK, oL, oM, oN, oO, oP, oQ, oR, oS, oT, oU, oV, oW, oX, oY, oZ, pA, pB, pC, pD, pE, pF, pG, pH, pI, pJ, pK, pL, pM, pN, pO, pP, pQ, pR, pS, pT, pU, pV, pW, pX], []⟩) → J a' w') (h2 : ∀ a' w', Met J a' w' → K' a' w') :
  Code.wp Tryd.prog paySw (Exit.then K' Q') ⟨#[aA, .pointer (some ⟨b, 0, none⟩), .pointer (some ⟨b + 1, 0, none⟩), .pointer (some ⟨p, 0, none⟩), .func (.func 49) #[] #[.pointer (some ⟨p, 0, none⟩)], .int .i64 15, .pointer (some ⟨pr, 0, none⟩), aH, aI, aJ, aK, aL, aM, aN, aO, aP, aQ, aR, aS, aT, aU, aV, aW, aX, aY, aZ, bA, bB, bC, bD, bE, bF, bG, bH, bI, bJ, bK, bL, bM, bN, bO, bP, bQ, bR, bS, bT, bU, bV, bW, bX, bY, bZ, cA, cB, cC, cD, cE, cF, cG, .int .i64 15, cI, cJ, cK, cL, cM, cN, cO, cP, cQ, cR, cS, cT, cU, cV, cW, cX, cY, cZ, dA, dB, dC, dD, dE, dF, dG, dH, dI, dJ, dK, dL, dM, dN, dO, dP, dQ, dR, dS, dT, dU, dV, dW, dX, dY, dZ, eA, eB, eC, eD, eE, eF, eG, eH, eI, eJ, eK, eL, eM, eN, eO, eP, eQ, eR, eS, eT, eU, eV, eW, eX, eY, eZ, fA, fB, fC, fD, fE, fF, fG, fH, fI, fJ, fK, fL, fM, fN, fO, fP, fQ, fR, fS, fT, fU, fV, fW, fX, fY, fZ, gA, gB, gC, gD, gE, gF, gG, gH, gI, gJ, gK, gL, gM, gN, gO, gP, gQ, gR, gS, gT, gU, gV, gW, gX, gY, gZ, iA, iB, iC, iD, iE, iF, iG, iH, iI, iJ, iK, iL, iM, iN, iO, iP, iQ, iR, iS, iT, iU, iV, iW, iX, iY, iZ, jA, jB, jC, jD, jE, jF, jG, jH, jI, jJ, jK, jL, jM, jN, jO, jP, jQ, jR, jS, jT, jU, jV, jW, jX, jY, jZ, kA, kB, kC, kD, kE, kF, kG, kH, kI, kJ, kK, kL, kM, kN, kO, kP, kQ, kR, kS, kT, kU, kV, kW, kX, kY, kZ, lA, lB, lC, lD, lE, lF, lG, lH, lI, lJ, lK, lL, lM, lN, lO, lP, lQ, lR, lS, lT, lU, lV, lW, lX, lY, lZ, mA, mB, mC, mD, mE, mF, mG, mH, mI, mJ, mK, mL, mM, mN, mO, mP, mQ, mR, mS, mT, mU, mV, mW, mX, mY, mZ, nA, nB, nC, nD, nE, nF, nG, nH, nI, nJ, nK, nL, nM, nN, nO, nP, nQ, nR, nS, nT, nU, nV, nW, nX, nY, nZ, oA, oB, oC, oD, oE, oF, oG, oH, oI, oJ, oK, oL, oM, oN, oO, oP, oQ, oR, oS, oT, oU, oV, oW, oX, oY, oZ, pA, pB, pC, pD, pE, pF, pG, pH, pI, pJ, pK, pL, pM, pN, pO, pP, pQ, pR, pS, pT, pU, pV, pW, pX], []⟩ W := by
 obtain ⟨i, hi, hz0, hz1, hz2⟩ := info_parts iInfo
 have hm1 : m ≤ 1 := HM.out
 conv => arg 2; whnf
 have P2 := hid P.out.mark; clear P; have P := P2; clear P2
 have x0 := P.out.cx 0 (v := .int .i64 x.op) rfl
 have x1 := P.out.cx 1 (v := .int .i64 x.a) rfl
 have x2 := P.out.cx 2 (v := .int .i64 x.b) rfl
 have x3 := P.out.cx 3 (v := .int .i64 x.c) rfl
 have x4 := P.out.cx 4 (v := .slice x.la x.ln x.lc) rfl
 have x5 := P.out.cx 5 (v := .slice x.ba x.bn x.bc) rfl
 have r0 : _ = some (Value.int .i64 r.kind) := cell_of_block (j := 0) HRB.out rfl
 go_wp2_with fail
 refine (name_any _ _ (HT.out.below P.out.old)).mono ?_
 rintro e u ⟨rfl, rfl⟩
 dsimp only
 clear r0
 have HNS := hid (nmL_size (pickN r.kind 24))
 generalize nmL.getD (pickN r.kind 24) ⟨#[]⟩ = nm at *
 go_wp2_with fail
 refine (handText_any _ nm _ (by have := HNS.out; omega)).mono ?_
 rintro e w5 ⟨v, rfl, hvi, hvo, hvf0, hb5⟩
 dsimp only
 clear x0 x1 x2 x3 x4 x5
 have hvf : ∀ k ∈ v.foot, _ := fun k hk => Nat.le_trans P.out.lt.2.2 (hvf0 k hk)
 have hvt : v.typ ≠ 0 := by rw [← it_typ', hvi]; show (7 : Int) ≠ 0; decide
 have hvn : nz v.it = true := by rw [hvi]; rfl
 clear hvi hvf0
 have P2 := hid (P.out.grow hb5); have R2 := hid ((hb5.block _ (block_lt HRB.out)).trans HRB.out); clear hb5 P HRB; have P := P2; have HRB := R2; clear P2 R2
 have HVO := hid hvo; have HVF := hid hvf; have HVT := hid hvt; have HVN := hid hvn; clear hvo hvf hvt hvn
 go_wp2_with fail
 refine (P.out.add HVO.out HVF.out HVT.out HVN.out (by omega) HRB.out).mono ?_
 rintro e w6 ⟨rfl, hp6, hr6⟩
 dsimp only
 clear P HRB
 have P := hid hp6; have HRB := hid hr6; clear hp6 hr6
 clear HVO HVF HVT HVN
 have P2 := hid P.out.mark; clear P; have P := P2; clear P2
 have x0 := P.out.cx 0 (v := .int .i64 x.op) rfl
 have x1 := P.out.cx 1 (v := .int .i64 x.a) rfl
 have x2 := P.out.cx 2 (v := .int .i64 x.b) rfl
 have x3 := P.out.cx 3 (v := .int .i64 x.c) rfl
 have x4 := P.out.cx 4 (v := .slice x.la x.ln x.lc) rfl
 have x5 := P.out.cx 5 (v := .slice x.ba x.bn x.bc) rfl
 have hwq : IntKind.i64.wrap (x.b.tmod 3) = x.b.tmod 3 := wrap_tmod (by omega) (by omega)
 by_cases hcq : x.b.tmod 3 = 0
 ·have hdq : (x.b.tmod 3 == 0) = true := by simpa using hcq
  go_wp2_with fail
  refine (pick_any x.b 4 _ (by omega) (by omega)).mono ?_
  rintro e u ⟨rfl, rfl⟩
  dsimp only
  go_wp2_with fail
  refine (handNum_any _ _ _ _).mono ?_
  rintro e w5 ⟨rfl, hb5⟩
  dsimp only
  clear x0 x1 x2 x3 x4 x5
  have P2 := hid (P.out.grow hb5); have R2 := hid ((hb5.block _ (block_lt HRB.out)).trans HRB.out); clear hb5 P HRB; have P := P2; have HRB := R2; clear P2 R2
  go_wp2_with fail
  refine (P.out.add (numV_ok _ _ _ _) (numV_foot _) (by simp) (numV_nz _ _ _) (by omega) HRB.out).mono ?_
  rintro e w6 ⟨rfl, hp6, hr6⟩
  dsimp only
  clear P HRB
  have P := hid hp6; have HRB := hid hr6; clear hp6 hr6
  go_wp2_with fail
  go_meet
  exact ⟨_, _, by omega, P.out⟩
 ·have hdq : (x.b.tmod 3 == 0) = false := by simpa using hcq
  go_wp2_with fail
  go_meet
  exact ⟨_, _, by omega, P.out⟩
end
end Go.Proofs.YtbnbofooofedkaaDoor
