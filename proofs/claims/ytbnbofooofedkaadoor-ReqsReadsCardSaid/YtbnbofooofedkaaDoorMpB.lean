/- locksmithhand.Payload: arms of its switch. locksmithhand.Payload: arms of its switch. -/
import Derived.Test.YtbnbofooofedkaaDoorMb
import Derived.Test.YtbnbofooofedkaaDoorMa
namespace Go.Proofs.YtbnbofooofedkaaDoor
section
open Go.RowKit
set_option linter.unusedVariables false
set_option linter.unusedSimpArgs false
set_option maxRecDepth 1000000
set_option maxHeartbeats 16000000
theorem PS.cwB {x : AskD} {w W : World} {b p m c : Nat} (h : PS x w b p m c W) : ∃ cw, W.heap.size = cw := ⟨_, rfl⟩
theorem pay_1 {x : AskD} {w W : World} {b p pr m c : Nat} {r : RawD} (aA aH aI aJ aK aL aM aN aO aP aQ aR aS aT aU aV aW aX aY aZ bA bB bC bD bE bF bG bH bI bJ bK bL bM bN bO bP bQ bR bS bT bU bV bW bX bY bZ cA cB cC cD cE cF cG cI cJ cK cL cM cN cO cP cQ cR cS cT cU cV cW cX cY cZ dA dB dC dD dE dF dG dH dI dJ dK dL dM dN dO dP dQ dR dS dT dU dV dW dX dY dZ eA eB eC eD eE eF eG eH eI eJ eK eL eM eN eO eP eQ eR eS eT eU eV eW eX eY eZ fA fB fC fD fE fF fG fH fI fJ fK fL fM fN fO fP fQ fR fS fT fU fV fW fX fY fZ gA gB gC gD gE gF gG gH gI gJ gK gL gM gN gO gP gQ gR gS gT gU gV gW gX gY gZ iA iB iC iD iE iF iG iH iI iJ iK iL iM iN iO iP iQ iR iS iT iU iV iW iX iY iZ jA jB jC jD jE jF jG jH jI jJ jK jL jM jN jO jP jQ jR jS jT jU jV jW jX jY jZ kA kB kC kD kE kF kG kH kI kJ kK kL kM kN kO kP kQ kR kS kT kU kV kW kX kY kZ lA lB lC lD lE lF lG lH lI lJ lK lL lM lN lO lP lQ lR lS lT lU lV lW lX lY lZ mA mB mC mD mE mF mG mH mI mJ mK mL mM mN mO mP mQ mR mS mT mU mV mW mX mY mZ nA nB nC nD nE nF nG nH nI nJ nK nL nM nN nO nP nQ nR nS nT nU nV nW nX nY nZ oA oB oC oD oE oF oG oH oI oJ oK oL oM oN oO oP oQ oR oS oT oU oV oW oX oY oZ pA pB pC pD pE pF pG pH pI pJ pK pL pM pN pO pP pQ pR pS pT pU pV pW pX : Value) (J K' : Act → World → Prop) (Q' : Exit → Act → World → Prop)
  (P : Hid (PS x w b p m c W)) (HM : Hid (m ≤ 1)) (HRB : Hid (W.heap[pr]? = some (.cells r.cells 75 (0, 0)))) (HRK : Hid r.ok) (HX : Hid (x.ok w)) (HT : Hid (NamesTab w))
  (h1 : ∀ a' w', (∃ aH aI aJ aK aL cI cJ cK cL cM cN cO cP cQ cR cS cT cU cV cW cX cY cZ dA dB dC dD dE dF dG dH dI dJ dK dL dM dN dO dP dQ dR dS dT dU dV dW dX dY dZ eA eB eC eD eE eF eG eH eI eJ eK eL eM eN eO eP eQ eR eS eT eU eV eW eX eY eZ fA fB fC fD fE fF fG fH fI fJ fK fL fM fN fO fP fQ fR fS fT fU fV fW fX fY fZ gA gB gC gD gE gF gG gH gI gJ gK gL gM gN gO gP gQ gR gS gT gU gV gW gX gY gZ iA iB iC iD iE iF iG iH iI iJ iK iL iM iN iO iP iQ iR iS iT iU iV iW iX iY iZ jA jB jC jD jE jF jG jH jI jJ jK jL jM jN jO jP jQ jR jS jT jU jV jW jX jY jZ kA kB kC kD kE kF kG kH kI kJ kK kL kM kN kO kP kQ kR kS kT kU kV kW kX kY kZ lA lB lC lD lE lF lG lH lI lJ lK lL lM lN lO lP lQ lR lS lT lU lV lW lX lY lZ mA mB mC mD mE mF mG mH mI mJ mK mL mM mN mO mP mQ mR mS mT mU mV mW mX mY mZ nA nB nC nD nE nF nG nH nI nJ nK nL nM nN nO nP nQ nR nS nT nU nV nW nX nY nZ oA oB oC oD oE oF oG oH oI oJ oK oL oM oN oO oP oQ oR oS oT oU oV oW oX oY oZ pA pB : Value, (∃ m c, m ≤ 11 ∧ PS x w b p m c w') ∧ a' = ⟨#[aA, .pointer (some ⟨b, 0, none⟩), .pointer (some ⟨b + 1, 0, none⟩), .pointer (some ⟨p, 0, none⟩), .func (.func 49) #[] #[.pointer (some ⟨p, 0, none⟩)], .int .i64 1, .pointer (some ⟨pr, 0, none⟩), aH, aI, aJ, aK, aL, aM, aN, aO, aP, aQ, aR, aS, aT, aU, aV, aW, aX, aY, aZ, bA, bB, bC, bD, bE, bF, bG, bH, bI, bJ, bK, bL, bM, bN, bO, bP, bQ, bR, bS, bT, bU, bV, bW, bX, bY, bZ, cA, cB, cC, cD, cE, cF, cG, .int .i64 1, cI, cJ, cK, cL, cM, cN, cO, cP, cQ, cR, cS, cT, cU, cV, cW, cX, cY, cZ, dA, dB, dC, dD, dE, dF, dG, dH, dI, dJ, dK, dL, dM, dN, dO, dP, dQ, dR, dS, dT, dU, dV, dW, dX, dY, dZ, eA, eB, eC, eD, eE, eF, eG, eH, eI, eJ, eK, eL, eM, eN, eO, eP, eQ, eR, eS, eT, eU, eV, eW, eX, eY, eZ, fA, fB, fC, fD, fE, fF, fG, fH, fI, fJ, fK, fL, fM, fN, fO, fP, fQ, fR, fS, fT, fU, fV, fW, fX, fY, fZ, gA, gB, gC, gD, gE, gF, gG, gH, gI, gJ, gK, gL, gM, gN, gO, gP, gQ, gR, gS, gT, gU, gV, gW, gX, gY, gZ, iA, iB, iC, iD, iE, iF, iG, iH, iI, iJ, iK, iL, iM, iN, iO, iP, iQ, iR, iS, iT, iU, iV, iW, iX, iY, iZ, jA, jB, jC, jD, jE, jF, jG, jH, jI, jJ, jK, jL, jM, jN, jO, jP, jQ, jR, jS, jT, jU, jV, jW, jX, jY, jZ, kA, kB, kC, kD, kE, kF, kG, kH, kI, kJ, kK, kL, kM, kN, kO, kP, kQ, kR, kS, kT, kU, kV, kW, kX, kY, kZ, lA, lB, lC, lD, lE, lF, lG, lH, lI, lJ, lK, lL, lM, lN, lO, lP, lQ, lR, lS, lT, lU, lV, lW, lX, lY, lZ, mA, mB, mC, mD, mE, mF, mG, mH, mI, mJ, mK, mL, mM, mN, mO, mP, mQ, mR, mS, mT, mU, mV, mW, mX, mY, mZ, nA, nB, nC, nD, nE, nF, nG, nH, nI, nJ, nK, nL, nM, nN, nO, nP, nQ, nR, nS, nT, nU, nV, nW, nX, nY, nZ, oA, oB, oC, oD, oE, oF, oG, oH, oI, oJ, oK, oL, oM, oN, oO, oP, oQ, oR, oS, oT, oU, oV, oW, oX, oY, oZ, pA, pB, pC, pD, pE, pF, pG, pH, pI, pJ, pK, pL, pM, pN, pO, pP, pQ, pR, pS, pT, pU, pV, pW, pX], []⟩) → J a' w') (h2 : ∀ a' w', Met J a' w' → K' a' w') :
  Code.wp Tryd.prog paySw (Exit.then K' Q') ⟨#[aA, .pointer (some ⟨b, 0, none⟩), .pointer (some ⟨b + 1, 0, none⟩), .pointer (some ⟨p, 0, none⟩), .func (.func 49) #[] #[.pointer (some ⟨p, 0, none⟩)], .int .i64 1, .pointer (some ⟨pr, 0, none⟩), aH, aI, aJ, aK, aL, aM, aN, aO, aP, aQ, aR, aS, aT, aU, aV, aW, aX, aY, aZ, bA, bB, bC, bD, bE, bF, bG, bH, bI, bJ, bK, bL, bM, bN, bO, bP, bQ, bR, bS, bT, bU, bV, bW, bX, bY, bZ, cA, cB, cC, cD, cE, cF, cG, .int .i64 1, cI, cJ, cK, cL, cM, cN, cO, cP, cQ, cR, cS, cT, cU, cV, cW, cX, cY, cZ, dA, dB, dC, dD, dE, dF, dG, dH, dI, dJ, dK, dL, dM, dN, dO, dP, dQ, dR, dS, dT, dU, dV, dW, dX, dY, dZ, eA, eB, eC, eD, eE, eF, eG, eH, eI, eJ, eK, eL, eM, eN, eO, eP, eQ, eR, eS, eT, eU, eV, eW, eX, eY, eZ, fA, fB, fC, fD, fE, fF, fG, fH, fI, fJ, fK, fL, fM, fN, fO, fP, fQ, fR, fS, fT, fU, fV, fW, fX, fY, fZ, gA, gB, gC, gD, gE, gF, gG, gH, gI, gJ, gK, gL, gM, gN, gO, gP, gQ, gR, gS, gT, gU, gV, gW, gX, gY, gZ, iA, iB, iC, iD, iE, iF, iG, iH, iI, iJ, iK, iL, iM, iN, iO, iP, iQ, iR, iS, iT, iU, iV, iW, iX, iY, iZ, jA, jB, jC, jD, jE, jF, jG, jH, jI, jJ, jK, jL, jM, jN, jO, jP, jQ, jR, jS, jT, jU, jV, jW, jX, jY, jZ, kA, kB, kC, kD, kE, kF, kG, kH, kI, kJ, kK, kL, kM, kN, kO, kP, kQ, kR, kS, kT, kU, kV, kW, kX, kY, kZ, lA, lB, lC, lD, lE, lF, lG, lH, lI, lJ, lK, lL, lM, lN, lO, lP, lQ, lR, lS, lT, lU, lV, lW, lX, lY, lZ, mA, mB, mC, mD, mE, mF, mG, mH, mI, mJ, mK, mL, mM, mN, mO, mP, mQ, mR, mS, mT, mU, mV, mW, mX, mY, mZ, nA, nB, nC, nD, nE, nF, nG, nH, nI, nJ, nK, nL, nM, nN, nO, nP, nQ, nR, nS, nT, nU, nV, nW, nX, nY, nZ, oA, oB, oC, oD, oE, oF, oG, oH, oI, oJ, oK, oL, oM, oN, oO, oP, oQ, oR, oS, oT, oU, oV, oW, oX, oY, oZ, pA, pB, pC, pD, pE, pF, pG, pH, pI, pJ, pK, pL, pM, pN, pO, pP, pQ, pR, pS, pT, pU, pV, pW, pX], []⟩ W := by
 obtain ⟨i, hi, hz0, hz1, hz2⟩ := info_parts iInfo
 have hm1 : m ≤ 1 := HM.out
 conv => arg 2; whnf
 have P2 := hid P.out.mark; clear P; have P := P2; clear P2
 have x0 := P.out.cx 0 (v := .int .i64 x.op) rfl
 have x1 := P.out.cx 1 (v := .int .i64 x.a) rfl
 have x2 := P.out.cx 2 (v := .int .i64 x.b) rfl
 have x3 := P.out.cx 3 (v := .int .i64 x.c) rfl
 have x4 := P.out.cx 4 (v := .slice x.la x.ln x.lc) rfl
 have x5 := P.out.cx 5 (v := .slice x.ba x.bn x.bc) rfl
 have HPK : Hid (pick x.b 6 = (pickN x.b 6 : Int)) := pickN_eq _ 6 (by omega)
 have HLK : Hid (pickN x.b 6 < 6) := pickN_lt _ 6 (by omega)
 have HGK := hid (intsA_get [2, 2, 2, 2, 2, 7] (pickN x.b 6) (by simpa using HLK.out))
 go_wp2_with fail
 refine (pick_any x.b 6 _ (by omega) (by omega)).mono ?_
 rintro e u ⟨rfl, rfl⟩
 dsimp only
 rw [HPK.out]
 go_wp2_with (refine wpList_index_row rfl _ _ rfl Tryd.underlying84 sizeInt Tryd.underlying3 rfl (intsA [2, 2, 2, 2, 2, 7]) rfl _ rfl (pickN x.b 6) rfl _ HLK.out HGK.out ?_)
 clear HPK HLK HGK
 refine (handNum_any _ _ _ _).mono ?_
 rintro e w5 ⟨rfl, hb5⟩
 dsimp only
 clear x0 x1 x2 x3 x4 x5
 have P2 := hid (P.out.grow hb5); have R2 := hid ((hb5.block _ (block_lt HRB.out)).trans HRB.out); clear hb5 P HRB; have P := P2; have HRB := R2; clear P2 R2
 go_wp2_with fail
 refine (P.out.add (numV_ok _ _ _ _) (numV_foot _) (by simp) (numV_nz _ _ _) (by omega) HRB.out).mono ?_
 rintro e w6 ⟨rfl, hp6, hr6⟩
 dsimp only
 clear P HRB
 have P := hid hp6; have HRB := hid hr6; clear hp6 hr6
 have x0 := P.out.cx 0 (v := .int .i64 x.op) rfl
 have x1 := P.out.cx 1 (v := .int .i64 x.a) rfl
 have x2 := P.out.cx 2 (v := .int .i64 x.b) rfl
 have x3 := P.out.cx 3 (v := .int .i64 x.c) rfl
 have x4 := P.out.cx 4 (v := .slice x.la x.ln x.lc) rfl
 have x5 := P.out.cx 5 (v := .slice x.ba x.bn x.bc) rfl
 go_upto_region 12 with (fail)
 clear x0 x1 x2 x3 x4 x5
 have P2 := hid P.out.mark; clear P; have P := P2; clear P2
 obtain ⟨cw, hcw⟩ := P.out.cwB
 have HCW := hid hcw
 clear hcw
 refine wp_region_each 17 [.eq (.func (.func 49) #[] #[.pointer (some ⟨p, 0, none⟩)]), .eq (.agg #[.int .i64 3, .int .i64 3, .int .i64 3, .int .i64 3, .int .i64 3, .int .i64 3, .int .i64 3, .int .i64 4]), .eq (.pointer (some ⟨b, 1, none⟩)), .eq (.int .i64 x.a), .eq (.int .i64 (pick x.a 8)), .eq (.int .i64 ([3, 3, 3, 3, 3, 3, 3, 4].getD (pickN x.a 8) 0)), .eq (.agg #[.int .i64 128, .int .i64 128, .int .i64 192, .int .i64 256, .int .i64 128, .int .i64 64]), .eq (.pointer (some ⟨b, 3, none⟩)), .eq (.int .i64 x.c), .eq (.int .i64 (pick x.c 6)), .eq (.int .i64 ([128, 128, 192, 256, 128, 64].getD (pickN x.c 6) 0)), .eq (.pointer (some ⟨b, 4, none⟩)), .eq (.slice x.la x.ln x.lc), .eq (.pointer (some ⟨b, 2, none⟩)), .eq (.int .i64 x.b), .eq (.int .i64 (x.b.tdiv 7)), stSome cw] (by kernel_rfl) (by kernel_rfl) (by kernel_rfl) (by kernel_rfl) ?_ ?_
 ·all_goals
   refine each_5 ?_ ?_ ?_ ?_ ?_ (each_5 ?_ ?_ ?_ ?_ ?_ (each_5 ?_ ?_ ?_ ?_ ?_ (each_c ?_ (each_c ?_ (each_n)))))
   ·intro w1 hg Ar seen
    have s4 := seen.sl 4 (.func (.func 49) #[] #[.pointer (some ⟨p, 0, none⟩)])
    refine does_plain rfl fun K Q' hK => ?_
    go_simp; exact hK _ _ (Grow.refl _) rfl
   ·intro w1 hg Ar seen
    refine does_plain rfl fun K Q' hK => ?_
    go_simp; exact hK _ _ (Grow.refl _) rfl
   ·intro w1 hg Ar seen
    have s1 := seen.sl 1 (.pointer (some ⟨b, 0, none⟩))
    refine does_plain rfl fun K Q' hK => ?_
    go_simp; exact hK _ _ (Grow.refl _) rfl
   ·intro w1 hg Ar seen
    have e2 := seen.de 2 72
    refine does_plain rfl fun K Q' hK => ?_
    have hc := (P.out.grow hg).cx 1 (v := .int .i64 x.a) rfl
    go_simp; exact hK _ _ (Grow.refl _) rfl
   ·intro w1 hg Ar seen
    have e3 := seen.de 3 73
    refine does_plain rfl fun K Q' hK => ?_
    go_simp
    refine (pick_any x.a 8 _ (by omega) (by omega)).mono ?_
    rintro e u ⟨rfl, rfl⟩
    exact hK _ _ (Grow.refl _) rfl
   ·intro w1 hg Ar seen
    have e1 := seen.de 1 71
    have e4 := seen.de 4 74
    refine does_plain rfl fun K Q' hK => ?_
    refine wp_index_row _ _ rfl Tryd.underlying76 sizeInt' Tryd.underlying3 rfl (intsA [3, 3, 3, 3, 3, 3, 3, 4]) (by simp [Act.eval, e1, intsA]) _ (by simp [Act.eval, e4]) (pickN x.a 8) (pickN_eq _ _ (by omega)) _ (pickN_lt _ 8 (by omega)) (intsA_get [3, 3, 3, 3, 3, 3, 3, 4] _ (pickN_lt _ 8 (by omega))) ?_
    exact hK _ _ (Grow.refl _) rfl
   ·intro w1 hg Ar seen
    refine does_plain rfl fun K Q' hK => ?_
    go_simp; exact hK _ _ (Grow.refl _) rfl
   ·intro w1 hg Ar seen
    have s1 := seen.sl 1 (.pointer (some ⟨b, 0, none⟩))
    refine does_plain rfl fun K Q' hK => ?_
    go_simp; exact hK _ _ (Grow.refl _) rfl
   ·intro w1 hg Ar seen
    have e7 := seen.de 7 77
    refine does_plain rfl fun K Q' hK => ?_
    have hc := (P.out.grow hg).cx 3 (v := .int .i64 x.c) rfl
    go_simp; exact hK _ _ (Grow.refl _) rfl
   ·intro w1 hg Ar seen
    have e8 := seen.de 8 78
    refine does_plain rfl fun K Q' hK => ?_
    go_simp
    refine (pick_any x.c 6 _ (by omega) (by omega)).mono ?_
    rintro e u ⟨rfl, rfl⟩
    exact hK _ _ (Grow.refl _) rfl
   ·intro w1 hg Ar seen
    have e6 := seen.de 6 76
    have e9 := seen.de 9 79
    refine does_plain rfl fun K Q' hK => ?_
    refine wp_index_row _ _ rfl Tryd.underlying84 sizeInt' Tryd.underlying3 rfl (intsA [128, 128, 192, 256, 128, 64]) (by simp [Act.eval, e6, intsA]) _ (by simp [Act.eval, e9]) (pickN x.c 6) (pickN_eq _ _ (by omega)) _ (pickN_lt _ 6 (by omega)) (intsA_get [128, 128, 192, 256, 128, 64] _ (pickN_lt _ 6 (by omega))) ?_
    exact hK _ _ (Grow.refl _) rfl
   ·intro w1 hg Ar seen
    have s1 := seen.sl 1 (.pointer (some ⟨b, 0, none⟩))
    refine does_plain rfl fun K Q' hK => ?_
    go_simp; exact hK _ _ (Grow.refl _) rfl
   ·intro w1 hg Ar seen
    have e11 := seen.de 11 81
    refine does_plain rfl fun K Q' hK => ?_
    have hc := (P.out.grow hg).cx 4 (v := .slice x.la x.ln x.lc) rfl
    go_simp; exact hK _ _ (Grow.refl _) rfl
   ·intro w1 hg Ar seen
    have s1 := seen.sl 1 (.pointer (some ⟨b, 0, none⟩))
    refine does_plain rfl fun K Q' hK => ?_
    go_simp; exact hK _ _ (Grow.refl _) rfl
   ·intro w1 hg Ar seen
    have e13 := seen.de 13 83
    refine does_plain rfl fun K Q' hK => ?_
    have hc := (P.out.grow hg).cx 2 (v := .int .i64 x.b) rfl
    go_simp; exact hK _ _ (Grow.refl _) rfl
   ·intro w1 hg Ar seen
    have e14 := seen.de 14 84
    refine does_plain rfl fun K Q' hK => ?_
    have hw : IntKind.i64.wrap (x.b.tdiv 7) = x.b.tdiv 7 := wrap_tdiv (by omega) HX.out.b
    go_simp; exact hK _ _ (Grow.refl _) rfl
   ·intro w1 hg Ar seen
    have e5 := seen.de 5 75
    have e10 := seen.de 10 80
    have e12 := seen.de 12 82
    have e15 := seen.de 15 85
    refine does_plain rfl fun K Q' hK => ?_
    go_simp
    refine (template_any _ _ x.la x.ln x.lc x.l _ _ (HX.out.below (P.out.grow hg).old).l).mono ?_
    rintro e u ⟨v, rfl, hvo, hvn, hvf, hvt, hb⟩
    exact hK _ _ hb ⟨v, rfl, hvo, (fun k hk => by have h0 := hvf k hk; have h1 := HCW.out; have h2 := hg.size; omega), hvt, hvn⟩
 intro w1 hg
 refine upon_w' (js := [0, 1, 2, 3, 4, 5, 6, 7, 8, 9, 10, 11, 12, 13, 14, 15, 16]) (by rfl) ?_
 refine upon_e (some 70) (upon_e (some 71) (upon_e (some 72) (upon_e (some 73) (upon_e (some 74) (upon_e (some 75) (upon_e (some 76) (upon_e (some 77) (upon_e (some 78) (upon_e (some 79) (upon_e (some 80) (upon_e (some 81) (upon_e (some 82) (upon_e (some 83) (upon_e (some 84) (upon_e (some 85) (upon_v (some 86) fun v16 h16 => upon_n ?_))))))))))))))))
 obtain ⟨v, rfl, hvo, hvf0, hvt, hvn⟩ := h16
 have hvf : ∀ k ∈ v.foot, _ := fun k hk => Nat.le_trans (Nat.le_of_eq HCW.out) (hvf0 k hk)
 have hb5 := hg
 clear hvf0 HCW hg 
 have P2 := hid (P.out.grow hb5); have R2 := hid ((hb5.block _ (block_lt HRB.out)).trans HRB.out); clear hb5 P HRB; have P := P2; have HRB := R2; clear P2 R2
 go_simp
 have HVO := hid hvo; have HVF := hid hvf; have HVT := hid hvt; have HVN := hid hvn; clear hvo hvf hvt hvn
 go_wp2_with fail
 refine (P.out.add HVO.out HVF.out HVT.out HVN.out (by omega) HRB.out).mono ?_
 rintro e w6 ⟨rfl, hp6, hr6⟩
 dsimp only
 clear P HRB
 have P := hid hp6; have HRB := hid hr6; clear hp6 hr6
 clear HVO HVF HVT HVN
 go_wp2_with fail
 go_meet
 exact ⟨_, _, by omega, P.out⟩
theorem pay_13 {x : AskD} {w W : World} {b p pr m c : Nat} {r : RawD} (aA aH aI aJ aK aL aM aN aO aP aQ aR aS aT aU aV aW aX aY aZ bA bB bC bD bE bF bG bH bI bJ bK bL bM bN bO bP bQ bR bS bT bU bV bW bX bY bZ cA cB cC cD cE cF cG cI cJ cK cL cM cN cO cP cQ cR cS cT cU cV cW cX cY cZ dA dB dC dD dE dF dG dH dI dJ dK dL dM dN dO dP dQ dR dS dT dU dV dW dX dY dZ eA eB eC eD eE eF eG eH eI eJ eK eL eM eN eO eP eQ eR eS eT eU eV eW eX eY eZ fA fB fC fD fE fF fG fH fI fJ fK fL fM fN fO fP fQ fR fS fT fU fV fW fX fY fZ gA gB gC gD gE gF gG gH gI gJ gK gL gM gN gO gP gQ gR gS gT gU gV gW gX gY gZ iA iB iC iD iE iF iG iH iI iJ iK iL iM iN iO iP iQ iR iS iT iU iV iW iX iY iZ jA jB jC jD jE jF jG jH jI jJ jK jL jM jN jO jP jQ jR jS jT jU jV jW jX jY jZ kA kB kC kD kE kF kG kH kI kJ kK kL kM kN kO kP kQ kR kS kT kU kV kW kX kY kZ lA lB lC lD lE lF lG lH lI lJ lK lL lM lN lO lP lQ lR lS lT lU lV lW lX lY lZ mA mB mC mD mE mF mG mH mI mJ mK mL mM mN mO mP mQ mR mS mT mU mV mW mX mY mZ nA nB nC nD nE nF nG nH nI nJ nK nL nM nN nO nP nQ nR nS nT nU nV nW nX nY nZ oA oB oC oD oE oF oG oH oI oJ oK oL oM oN oO oP oQ oR oS oT oU oV oW oX oY oZ pA pB pC pD pE pF pG pH pI pJ pK pL pM pN pO pP pQ pR pS pT pU pV pW pX : Value) (J K' : Act → World → Prop) (Q' : Exit → Act → World → Prop)
  (P : Hid (PS x w b p m c W)) (HM : Hid (m ≤ 1)) (HRB : Hid (W.heap[pr]? = some (.cells r.cells 75 (0, 0)))) (HRK : Hid r.ok) (HX : Hid (x.ok w)) (HT : Hid (NamesTab w))
  (h1 : ∀ a' w', (∃ aH aI aJ aK aL cI cJ cK cL cM cN cO cP cQ cR cS cT cU cV cW cX cY cZ dA dB dC dD dE dF dG dH dI dJ dK dL dM dN dO dP dQ dR dS dT dU dV dW dX dY dZ eA eB eC eD eE eF eG eH eI eJ eK eL eM eN eO eP eQ eR eS eT eU eV eW eX eY eZ fA fB fC fD fE fF fG fH fI fJ fK fL fM fN fO fP fQ fR fS fT fU fV fW fX fY fZ gA gB gC gD gE gF gG gH gI gJ gK gL gM gN gO gP gQ gR gS gT gU gV gW gX gY gZ iA iB iC iD iE iF iG iH iI iJ iK iL iM iN iO iP iQ iR iS iT iU iV iW iX iY iZ jA jB jC jD jE jF jG jH jI jJ jK jL jM jN jO jP jQ jR jS jT jU jV jW jX jY jZ kA kB kC kD kE kF kG kH kI kJ kK kL kM kN kO kP kQ kR kS kT kU kV kW kX kY kZ lA lB lC lD lE lF lG lH lI lJ lK lL lM lN lO lP lQ lR lS lT lU lV lW lX lY lZ mA mB mC mD mE mF mG mH mI mJ mK mL mM mN mO mP mQ mR mS mT mU mV mW mX mY mZ nA nB nC nD nE nF nG nH nI nJ nK nL nM nN nO nP nQ nR nS nT nU nV nW nX nY nZ oA oB oC oD oE oF oG oH oI oJ oK oL oM oN oO oP oQ oR oS oT oU oV oW oX oY oZ pA pB : Value, (∃ m c, m ≤ 11 ∧ PS x w b p m c w') ∧ a' = ⟨#[aA, .pointer (some ⟨b, 0, none⟩), .pointer (some ⟨b + 1, 0, none⟩), .pointer (some ⟨p, 0, none⟩), .func (.func 49) #[] #[.pointer (some ⟨p, 0, none⟩)], .int .i64 13, .pointer (some ⟨pr, 0, none⟩), aH, aI, aJ, aK, aL, aM, aN, aO, aP, aQ, aR, aS, aT, aU, aV, aW, aX, aY, aZ, bA, bB, bC, bD, bE, bF, bG, bH, bI, bJ, bK, bL, bM, bN, bO, bP, bQ, bR, bS, bT, bU, bV, bW, bX, bY, bZ, cA, cB, cC, cD, cE, cF, cG, .int .i64 13, cI, cJ, cK, cL, cM, cN, cO, cP, cQ, cR, cS, cT, cU, cV, cW, cX, cY, cZ, dA, dB, dC, dD, dE, dF, dG, dH, dI, dJ, dK, dL, dM, dN, dO, dP, dQ, dR, dS, dT, dU, dV, dW, dX, dY, dZ, eA, eB, eC, eD, eE, eF, eG, eH, eI, eJ, eK, eL, eM, eN, eO, eP, eQ, eR, eS, eT, eU, eV, eW, eX, eY, eZ, fA, fB, fC, fD, fE, fF, fG, fH, fI, fJ, fK, fL, fM, fN, fO, fP, fQ, fR, fS, fT, fU, fV, fW, fX, fY, fZ, gA, gB, gC, gD, gE, gF, gG, gH, gI, gJ, gK, gL, gM, gN, gO, gP, gQ, gR, gS, gT, gU, gV, gW, gX, gY, gZ, iA, iB, iC, iD, iE, iF, iG, iH, iI, iJ, iK, iL, iM, iN, iO, iP, iQ, iR, iS, iT, iU, iV, iW, iX, iY, iZ, jA, jB, jC, jD, jE, jF, jG, jH, jI, jJ, jK, jL, jM, jN, jO, jP, jQ, jR, jS, jT, jU, jV, jW, jX, jY, jZ, kA, kB, kC, kD, kE, kF, kG, kH, kI, kJ, kK, kL, kM, kN, kO, kP, kQ, kR, kS, kT, kU, kV, kW, kX, kY, kZ, lA, lB, lC, lD, lE, lF, lG, lH, lI, lJ, lK, lL, lM, lN, lO, lP, lQ, lR, lS, lT, lU, lV, lW, lX, lY, lZ, mA, mB, mC, mD, mE, mF, mG, mH, mI, mJ, mK, mL, mM, mN, mO, mP, mQ, mR, mS, mT, mU, mV, mW, mX, mY, mZ, nA, nB, nC, nD, nE, nF, nG, nH, nI, nJ, nK, nL, nM, nN, nO, nP, nQ, nR, nS, nT, nU, nV, nW, nX, nY, nZ, oA, oB, oC, oD, oE, oF, oG, oH, oI, oJ, oK, oL, oM, oN, oO, oP, oQ, oR, oS, oT, oU, oV, oW, oX, oY, oZ, pA, pB, pC, pD, pE, pF, pG, pH, pI, pJ, pK, pL, pM, pN, pO, pP, pQ, pR, pS, pT, pU, pV, pW, pX], []⟩) → J a' w') (h2 : ∀ a' w', Met J a' w' → K' a' w') :
  Code.wp Tryd.prog paySw (Exit.then K' Q') ⟨#[aA, .pointer (some ⟨b, 0, none⟩), .pointer (some ⟨b + 1, 0, none⟩), .pointer (some ⟨p, 0, none⟩), .func (.func 49) #[] #[.pointer (some ⟨p, 0, none⟩)], .int .i64 13, .pointer (some ⟨pr, 0, none⟩), aH, aI, aJ, aK, aL, aM, aN, aO, aP, aQ, aR, aS, aT, aU, aV, aW, aX, aY, aZ, bA, bB, bC, bD, bE, bF, bG, bH, bI, bJ, bK, bL, bM, bN, bO, bP, bQ, bR, bS, bT, bU, bV, bW, bX, bY, bZ, cA, cB, cC, cD, cE, cF, cG, .int .i64 13, cI, cJ, cK, cL, cM, cN, cO, cP, cQ, cR, cS, cT, cU, cV, cW, cX, cY, cZ, dA, dB, dC, dD, dE, dF, dG, dH, dI, dJ, dK, dL, dM, dN, dO, dP, dQ, dR, dS, dT, dU, dV, dW, dX, dY, dZ, eA, eB, eC, eD, eE, eF, eG, eH, eI, eJ, eK, eL, eM, eN, eO, eP, eQ, eR, eS, eT, eU, eV, eW, eX, eY, eZ, fA, fB, fC, fD, fE, fF, fG, fH, fI, fJ, fK, fL, fM, fN, fO, fP, fQ, fR, fS, fT, fU, fV, fW, fX, fY, fZ, gA, gB, gC, gD, gE, gF, gG, gH, gI, gJ, gK, gL, gM, gN, gO, gP, gQ, gR, gS, gT, gU, gV, gW, gX, gY, gZ, iA, iB, iC, iD, iE, iF, iG, iH, iI, iJ, iK, iL, iM, iN, iO, iP, iQ, iR, iS, iT, iU, iV, iW, iX, iY, iZ, jA, jB, jC, jD, jE, jF, jG, jH, jI, jJ, jK, jL, jM, jN, jO, jP, jQ, jR, jS, jT, jU, jV, jW, jX, jY, jZ, kA, kB, kC, kD, kE, kF, kG, kH, kI, kJ, kK, kL, kM, kN, kO, kP, kQ, kR, kS, kT, kU, kV, kW, kX, kY, kZ, lA, lB, lC, lD, lE, lF, lG, lH, lI, lJ, lK, lL, lM, lN, lO, lP, lQ, lR, lS, lT, lU, lV, lW, lX, lY, lZ, mA, mB, mC, mD, mE, mF, mG, mH, mI, mJ, mK, mL, mM, mN, mO, mP, mQ, mR, mS, mT, mU, mV, mW, mX, mY, mZ, nA, nB, nC, nD, nE, nF, nG, nH, nI, nJ, nK, nL, nM, nN, nO, nP, nQ, nR, nS, nT, nU, nV, nW, nX, nY, nZ, oA, oB, oC, oD, oE, oF, oG, oH, oI, oJ, oK, oL, oM, oN, oO, oP, oQ, oR, oS, oT, oU, oV, oW, oX, oY, oZ, pA, pB, pC, pD, pE, pF, pG, pH, pI, pJ, pK, pL, pM, pN, pO, pP, pQ, pR, pS, pT, pU, pV, pW, pX], []⟩ W := by
 obtain ⟨i, hi, hz0, hz1, hz2⟩ := info_parts iInfo
 have hm1 : m ≤ 1 := HM.out
 conv => arg 2; whnf
 have P2 := hid P.out.mark; clear P; have P := P2; clear P2
 have x0 := P.out.cx 0 (v := .int .i64 x.op) rfl
 have x1 := P.out.cx 1 (v := .int .i64 x.a) rfl
 have x2 := P.out.cx 2 (v := .int .i64 x.b) rfl
 have x3 := P.out.cx 3 (v := .int .i64 x.c) rfl
 have x4 := P.out.cx 4 (v := .slice x.la x.ln x.lc) rfl
 have x5 := P.out.cx 5 (v := .slice x.ba x.bn x.bc) rfl
 go_wp2_with (refine wpList_load_row rfl 75 _ rfl pr rfl _ _ _ _ HRB.out Tryd.underlying75 rfl rawSzA ?_)
 refine (attr_any _ HRK.out _ (HT.out.below P.out.old)).mono ?_
 rintro e w4 ⟨nm, ix, v4, rfl, hn4, ho4, hz4, hf4, ht4, hb4⟩
 dsimp only
 have hf4' : ∀ k ∈ v4.foot, _ := fun k hk => Nat.le_trans P.out.lt.2.2 (hf4 k hk)
 clear hf4
 clear x0 x1 x2 x3 x4 x5
 have P2 := hid (P.out.grow hb4); have R2 := hid ((hb4.block _ (block_lt HRB.out)).trans HRB.out); clear hb4 P HRB; have P := P2; have HRB := R2; clear P2 R2
 have HA1 := hid (And.intro hn4 (And.intro ho4 (And.intro hz4 (And.intro hf4' ht4))))
 clear hn4 ho4 hz4 hf4' ht4
 go_wp2_with fail
 refine (layA_any nm ix v4 _ _ (by have := HA1.out.1; omega) HA1.out.2.1 HA1.out.2.2.1 HA1.out.2.2.2.2 HA1.out.2.2.2.1 (fun k hk => Nat.le_trans P.out.lt.2.2 hk)).mono ?_
 rintro e w5 ⟨v, rfl, hvo, hvn, hvf, hvt, hb5⟩
 dsimp only
 clear HA1
 have P2 := hid (P.out.grow hb5); have R2 := hid ((hb5.block _ (block_lt HRB.out)).trans HRB.out); clear hb5 P HRB; have P := P2; have HRB := R2; clear P2 R2
 have HVO := hid hvo; have HVF := hid hvf; have HVT := hid hvt; have HVN := hid hvn; clear hvo hvf hvt hvn
 go_wp2_with fail
 refine (P.out.add HVO.out HVF.out HVT.out HVN.out (by omega) HRB.out).mono ?_
 rintro e w6 ⟨rfl, hp6, hr6⟩
 dsimp only
 clear P HRB
 have P := hid hp6; have HRB := hid hr6; clear hp6 hr6
 clear HVO HVF HVT HVN
 go_wp2_with fail
 go_meet
 exact ⟨_, _, by omega, P.out⟩
theorem pay_14 {x : AskD} {w W : World} {b p pr m c : Nat} {r : RawD} (aA aH aI aJ aK aL aM aN aO aP aQ aR aS aT aU aV aW aX aY aZ bA bB bC bD bE bF bG bH bI bJ bK bL bM bN bO bP bQ bR bS bT bU bV bW bX bY bZ cA cB cC cD cE cF cG cI cJ cK cL cM cN cO cP cQ cR cS cT cU cV cW cX cY cZ dA dB dC dD dE dF dG dH dI dJ dK dL dM dN dO dP dQ dR dS dT dU dV dW dX dY dZ eA eB eC eD eE eF eG eH eI eJ eK eL eM eN eO eP eQ eR eS eT eU eV eW eX eY eZ fA fB fC fD fE fF fG fH fI fJ fK fL fM fN fO fP fQ fR fS fT fU fV fW fX fY fZ gA gB gC gD gE gF gG gH gI gJ gK gL gM gN gO gP gQ gR gS gT gU gV gW gX gY gZ iA iB iC iD iE iF iG iH iI iJ iK iL iM iN iO iP iQ iR iS iT iU iV iW iX iY iZ jA jB jC jD jE jF jG jH jI jJ jK jL jM jN jO jP jQ jR jS jT jU jV jW jX jY jZ kA kB kC kD kE kF kG kH kI kJ kK kL kM kN kO kP kQ kR kS kT kU kV kW kX kY kZ lA lB lC lD lE lF lG lH lI lJ lK lL lM lN lO lP lQ lR lS lT lU lV lW lX lY lZ mA mB mC mD mE mF mG mH mI mJ mK mL mM mN mO mP mQ mR mS mT mU mV mW mX mY mZ nA nB nC nD nE nF nG nH nI nJ nK nL nM nN nO nP nQ nR nS nT nU nV nW nX nY nZ oA oB oC oD oE oF oG oH oI oJ oK oL oM oN oO oP oQ oR oS oT oU oV oW oX oY oZ pA pB pC pD pE pF pG pH pI pJ pK pL pM pN pO pP pQ pR pS pT pU pV pW pX : Value) (J K' : Act → World → Prop) (Q' : Exit → Act → World → Prop)
  (P : Hid (PS x w b p m c W)) (HM : Hid (m ≤ 1)) (HRB : Hid (W.heap[pr]? = some (.cells r.cells 75 (0, 0)))) (HRK : Hid r.ok) (HX : Hid (x.ok w)) (HT : Hid (NamesTab w))
  (h1 : ∀ a' w', (∃ aH aI aJ aK aL cI cJ cK cL cM cN cO cP cQ cR cS cT cU cV cW cX cY cZ dA dB dC dD dE dF dG dH dI dJ dK dL dM dN dO dP dQ dR dS dT dU dV dW dX dY dZ eA eB eC eD eE eF eG eH eI eJ eK eL eM eN eO eP eQ eR eS eT eU eV eW eX eY eZ fA fB fC fD fE fF fG fH fI fJ fK fL fM fN fO fP fQ fR fS fT fU fV fW fX fY fZ gA gB gC gD gE gF gG gH gI gJ gK gL gM gN gO gP gQ gR gS gT gU gV gW gX gY gZ iA iB iC iD iE iF iG iH iI iJ iK iL iM iN iO iP iQ iR iS iT iU iV iW iX iY iZ jA jB jC jD jE jF jG jH jI jJ jK jL jM jN jO jP jQ jR jS jT jU jV jW jX jY jZ kA kB kC kD kE kF kG kH kI kJ kK kL kM kN kO kP kQ kR kS kT kU kV kW kX kY kZ lA lB lC lD lE lF lG lH lI lJ lK lL lM lN lO lP lQ lR lS lT lU lV lW lX lY lZ mA mB mC mD mE mF mG mH mI mJ mK mL mM mN mO mP mQ mR mS mT mU mV mW mX mY mZ nA nB nC nD nE nF nG nH nI nJ nK nL nM nN nO nP nQ nR nS nT nU nV nW nX nY nZ oA oB oC oD oE oF oG oH oI oJ oK oL oM oN oO oP oQ oR oS oT oU oV oW oX oY oZ pA pB : Value, (∃ m c, m ≤ 11 ∧ PS x w b p m c w') ∧ a' = ⟨#[aA, .pointer (some ⟨b, 0, none⟩), .pointer (some ⟨b + 1, 0, none⟩), .pointer (some ⟨p, 0, none⟩), .func (.func 49) #[] #[.pointer (some ⟨p, 0, none⟩)], .int .i64 14, .pointer (some ⟨pr, 0, none⟩), aH, aI, aJ, aK, aL, aM, aN, aO, aP, aQ, aR, aS, aT, aU, aV, aW, aX, aY, aZ, bA, bB, bC, bD, bE, bF, bG, bH, bI, bJ, bK, bL, bM, bN, bO, bP, bQ, bR, bS, bT, bU, bV, bW, bX, bY, bZ, cA, cB, cC, cD, cE, cF, cG, .int .i64 14, cI, cJ, cK, cL, cM, cN, cO, cP, cQ, cR, cS, cT, cU, cV, cW, cX, cY, cZ, dA, dB, dC, dD, dE, dF, dG, dH, dI, dJ, dK, dL, dM, dN, dO, dP, dQ, dR, dS, dT, dU, dV, dW, dX, dY, dZ, eA, eB, eC, eD, eE, eF, eG, eH, eI, eJ, eK, eL, eM, eN, eO, eP, eQ, eR, eS, eT, eU, eV, eW, eX, eY, eZ, fA, fB, fC, fD, fE, fF, fG, fH, fI, fJ, fK, fL, fM, fN, fO, fP, fQ, fR, fS, fT, fU, fV, fW, fX, fY, fZ, gA, gB, gC, gD, gE, gF, gG, gH, gI, gJ, gK, gL, gM, gN, gO, gP, gQ, gR, gS, gT, gU, gV, gW, gX, gY, gZ, iA, iB, iC, iD, iE, iF, iG, iH, iI, iJ, iK, iL, iM, iN, iO, iP, iQ, iR, iS, iT, iU, iV, iW, iX, iY, iZ, jA, jB, jC, jD, jE, jF, jG, jH, jI, jJ, jK, jL, jM, jN, jO, jP, jQ, jR, jS, jT, jU, jV, jW, jX, jY, jZ, kA, kB, kC, kD, kE, kF, kG, kH, kI, kJ, kK, kL, kM, kN, kO, kP, kQ, kR, kS, kT, kU, kV, kW, kX, kY, kZ, lA, lB, lC, lD, lE, lF, lG, lH, lI, lJ, lK, lL, lM, lN, lO, lP, lQ, lR, lS, lT, lU, lV, lW, lX, lY, lZ, mA, mB, mC, mD, mE, mF, mG, mH, mI, mJ, mK, mL, mM, mN, mO, mP, mQ, mR, mS, mT, mU, mV, mW, mX, mY, mZ, nA, nB, nC, nD, nE, nF, nG, nH, nI, nJ, nK, nL, nM, nN, nO, nP, nQ, nR, nS, nT, nU, nV, nW, nX, nY, nZ, oA, oB, oC, oD, oE, oF, oG, oH, oI, oJ, oK, oL, oM, oN, oO, oP, oQ, oR, oS, oT, oU, oV, oW, oX, oY, oZ, pA, pB, pC, pD, pE, pF, pG, pH, pI, pJ, pK, pL, pM, pN, pO, pP, pQ, pR, pS, pT, pU, pV, pW, pX], []⟩) → J a' w') (h2 : ∀ a' w', Met J a' w' → K' a' w') :
  Code.wp Tryd.prog paySw (Exit.then K' Q') ⟨#[aA, .pointer (some ⟨b, 0, none⟩), .pointer (some ⟨b + 1, 0, none⟩), .pointer (some ⟨p, 0, none⟩), .func (.func 49) #[] #[.pointer (some ⟨p, 0, none⟩)], .int .i64 14, .pointer (some ⟨pr, 0, none⟩), aH, aI, aJ, aK, aL, aM, aN, aO, aP, aQ, aR, aS, aT, aU, aV, aW, aX, aY, aZ, bA, bB, bC, bD, bE, bF, bG, bH, bI, bJ, bK, bL, bM, bN, bO, bP, bQ, bR, bS, bT, bU, bV, bW, bX, bY, bZ, cA, cB, cC, cD, cE, cF, cG, .int .i64 14, cI, cJ, cK, cL, cM, cN, cO, cP, cQ, cR, cS, cT, cU, cV, cW, cX, cY, cZ, dA, dB, dC, dD, dE, dF, dG, dH, dI, dJ, dK, dL, dM, dN, dO, dP, dQ, dR, dS, dT, dU, dV, dW, dX, dY, dZ, eA, eB, eC, eD, eE, eF, eG, eH, eI, eJ, eK, eL, eM, eN, eO, eP, eQ, eR, eS, eT, eU, eV, eW, eX, eY, eZ, fA, fB, fC, fD, fE, fF, fG, fH, fI, fJ, fK, fL, fM, fN, fO, fP, fQ, fR, fS, fT, fU, fV, fW, fX, fY, fZ, gA, gB, gC, gD, gE, gF, gG, gH, gI, gJ, gK, gL, gM, gN, gO, gP, gQ, gR, gS, gT, gU, gV, gW, gX, gY, gZ, iA, iB, iC, iD, iE, iF, iG, iH, iI, iJ, iK, iL, iM, iN, iO, iP, iQ, iR, iS, iT, iU, iV, iW, iX, iY, iZ, jA, jB, jC, jD, jE, jF, jG, jH, jI, jJ, jK, jL, jM, jN, jO, jP, jQ, jR, jS, jT, jU, jV, jW, jX, jY, jZ, kA, kB, kC, kD, kE, kF, kG, kH, kI, kJ, kK, kL, kM, kN, kO, kP, kQ, kR, kS, kT, kU, kV, kW, kX, kY, kZ, lA, lB, lC, lD, lE, lF, lG, lH, lI, lJ, lK, lL, lM, lN, lO, lP, lQ, lR, lS, lT, lU, lV, lW, lX, lY, lZ, mA, mB, mC, mD, mE, mF, mG, mH, mI, mJ, mK, mL, mM, mN, mO, mP, mQ, mR, mS, mT, mU, mV, mW, mX, mY, mZ, nA, nB, nC, nD, nE, nF, nG, nH, nI, nJ, nK, nL, nM, nN, nO, nP, nQ, nR, nS, nT, nU, nV, nW, nX, nY, nZ, oA, oB, oC, oD, oE, oF, oG, oH, oI, oJ, oK, oL, oM, oN, oO, oP, oQ, oR, oS, oT, oU, oV, oW, oX, oY, oZ, pA, pB, pC, pD, pE, pF, pG, pH, pI, pJ, pK, pL, pM, pN, pO, pP, pQ, pR, pS, pT, pU, pV, pW, pX], []⟩ W := by
 obtain ⟨i, hi, hz0, hz1, hz2⟩ := info_parts iInfo
 have hm1 : m ≤ 1 := HM.out
 conv => arg 2; whnf
 have P2 := hid P.out.mark; clear P; have P := P2; clear P2
 have x0 := P.out.cx 0 (v := .int .i64 x.op) rfl
 have x1 := P.out.cx 1 (v := .int .i64 x.a) rfl
 have x2 := P.out.cx 2 (v := .int .i64 x.b) rfl
 have x3 := P.out.cx 3 (v := .int .i64 x.c) rfl
 have x4 := P.out.cx 4 (v := .slice x.la x.ln x.lc) rfl
 have x5 := P.out.cx 5 (v := .slice x.ba x.bn x.bc) rfl
 go_wp2_with (refine wpList_load_row rfl 75 _ rfl pr rfl _ _ _ _ HRB.out Tryd.underlying75 rfl rawSzA ?_)
 refine (attr_any _ HRK.out _ (HT.out.below P.out.old)).mono ?_
 rintro e w4 ⟨nm, ix, v4, rfl, hn4, ho4, hz4, hf4, ht4, hb4⟩
 dsimp only
 have hf4' : ∀ k ∈ v4.foot, _ := fun k hk => Nat.le_trans P.out.lt.2.2 (hf4 k hk)
 clear hf4
 clear x0 x1 x2 x3 x4 x5
 have P2 := hid (P.out.grow hb4); have R2 := hid ((hb4.block _ (block_lt HRB.out)).trans HRB.out); clear hb4 P HRB; have P := P2; have HRB := R2; clear P2 R2
 have HA1 := hid (And.intro hn4 (And.intro ho4 (And.intro hz4 (And.intro hf4' ht4))))
 clear hn4 ho4 hz4 hf4' ht4
 go_wp2_with fail
 refine (layA_any nm ix v4 _ _ (by have := HA1.out.1; omega) HA1.out.2.1 HA1.out.2.2.1 HA1.out.2.2.2.2 HA1.out.2.2.2.1 (fun k hk => Nat.le_trans P.out.lt.2.2 hk)).mono ?_
 rintro e w5 ⟨v, rfl, hvo, hvn, hvf, hvt, hb5⟩
 dsimp only
 clear HA1
 have P2 := hid (P.out.grow hb5); have R2 := hid ((hb5.block _ (block_lt HRB.out)).trans HRB.out); clear hb5 P HRB; have P := P2; have HRB := R2; clear P2 R2
 have HVO := hid hvo; have HVF := hid hvf; have HVT := hid hvt; have HVN := hid hvn; clear hvo hvf hvt hvn
 go_wp2_with fail
 refine (P.out.add HVO.out HVF.out HVT.out HVN.out (by omega) HRB.out).mono ?_
 rintro e w6 ⟨rfl, hp6, hr6⟩
 dsimp only
 clear P HRB
 have P := hid hp6; have HRB := hid hr6; clear hp6 hr6
 clear HVO HVF HVT HVN
 go_wp2_with fail
 go_meet
 exact ⟨_, _, by omega, P.out⟩
end
section
open Go.RowKit
set_option linter.unusedVariables false
set_option linter.unusedSimpArgs false
set_option maxRecDepth 1000000
set_option maxHeartbeats 16000000
theorem PS.cwC {x : AskD} {w W : World} {b p m c : Nat} (h : PS x w b p m c W) : ∃ cw, W.heap.size = cw := ⟨_, rfl⟩
theorem pay_2 {x : AskD} {w W : World} {b p pr m c : Nat} {r : RawD} (aA aH aI aJ aK aL aM aN aO aP aQ aR aS aT aU aV aW aX aY aZ bA bB bC bD bE bF bG bH bI bJ bK bL bM bN bO bP bQ bR bS bT bU bV bW bX bY bZ cA cB cC cD cE cF cG cI cJ cK cL cM cN cO cP cQ cR cS cT cU cV cW cX cY cZ dA dB dC dD dE dF dG dH dI dJ dK dL dM dN dO dP dQ dR dS dT dU dV dW dX dY dZ eA eB eC eD eE eF eG eH eI eJ eK eL eM eN eO eP eQ eR eS eT eU eV eW eX eY eZ fA fB fC fD fE fF fG fH fI fJ fK fL fM fN fO fP fQ fR fS fT fU fV fW fX fY fZ gA gB gC gD gE gF gG gH gI gJ gK gL gM gN gO gP gQ gR gS gT gU gV gW gX gY gZ iA iB iC iD iE iF iG iH iI iJ iK iL iM iN iO iP iQ iR iS iT iU iV iW iX iY iZ jA jB jC jD jE jF jG jH jI jJ jK jL jM jN jO jP jQ jR jS jT jU jV jW jX jY jZ kA kB kC kD kE kF kG kH kI kJ kK kL kM kN kO kP kQ kR kS kT kU kV kW kX kY kZ lA lB lC lD lE lF lG lH lI lJ lK lL lM lN lO lP lQ lR lS lT lU lV lW lX lY lZ mA mB mC mD mE mF mG mH mI mJ mK mL mM mN mO mP mQ mR mS mT mU mV mW mX mY mZ nA nB nC nD nE nF nG nH nI nJ nK nL nM nN nO nP nQ nR nS nT nU nV nW nX nY nZ oA oB oC oD oE oF oG oH oI oJ oK oL oM oN oO oP oQ oR oS oT oU oV oW oX oY oZ pA pB pC pD pE pF pG pH pI pJ pK pL pM pN pO pP pQ pR pS pT pU pV pW pX : Value) (J K' : Act → World → Prop) (Q' : Exit → Act → World → Prop)
  (P : Hid (PS x w b p m c W)) (HM : Hid (m ≤ 1)) (HRB : Hid (W.heap[pr]? = some (.cells r.cells 75 (0, 0)))) (HRK : Hid r.ok) (HX : Hid (x.ok w)) (HT : Hid (NamesTab w))
  (h1 : ∀ a' w', (∃ aH aI aJ aK aL cI cJ cK cL cM cN cO cP cQ cR cS cT cU cV cW cX cY cZ dA dB dC dD dE dF dG dH dI dJ dK dL dM dN dO dP dQ dR dS dT dU dV dW dX dY dZ eA eB eC eD eE eF eG eH eI eJ eK eL eM eN eO eP eQ eR eS eT eU eV eW eX eY eZ fA fB fC fD fE fF fG fH fI fJ fK fL fM fN fO fP fQ fR fS fT fU fV fW fX fY fZ gA gB gC gD gE gF gG gH gI gJ gK gL gM gN gO gP gQ gR gS gT gU gV gW gX gY gZ iA iB iC iD iE iF iG iH iI iJ iK iL iM iN iO iP iQ iR iS iT iU iV iW iX iY iZ jA jB jC jD jE jF jG jH jI jJ jK jL jM jN jO jP jQ jR jS jT jU jV jW jX jY jZ kA kB kC kD kE kF kG kH kI kJ kK kL kM kN kO kP kQ kR kS kT kU kV kW kX kY kZ lA lB lC lD lE lF lG lH lI lJ lK lL lM lN lO lP lQ lR lS lT lU lV lW lX lY lZ mA mB mC mD mE mF mG mH mI mJ mK mL mM mN mO mP mQ mR mS mT mU mV mW mX mY mZ nA nB nC nD nE nF nG nH nI nJ nK nL nM nN nO nP nQ nR nS nT nU nV nW nX nY nZ oA oB oC oD oE oF oG oH oI oJ oK oL oM oN oO oP oQ oR oS oT oU oV oW oX oY oZ pA pB : Value, (∃ m c, m ≤ 11 ∧ PS x w b p m c w') ∧ a' = ⟨#[aA, .pointer (some ⟨b, 0, none⟩), .pointer (some ⟨b + 1, 0, none⟩), .pointer (some ⟨p, 0, none⟩), .func (.func 49) #[] #[.pointer (some ⟨p, 0, none⟩)], .int .i64 2, .pointer (some ⟨pr, 0, none⟩), aH, aI, aJ, aK, aL, aM, aN, aO, aP, aQ, aR, aS, aT, aU, aV, aW, aX, aY, aZ, bA, bB, bC, bD, bE, bF, bG, bH, bI, bJ, bK, bL, bM, bN, bO, bP, bQ, bR, bS, bT, bU, bV, bW, bX, bY, bZ, cA, cB, cC, cD, cE, cF, cG, .int .i64 2, cI, cJ, cK, cL, cM, cN, cO, cP, cQ, cR, cS, cT, cU, cV, cW, cX, cY, cZ, dA, dB, dC, dD, dE, dF, dG, dH, dI, dJ, dK, dL, dM, dN, dO, dP, dQ, dR, dS, dT, dU, dV, dW, dX, dY, dZ, eA, eB, eC, eD, eE, eF, eG, eH, eI, eJ, eK, eL, eM, eN, eO, eP, eQ, eR, eS, eT, eU, eV, eW, eX, eY, eZ, fA, fB, fC, fD, fE, fF, fG, fH, fI, fJ, fK, fL, fM, fN, fO, fP, fQ, fR, fS, fT, fU, fV, fW, fX, fY, fZ, gA, gB, gC, gD, gE, gF, gG, gH, gI, gJ, gK, gL, gM, gN, gO, gP, gQ, gR, gS, gT, gU, gV, gW, gX, gY, gZ, iA, iB, iC, iD, iE, iF, iG, iH, iI, iJ, iK, iL, iM, iN, iO, iP, iQ, iR, iS, iT, iU, iV, iW, iX, iY, iZ, jA, jB, jC, jD, jE, jF, jG, jH, jI, jJ, jK, jL, jM, jN, jO, jP, jQ, jR, jS, jT, jU, jV, jW, jX, jY, jZ, kA, kB, kC, kD, kE, kF, kG, kH, kI, kJ, kK, kL, kM, kN, kO, kP, kQ, kR, kS, kT, kU, kV, kW, kX, kY, kZ, lA, lB, lC, lD, lE, lF, lG, lH, lI, lJ, lK, lL, lM, lN, lO, lP, lQ, lR, lS, lT, lU, lV, lW, lX, lY, lZ, mA, mB, mC, mD, mE, mF, mG, mH, mI, mJ, mK, mL, mM, mN, mO, mP, mQ, mR, mS, mT, mU, mV, mW, mX, mY, mZ, nA, nB, nC, nD, nE, nF, nG, nH, nI, nJ, nK, nL, nM, nN, nO, nP, nQ, nR, nS, nT, nU, nV, nW, nX, nY, nZ, oA, oB, oC, oD, oE, oF, oG, oH, oI, oJ, oK, oL, oM, oN, oO, oP, oQ, oR, oS, oT, oU, oV, oW, oX, oY, oZ, pA, pB, pC, pD, pE, pF, pG, pH, pI, pJ, pK, pL, pM, pN, pO, pP, pQ, pR, pS, pT, pU, pV, pW, pX], []⟩) → J a' w') (h2 : ∀ a' w', Met J a' w' → K' a' w') :
  Code.wp Tryd.prog paySw (Exit.then K' Q') ⟨#[aA, .pointer (some ⟨b, 0, none⟩), .pointer (some ⟨b + 1, 0, none⟩), .pointer (some ⟨p, 0, none⟩), .func (.func 49) #[] #[.pointer (some ⟨p, 0, none⟩)], .int .i64 2, .pointer (some ⟨pr, 0, none⟩), aH, aI, aJ, aK, aL, aM, aN, aO, aP, aQ, aR, aS, aT, aU, aV, aW, aX, aY, aZ, bA, bB, bC, bD, bE, bF, bG, bH, bI, bJ, bK, bL, bM, bN, bO, bP, bQ, bR, bS, bT, bU, bV, bW, bX, bY, bZ, cA, cB, cC, cD, cE, cF, cG, .int .i64 2, cI, cJ, cK, cL, cM, cN, cO, cP, cQ, cR, cS, cT, cU, cV, cW, cX, cY, cZ, dA, dB, dC, dD, dE, dF, dG, dH, dI, dJ, dK, dL, dM, dN, dO, dP, dQ, dR, dS, dT, dU, dV, dW, dX, dY, dZ, eA, eB, eC, eD, eE, eF, eG, eH, eI, eJ, eK, eL, eM, eN, eO, eP, eQ, eR, eS, eT, eU, eV, eW, eX, eY, eZ, fA, fB, fC, fD, fE, fF, fG, fH, fI, fJ, fK, fL, fM, fN, fO, fP, fQ, fR, fS, fT, fU, fV, fW, fX, fY, fZ, gA, gB, gC, gD, gE, gF, gG, gH, gI, gJ, gK, gL, gM, gN, gO, gP, gQ, gR, gS, gT, gU, gV, gW, gX, gY, gZ, iA, iB, iC, iD, iE, iF, iG, iH, iI, iJ, iK, iL, iM, iN, iO, iP, iQ, iR, iS, iT, iU, iV, iW, iX, iY, iZ, jA, jB, jC, jD, jE, jF, jG, jH, jI, jJ, jK, jL, jM, jN, jO, jP, jQ, jR, jS, jT, jU, jV, jW, jX, jY, jZ, kA, kB, kC, kD, kE, kF, kG, kH, kI, kJ, kK, kL, kM, kN, kO, kP, kQ, kR, kS, kT, kU, kV, kW, kX, kY, kZ, lA, lB, lC, lD, lE, lF, lG, lH, lI, lJ, lK, lL, lM, lN, lO, lP, lQ, lR, lS, lT, lU, lV, lW, lX, lY, lZ, mA, mB, mC, mD, mE, mF, mG, mH, mI, mJ, mK, mL, mM, mN, mO, mP, mQ, mR, mS, mT, mU, mV, mW, mX, mY, mZ, nA, nB, nC, nD, nE, nF, nG, nH, nI, nJ, nK, nL, nM, nN, nO, nP, nQ, nR, nS, nT, nU, nV, nW, nX, nY, nZ, oA, oB, oC, oD, oE, oF, oG, oH, oI, oJ, oK, oL, oM, oN, oO, oP, oQ, oR, oS, oT, oU, oV, oW, oX, oY, oZ, pA, pB, pC, pD, pE, pF, pG, pH, pI, pJ, pK, pL, pM, pN, pO, pP, pQ, pR, pS, pT, pU, pV, pW, pX], []⟩ W := by
 obtain ⟨i, hi, hz0, hz1, hz2⟩ := info_parts iInfo
 have hm1 : m ≤ 1 := HM.out
 conv => arg 2; whnf
 have P2 := hid P.out.mark; clear P; have P := P2; clear P2
 have x0 := P.out.cx 0 (v := .int .i64 x.op) rfl
 have x1 := P.out.cx 1 (v := .int .i64 x.a) rfl
 have x2 := P.out.cx 2 (v := .int .i64 x.b) rfl
 have x3 := P.out.cx 3 (v := .int .i64 x.c) rfl
 have x4 := P.out.cx 4 (v := .slice x.la x.ln x.lc) rfl
 have x5 := P.out.cx 5 (v := .slice x.ba x.bn x.bc) rfl
 have hwt : IntKind.i64.wrap (x.b.tmod 40) = x.b.tmod 40 := wrap_tmod (by omega) (by omega)
 go_wp2_with fail
 refine (template_any _ _ x.la x.ln x.lc x.l _ _ (HX.out.below P.out.old).l).mono ?_
 rintro e w5 ⟨v, rfl, hvo, hvn, hvf0, hvt, hb5⟩
 dsimp only
 clear x0 x1 x2 x3 x4 x5
 have hvf : ∀ k ∈ v.foot, _ := fun k hk => Nat.le_trans P.out.lt.2.2 (hvf0 k hk)
 clear hvf0
 have P2 := hid (P.out.grow hb5); have R2 := hid ((hb5.block _ (block_lt HRB.out)).trans HRB.out); clear hb5 P HRB; have P := P2; have HRB := R2; clear P2 R2
 have HVO := hid hvo; have HVF := hid hvf; have HVT := hid hvt; have HVN := hid hvn; clear hvo hvf hvt hvn
 go_wp2_with fail
 refine (P.out.add HVO.out HVF.out HVT.out HVN.out (by omega) HRB.out).mono ?_
 rintro e w6 ⟨rfl, hp6, hr6⟩
 dsimp only
 clear P HRB
 have P := hid hp6; have HRB := hid hr6; clear hp6 hr6
 clear HVO HVF HVT HVN
 have P2 := hid P.out.mark; clear P; have P := P2; clear P2
 have x0 := P.out.cx 0 (v := .int .i64 x.op) rfl
 have x1 := P.out.cx 1 (v := .int .i64 x.a) rfl
 have x2 := P.out.cx 2 (v := .int .i64 x.b) rfl
 have x3 := P.out.cx 3 (v := .int .i64 x.c) rfl
 have x4 := P.out.cx 4 (v := .slice x.la x.ln x.lc) rfl
 have x5 := P.out.cx 5 (v := .slice x.ba x.bn x.bc) rfl
 go_wp2_with fail
 refine (handOf_any 4325521 {} _).mono ?_
 rintro e w5 ⟨rfl, hb5⟩
 dsimp only
 clear x0 x1 x2 x3 x4 x5
 have P2 := hid (P.out.grow hb5); have R2 := hid ((hb5.block _ (block_lt HRB.out)).trans HRB.out); clear hb5 P HRB; have P := P2; have HRB := R2; clear P2 R2
 go_wp2_with fail
 refine (P.out.add (y := { tag := 4325521, typ := 1 }) (numV_ok _ _ _ _) (numV_foot (t := 4325521) (k := 1) (n := 0) _) (by simp) (numV_nz _ _ _) (by omega) HRB.out).mono ?_
 rintro e w6 ⟨rfl, hp6, hr6⟩
 dsimp only
 clear P HRB
 have P := hid hp6; have HRB := hid hr6; clear hp6 hr6
 have P2 := hid P.out.mark; clear P; have P := P2; clear P2
 have x0 := P.out.cx 0 (v := .int .i64 x.op) rfl
 have x1 := P.out.cx 1 (v := .int .i64 x.a) rfl
 have x2 := P.out.cx 2 (v := .int .i64 x.b) rfl
 have x3 := P.out.cx 3 (v := .int .i64 x.c) rfl
 have x4 := P.out.cx 4 (v := .slice x.la x.ln x.lc) rfl
 have x5 := P.out.cx 5 (v := .slice x.ba x.bn x.bc) rfl
 have hwq : IntKind.i64.wrap (x.a.tmod 9) = x.a.tmod 9 := wrap_tmod (by omega) (by omega)
 by_cases hcq : 0 < x.a.tmod 9
 ·go_wp2_with fail
  refine (template_any _ _ none 0 0 [] _ _ (show ArgSl 4 RawR _ (.slice none 0 0) [] from ⟨none, 0, 0, rfl, rfl, Nat.le_refl _, by omega, fun _ => rfl, fun k hk => absurd hk (Nat.not_lt_zero _)⟩)).mono ?_
  rintro e w5 ⟨v, rfl, hvo, hvn, hvf0, hvt, hb5⟩
  dsimp only
  clear x0 x1 x2 x3 x4 x5
  have hvf : ∀ k ∈ v.foot, _ := fun k hk => Nat.le_trans P.out.lt.2.2 (hvf0 k hk)
  clear hvf0
  have P2 := hid (P.out.grow hb5); have R2 := hid ((hb5.block _ (block_lt HRB.out)).trans HRB.out); clear hb5 P HRB; have P := P2; have HRB := R2; clear P2 R2
  have HVO := hid hvo; have HVF := hid hvf; have HVT := hid hvt; have HVN := hid hvn; clear hvo hvf hvt hvn
  go_wp2_with fail
  refine (P.out.add HVO.out HVF.out HVT.out HVN.out (by omega) HRB.out).mono ?_
  rintro e w6 ⟨rfl, hp6, hr6⟩
  dsimp only
  clear P HRB
  have P := hid hp6; have HRB := hid hr6; clear hp6 hr6
  clear HVO HVF HVT HVN
  have P2 := hid P.out.mark; clear P; have P := P2; clear P2
  obtain ⟨s, l, hj, hsn, hown, hnzl, hlol, hpc, hcw, hzp, hloz⟩ := P.out.obj
  obtain ⟨sa, sn, sc⟩ := s
  obtain ⟨g, hga, hg1, hg2⟩ := (own_slice hj.own.own).2.2 (by simp only at hsn ⊢; omega)
  simp only at hga hsn
  subst hga
  have HJ0 := hid hj; have HSN := hid hsn; have HQ0 := hid (And.intro hpc (And.intro hcw (And.intro hzp (And.intro hloz (And.intro hown (And.intro hnzl hlol))))))
  clear hj hsn hown hnzl hlol hpc hcw hzp hloz hg1 hg2
  go_upto_region 18 with (fail)
  refine wp_region_each 3 [.eq (.pointer (some ⟨p, 4, none⟩)), .eq (.slice (some ⟨g, 0, none⟩) sn sc), .eq (.agg (ItV.arr { tag := 4325521, typ := 1 }))] (by kernel_rfl) (by kernel_rfl) (by kernel_rfl) (by kernel_rfl) ?_ ?_
  ·all_goals
    refine each_c ?_ (each_c ?_ (each_c ?_ (each_n)))
    ·intro w1 hg Ar seen
     have s3 := seen.sl 3 (.pointer (some ⟨p, 0, none⟩))
     refine does_plain rfl fun K Q' hK => ?_
     go_simp; exact hK _ _ (Grow.refl _) rfl
    ·intro w1 hg Ar seen
     have e0 := seen.de 0 108
     refine does_plain rfl fun K Q' hK => ?_
     have hc := cell_of_block (j := 4) ((hg.block _ (block_lt HJ0.out.blk)).trans HJ0.out.blk) (ar4 _)
     go_simp; exact hK _ _ (Grow.refl _) rfl
    ·intro w1 hg Ar seen
     refine does_plain rfl fun K Q' hK => ?_
     go_simp
     refine (handOf_any 4325521 {} _).mono ?_
     rintro e u ⟨rfl, hb⟩
     exact hK _ _ hb rfl
  intro w1 hg
  refine upon_w' (js := [0, 1, 2]) (by rfl) ?_
  refine upon_e (some 108) (upon_e (some 109) (upon_e (some 110) (upon_n ?_)))
  have HJ := hid (HJ0.out.below hg)
  have HQ := hid (And.intro HQ0.out.1 (And.intro (Nat.le_trans HQ0.out.2.1 hg.size) HQ0.out.2.2))
  have hb5 := hg
  clear hg HJ0 HQ0
  have P2 := hid (P.out.grow hb5); have R2 := hid ((hb5.block _ (block_lt HRB.out)).trans HRB.out); clear hb5 P HRB; have P := P2; have HRB := R2; clear P2 R2
  go_simp
  have hsn3 : 3 ≤ sn := by have := HSN.out; omega
  have hi2 : (0 : Int) ≤ 2 ∧ (2 : Int) < (sn : Int) := ⟨by omega, by omega⟩
  have hi3 : (2 : Int) < (sn : Int) := by omega
  go_wp2_with (refine wpList_store_at rfl 27 _ _ rfl g 10 rfl { tag := 4325521, typ := 1 } rfl HJ.out.own.own 2 (by simp only; omega) rfl iSize (arr_one _) ?_; intro w9 ho9 hc9 hs9; have hk9 := PObj.setKid HJ.out HQ.out.2.2.2.2.2.1 HQ.out.2.2.2.2.2.2 HQ.out.1 HQ.out.2.1 HQ.out.2.2.1 HQ.out.2.2.2.1 (numV_ok _ _ _ _) rfl ⟨by simp, numV_nz _ _ _⟩ ho9 hc9; have P9 := hid (P.out.step hk9.1 hk9.2.1); have R9 := hid (hk9.2.2 _ _ _ _ HRB.out (by decide)); clear ho9 hc9 hs9 hk9)
  go_meet
  exact ⟨_, _, by have := HSN.out; omega, P9.out⟩
 ·have hdq : ¬ (0 < x.a.tmod 9) := hcq
  go_wp2_with fail
  go_meet
  exact ⟨_, _, by omega, P.out⟩
theorem pay_30 {x : AskD} {w W : World} {b p pr m c : Nat} {r : RawD} (aA aH aI aJ aK aL aM aN aO aP aQ aR aS aT aU aV aW aX aY aZ bA bB bC bD bE bF bG bH bI bJ bK bL bM bN bO bP bQ bR bS bT bU bV bW bX bY bZ cA cB cC cD cE cF cG cI cJ cK cL cM cN cO cP cQ cR cS cT cU cV cW cX cY cZ dA dB dC dD dE dF dG dH dI dJ dK dL dM dN dO dP dQ dR dS dT dU dV dW dX dY dZ eA eB eC eD eE eF eG eH eI eJ eK eL eM eN eO eP eQ eR eS eT eU eV eW eX eY eZ fA fB fC fD fE fF fG fH fI fJ fK fL fM fN fO fP fQ fR fS fT fU fV fW fX fY fZ gA gB gC gD gE gF gG gH gI gJ gK gL gM gN gO gP gQ gR gS gT gU gV gW gX gY gZ iA iB iC iD iE iF iG iH iI iJ iK iL iM iN iO iP iQ iR iS iT iU iV iW iX iY iZ jA jB jC jD jE jF jG jH jI jJ jK jL jM jN jO jP jQ jR jS jT jU jV jW jX jY jZ kA kB kC kD kE kF kG kH kI kJ kK kL kM kN kO kP kQ kR kS kT kU kV kW kX kY kZ lA lB lC lD lE lF lG lH lI lJ lK lL lM lN lO lP lQ lR lS lT lU lV lW lX lY lZ mA mB mC mD mE mF mG mH mI mJ mK mL mM mN mO mP mQ mR mS mT mU mV mW mX mY mZ nA nB nC nD nE nF nG nH nI nJ nK nL nM nN nO nP nQ nR nS nT nU nV nW nX nY nZ oA oB oC oD oE oF oG oH oI oJ oK oL oM oN oO oP oQ oR oS oT oU oV oW oX oY oZ pA pB pC pD pE pF pG pH pI pJ pK pL pM pN pO pP pQ pR pS pT pU pV pW pX : Value) (J K' : Act → World → Prop) (Q' : Exit → Act → World → Prop)
  (P : Hid (PS x w b p m c W)) (HM : Hid (m ≤ 1)) (HRB : Hid (W.heap[pr]? = some (.cells r.cells 75 (0, 0)))) (HRK : Hid r.ok) (HX : Hid (x.ok w)) (HT : Hid (NamesTab w))
  (h1 : ∀ a' w', (∃ aH aI aJ aK aL cI cJ cK cL cM cN cO cP cQ cR cS cT cU cV cW cX cY cZ dA dB dC dD dE dF dG dH dI dJ dK dL dM dN dO dP dQ dR dS dT dU dV dW dX dY dZ eA eB eC eD eE eF eG eH eI eJ eK eL eM eN eO eP eQ eR eS eT eU eV eW eX eY eZ fA fB fC fD fE fF fG fH fI fJ fK fL fM fN fO fP fQ fR fS fT fU fV fW fX fY fZ gA gB gC gD gE gF gG gH gI gJ gK gL gM gN gO gP gQ gR gS gT gU gV gW gX gY gZ iA iB iC iD iE iF iG iH iI iJ iK iL iM iN iO iP iQ iR iS iT iU iV iW iX iY iZ jA jB jC jD jE jF jG jH jI jJ jK jL jM jN jO jP jQ jR jS jT jU jV jW jX jY jZ kA kB kC kD kE kF kG kH kI kJ kK kL kM kN kO kP kQ kR kS kT kU kV kW kX kY kZ lA lB lC lD lE lF lG lH lI lJ lK lL lM lN lO lP lQ lR lS lT lU lV lW lX lY lZ mA mB mC mD mE mF mG mH mI mJ mK mL mM mN mO mP mQ mR mS mT mU mV mW mX mY mZ nA nB nC nD nE nF nG nH nI nJ nK nL nM nN nO nP nQ nR nS nT nU nV nW nX nY nZ oA oB oC oD oE oF oG oH oI oJ oK oL oM oN oO oP oQ oR oS oT oU oV oW oX oY oZ pA pB : Value, (∃ m c, m ≤ 11 ∧ PS x w b p m c w') ∧ a' = ⟨#[aA, .pointer (some ⟨b, 0, none⟩), .pointer (some ⟨b + 1, 0, none⟩), .pointer (some ⟨p, 0, none⟩), .func (.func 49) #[] #[.pointer (some ⟨p, 0, none⟩)], .int .i64 30, .pointer (some ⟨pr, 0, none⟩), aH, aI, aJ, aK, aL, aM, aN, aO, aP, aQ, aR, aS, aT, aU, aV, aW, aX, aY, aZ, bA, bB, bC, bD, bE, bF, bG, bH, bI, bJ, bK, bL, bM, bN, bO, bP, bQ, bR, bS, bT, bU, bV, bW, bX, bY, bZ, cA, cB, cC, cD, cE, cF, cG, .int .i64 30, cI, cJ, cK, cL, cM, cN, cO, cP, cQ, cR, cS, cT, cU, cV, cW, cX, cY, cZ, dA, dB, dC, dD, dE, dF, dG, dH, dI, dJ, dK, dL, dM, dN, dO, dP, dQ, dR, dS, dT, dU, dV, dW, dX, dY, dZ, eA, eB, eC, eD, eE, eF, eG, eH, eI, eJ, eK, eL, eM, eN, eO, eP, eQ, eR, eS, eT, eU, eV, eW, eX, eY, eZ, fA, fB, fC, fD, fE, fF, fG, fH, fI, fJ, fK, fL, fM, fN, fO, fP, fQ, fR, fS, fT, fU, fV, fW, fX, fY, fZ, gA, gB, gC, gD, gE, gF, gG, gH, gI, gJ, gK, gL, gM, gN, gO, gP, gQ, gR, gS, gT, gU, gV, gW, gX, gY, gZ, iA, iB, iC, iD, iE, iF, iG, iH, iI, iJ, iK, iL, iM, iN, iO, iP, iQ, iR, iS, iT, iU, iV, iW, iX, iY, iZ, jA, jB, jC, jD, jE, jF, jG, jH, jI, jJ, jK, jL, jM, jN, jO, jP, jQ, jR, jS, jT, jU, jV, jW, jX, jY, jZ, kA, kB, kC, kD, kE, kF, kG, kH, kI, kJ, kK, kL, kM, kN, kO, kP, kQ, kR, kS, kT, kU, kV, kW, kX, kY, kZ, lA, lB, lC, lD, lE, lF, lG, lH, lI, lJ, lK, lL, lM, lN, lO, lP, lQ, lR, lS, lT, lU, lV, lW, lX, lY, lZ, mA, mB, mC, mD, mE, mF, mG, mH, mI, mJ, mK, mL, mM, mN, mO, mP, mQ, mR, mS, mT, mU, mV, mW, mX, mY, mZ, nA, nB, nC, nD, nE, nF, nG, nH, nI, nJ, nK, nL, nM, nN, nO, nP, nQ, nR, nS, nT, nU, nV, nW, nX, nY, nZ, oA, oB, oC, oD, oE, oF, oG, oH, oI, oJ, oK, oL, oM, oN, oO, oP, oQ, oR, oS, oT, oU, oV, oW, oX, oY, oZ, pA, pB, pC, pD, pE, pF, pG, pH, pI, pJ, pK, pL, pM, pN, pO, pP, pQ, pR, pS, pT, pU, pV, pW, pX], []⟩) → J a' w') (h2 : ∀ a' w', Met J a' w' → K' a' w') :
  Code.wp Tryd.prog paySw (Exit.then K' Q') ⟨#[aA, .pointer (some ⟨b, 0, none⟩), .pointer (some ⟨b + 1, 0, none⟩), .pointer (some ⟨p, 0, none⟩), .func (.func 49) #[] #[.pointer (some ⟨p, 0, none⟩)], .int .i64 30, .pointer (some ⟨pr, 0, none⟩), aH, aI, aJ, aK, aL, aM, aN, aO, aP, aQ, aR, aS, aT, aU, aV, aW, aX, aY, aZ, bA, bB, bC, bD, bE, bF, bG, bH, bI, bJ, bK, bL, bM, bN, bO, bP, bQ, bR, bS, bT, bU, bV, bW, bX, bY, bZ, cA, cB, cC, cD, cE, cF, cG, .int .i64 30, cI, cJ, cK, cL, cM, cN, cO, cP, cQ, cR, cS, cT, cU, cV, cW, cX, cY, cZ, dA, dB, dC, dD, dE, dF, dG, dH, dI, dJ, dK, dL, dM, dN, dO, dP, dQ, dR, dS, dT, dU, dV, dW, dX, dY, dZ, eA, eB, eC, eD, eE, eF, eG, eH, eI, eJ, eK, eL, eM, eN, eO, eP, eQ, eR, eS, eT, eU, eV, eW, eX, eY, eZ, fA, fB, fC, fD, fE, fF, fG, fH, fI, fJ, fK, fL, fM, fN, fO, fP, fQ, fR, fS, fT, fU, fV, fW, fX, fY, fZ, gA, gB, gC, gD, gE, gF, gG, gH, gI, gJ, gK, gL, gM, gN, gO, gP, gQ, gR, gS, gT, gU, gV, gW, gX, gY, gZ, iA, iB, iC, iD, iE, iF, iG, iH, iI, iJ, iK, iL, iM, iN, iO, iP, iQ, iR, iS, iT, iU, iV, iW, iX, iY, iZ, jA, jB, jC, jD, jE, jF, jG, jH, jI, jJ, jK, jL, jM, jN, jO, jP, jQ, jR, jS, jT, jU, jV, jW, jX, jY, jZ, kA, kB, kC, kD, kE, kF, kG, kH, kI, kJ, kK, kL, kM, kN, kO, kP, kQ, kR, kS, kT, kU, kV, kW, kX, kY, kZ, lA, lB, lC, lD, lE, lF, lG, lH, lI, lJ, lK, lL, lM, lN, lO, lP, lQ, lR, lS, lT, lU, lV, lW, lX, lY, lZ, mA, mB, mC, mD, mE, mF, mG, mH, mI, mJ, mK, mL, mM, mN, mO, mP, mQ, mR, mS, mT, mU, mV, mW, mX, mY, mZ, nA, nB, nC, nD, nE, nF, nG, nH, nI, nJ, nK, nL, nM, nN, nO, nP, nQ, nR, nS, nT, nU, nV, nW, nX, nY, nZ, oA, oB, oC, oD, oE, oF, oG, oH, oI, oJ, oK, oL, oM, oN, oO, oP, oQ, oR, oS, oT, oU, oV, oW, oX, oY, oZ, pA, pB, pC, pD, pE, pF, pG, pH, pI, pJ, pK, pL, pM, pN, pO, pP, pQ, pR, pS, pT, pU, pV, pW, pX], []⟩ W := by
 obtain ⟨i, hi, hz0, hz1, hz2⟩ := info_parts iInfo
 have hm1 : m ≤ 1 := HM.out
 conv => arg 2; whnf
 have P2 := hid P.out.mark; clear P; have P := P2; clear P2
 have x0 := P.out.cx 0 (v := .int .i64 x.op) rfl
 have x1 := P.out.cx 1 (v := .int .i64 x.a) rfl
 have x2 := P.out.cx 2 (v := .int .i64 x.b) rfl
 have x3 := P.out.cx 3 (v := .int .i64 x.c) rfl
 have x4 := P.out.cx 4 (v := .slice x.la x.ln x.lc) rfl
 have x5 := P.out.cx 5 (v := .slice x.ba x.bn x.bc) rfl
 have hwq : IntKind.i64.wrap (x.a.tmod 2) = x.a.tmod 2 := wrap_tmod (by omega) (by omega)
 by_cases hcq : x.a.tmod 2 = 0
 ·have hdq : (x.a.tmod 2 == 0) = true := by simpa using hcq
  go_upto_region 64 with (fail)
  clear x0 x1 x2 x3 x4 x5
  have P2 := hid P.out.mark; clear P; have P := P2; clear P2
  obtain ⟨cw, hcw⟩ := P.out.cwC
  have HCW := hid hcw
  clear hcw
  refine wp_region_each 8 [.eq (.func (.func 49) #[] #[.pointer (some ⟨p, 0, none⟩)]), stSome cw, .eq (.pointer (some ⟨b, 1, none⟩)), .eq (.int .i64 x.a), .eq (.int .i64 (pick x.a 7)), stSome cw, stSomes cw, stSome cw] (by kernel_rfl) (by kernel_rfl) (by kernel_rfl) (by kernel_rfl) ?_ ?_
  ·all_goals
    refine each_5 ?_ ?_ ?_ ?_ ?_ (each_c ?_ (each_c ?_ (each_c ?_ (each_n))))
    ·intro w1 hg Ar seen
     have s4 := seen.sl 4 (.func (.func 49) #[] #[.pointer (some ⟨p, 0, none⟩)])
     refine does_plain rfl fun K Q' hK => ?_
     go_simp; exact hK _ _ (Grow.refl _) rfl
    ·intro w1 hg Ar seen
     refine does_plain rfl fun K Q' hK => ?_
     go_simp
     refine (handNum_any _ _ _ _).mono ?_
     rintro e u ⟨rfl, hb⟩
     exact hK _ _ hb ⟨_, rfl, numV_ok _ _ _ _, numV_foot _, by simp, numV_nz _ _ _⟩
    ·intro w1 hg Ar seen
     have s1 := seen.sl 1 (.pointer (some ⟨b, 0, none⟩))
     refine does_plain rfl fun K Q' hK => ?_
     go_simp; exact hK _ _ (Grow.refl _) rfl
    ·intro w1 hg Ar seen
     have e2 := seen.de 2 324
     refine does_plain rfl fun K Q' hK => ?_
     have hc := (P.out.grow hg).cx 1 (v := .int .i64 x.a) rfl
     go_simp; exact hK _ _ (Grow.refl _) rfl
    ·intro w1 hg Ar seen
     have e3 := seen.de 3 325
     refine does_plain rfl fun K Q' hK => ?_
     go_simp
     refine (pick_any x.a 7 _ (by omega) (by omega)).mono ?_
     rintro e u ⟨rfl, rfl⟩
     exact hK _ _ (Grow.refl _) rfl
    ·intro w1 hg Ar seen
     have e4 := seen.de 4 326
     refine does_plain rfl fun K Q' hK => ?_
     go_simp
     refine (handNum_any _ _ _ _).mono ?_
     rintro e u ⟨rfl, hb⟩
     exact hK _ _ hb ⟨_, rfl, numV_ok _ _ _ _, numV_foot _, by simp, numV_nz _ _ _⟩
    ·intro w1 hg Ar seen
     obtain ⟨v1, e1, h1⟩ := seen.dp 1 323
     obtain ⟨v5, e5, h5⟩ := seen.dp 5 327
     refine does_plain rfl fun K Q' hK => ?_
     obtain ⟨x1, rfl, ho1, hf1, hn1⟩ := h1
     obtain ⟨x5, rfl, ho5, hf5, hn5⟩ := h5
     refine wp_build_itemsB _ 27 2 _ rfl [x1, x5] rfl (by decide) (by decide) (by simp [Act.eval, e1, e5] <;> rfl) (x1.arr ++ x5.arr) (by simp [itmCells, ItV.cells]) i Tryd.underlying25 hi hz0 hz1 (fill2 x1 x5) ?_
     intro hs
     exact hK _ _ ((Below.refl _ _).alloc (Nat.le_refl _) _) ⟨⟨some ⟨w1.heap.size, 0, none⟩, 2, 2⟩, [x1, x5], rfl, hs, (fun k hk => by simp [Sl.blk] at hk; have h1 := HCW.out; have h2 := hg.size; omega), fun x hx => by simp only [List.mem_cons, List.not_mem_nil, or_false] at hx; rcases hx with rfl | rfl <;> first | exact ⟨ho1.below ((Below.refl _ _).alloc (Nat.le_refl _) _), hf1, hn1⟩ | exact ⟨ho5.below ((Below.refl _ _).alloc (Nat.le_refl _) _), hf5, hn5⟩⟩
    ·intro w1 hg Ar seen
     obtain ⟨v6, e6, h6⟩ := seen.dp 6 328
     refine does_plain rfl fun K Q' hK => ?_
     obtain ⟨s, l, rfl, hs, hsb, ha⟩ := h6
     go_simp
     refine (handOf_any _ s _).mono ?_
     rintro e u ⟨rfl, hb⟩
     exact hK _ _ hb ⟨{ tag := 4325481, typ := 1, ks := s, kids := l }, rfl, some_of (hs.below hb) (fun x hx => (ha x hx).1.below hb), foot_of hsb (fun x hx => (ha x hx).2.1), (by show (1 : Int) ≠ 0; decide), nz_of (fun x hx => (ha x hx).2.2)⟩
  intro w1 hg
  refine upon_w' (js := [0, 1, 2, 3, 4, 5, 6, 7]) (by rfl) ?_
  refine upon_e (some 322) (upon_v (some 323) fun v1 h1 => upon_e (some 324) (upon_e (some 325) (upon_e (some 326) (upon_v (some 327) fun v5 h5 => upon_v (some 328) fun v6 h6 => upon_v (some 329) fun v7 h7 => upon_n ?_))))
  obtain ⟨v, rfl, hvo, hvf0, hvt, hvn⟩ := h7
  have hvf : ∀ k ∈ v.foot, _ := fun k hk => Nat.le_trans (Nat.le_of_eq HCW.out) (hvf0 k hk)
  have hb5 := hg
  clear hvf0 HCW hg h1 h5 h6
  have P2 := hid (P.out.grow hb5); have R2 := hid ((hb5.block _ (block_lt HRB.out)).trans HRB.out); clear hb5 P HRB; have P := P2; have HRB := R2; clear P2 R2
  go_simp
  have HVO := hid hvo; have HVF := hid hvf; have HVT := hid hvt; have HVN := hid hvn; clear hvo hvf hvt hvn
  go_wp2_with fail
  refine (P.out.add HVO.out HVF.out HVT.out HVN.out (by omega) HRB.out).mono ?_
  rintro e w6 ⟨rfl, hp6, hr6⟩
  dsimp only
  clear P HRB
  have P := hid hp6; have HRB := hid hr6; clear hp6 hr6
  clear HVO HVF HVT HVN
  go_wp2_with fail
  go_meet
  exact ⟨_, _, by omega, P.out⟩
 ·have hdq : (x.a.tmod 2 == 0) = false := by simpa using hcq
  go_wp2_with fail
  go_meet
  exact ⟨_, _, by omega, P.out⟩
end
end Go.Proofs.YtbnbofooofedkaaDoor
