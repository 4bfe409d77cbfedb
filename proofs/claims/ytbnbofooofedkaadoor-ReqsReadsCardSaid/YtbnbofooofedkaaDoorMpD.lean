/- locksmithhand.Payload: arms of its switch. locksmithhand.Payload: arms of its switch. -/
import Derived.Test.YtbnbofooofedkaaDoorMb
namespace Go.Proofs.YtbnbofooofedkaaDoor
section
open Go.RowKit
set_option linter.unusedVariables false
set_option linter.unusedSimpArgs false
set_option maxRecDepth 1000000
set_option maxHeartbeats 16000000
theorem PS.cwD {x : AskD} {w W : World} {b p m c : Nat} (h : PS x w b p m c W) : ∃ cw, W.heap.size = cw := ⟨_, rfl⟩
def stByD (cw n : Nat) : St Grow := ⟨fun v w => ∃ (s : Sl) (l : List UInt8), v = .slice s.a s.n s.c ∧ SlC w s (l.map B8) ∧ (∀ k ∈ s.blk, cw ≤ k), fun v w w' h hg => let ⟨s, l, e, h1, h2⟩ := h; ⟨s, l, e, h1.below hg, h2⟩⟩
theorem iBuildDD (t k : Int) (s : Sl) (l : List UInt8) (w : World) : (Instr.build 27 #[(0, .int .i64 t), (1, .int .i64 k), (3, .slice s.a s.n s.c)]).run Tryd.prog w = .ok (.agg (ItV.arr { tag := t, typ := k, data := l, ds := s })) w := by kernel_rfl
theorem pay_3 {x : AskD} {w W : World} {b p pr m c : Nat} {r : RawD} (aA aH aI aJ aK aL aM aN aO aP aQ aR aS aT aU aV aW aX aY aZ bA bB bC bD bE bF bG bH bI bJ bK bL bM bN bO bP bQ bR bS bT bU bV bW bX bY bZ cA cB cC cD cE cF cG cI cJ cK cL cM cN cO cP cQ cR cS cT cU cV cW cX cY cZ dA dB dC dD dE dF dG dH dI dJ dK dL dM dN dO dP dQ dR dS dT dU dV dW dX dY dZ eA eB eC eD eE eF eG eH eI eJ eK eL eM eN eO eP eQ eR eS eT eU eV eW eX eY eZ fA fB fC fD fE fF fG fH fI fJ fK fL fM fN fO fP fQ fR fS fT fU fV fW fX fY fZ gA gB gC gD gE gF gG gH gI gJ gK gL gM gN gO gP gQ gR gS gT gU gV gW gX gY gZ iA iB iC iD iE iF iG iH iI iJ iK iL iM iN iO iP iQ iR iS iT iU iV iW iX iY iZ jA jB jC jD jE jF jG jH jI jJ jK jL jM jN jO jP jQ jR jS jT jU jV jW jX jY jZ kA kB kC kD kE kF kG kH kI kJ kK kL kM kN kO kP kQ kR kS kT kU kV kW kX kY kZ lA lB lC lD lE lF lG lH lI lJ lK lL lM lN lO lP lQ lR lS lT lU lV lW lX lY lZ mA mB mC mD mE mF mG mH mI mJ mK mL mM mN mO mP mQ mR mS mT mU mV mW mX mY mZ nA nB nC nD nE nF nG nH nI nJ nK nL nM nN nO nP nQ nR nS nT nU nV nW nX nY nZ oA oB oC oD oE oF oG oH oI oJ oK oL oM oN oO oP oQ oR oS oT oU oV oW oX oY oZ pA pB pC pD pE pF pG pH pI pJ pK pL pM pN pO pP pQ pR pS pT pU pV pW pX : Value) (J K' : Act → World → Prop) (Q' : Exit → Act → World → Prop)
  (P : Hid (PS x w b p m c W)) (HM : Hid (m ≤ 1)) (HRB : Hid (W.heap[pr]? = some (.cells r.cells 75 (0, 0)))) (HRK : Hid r.ok) (HX : Hid (x.ok w)) (HT : Hid (NamesTab w))
  (h1 : ∀ a' w', (∃ aH aI aJ aK aL cI cJ cK cL cM cN cO cP cQ cR cS cT cU cV cW cX cY cZ dA dB dC dD dE dF dG dH dI dJ dK dL dM dN dO dP dQ dR dS dT dU dV dW dX dY dZ eA eB eC eD eE eF eG eH eI eJ eK eL eM eN eO eP eQ eR eS eT eU eV eW eX eY eZ fA fB fC fD fE fF fG fH fI fJ fK fL fM fN fO fP fQ fR fS fT fU fV fW fX fY fZ gA gB gC gD gE gF gG gH gI gJ gK gL gM gN gO gP gQ gR gS gT gU gV gW gX gY gZ iA iB iC iD iE iF iG iH iI iJ iK iL iM iN iO iP iQ iR iS iT iU iV iW iX iY iZ jA jB jC jD jE jF jG jH jI jJ jK jL jM jN jO jP jQ jR jS jT jU jV jW jX jY jZ kA kB kC kD kE kF kG kH kI kJ kK kL kM kN kO kP kQ kR kS kT kU kV kW kX kY kZ lA lB lC lD lE lF lG lH lI lJ lK lL lM lN lO lP lQ lR lS lT lU lV lW lX lY lZ mA mB mC mD mE mF mG mH mI mJ mK mL mM mN mO mP mQ mR mS mT mU mV mW mX mY mZ nA nB nC nD nE nF nG nH nI nJ nK nL nM nN nO nP nQ nR nS nT nU nV nW nX nY nZ oA oB oC oD oE oF oG oH oI oJ oK oL oM oN oO oP oQ oR oS oT oU oV oW oX oY oZ pA pB : Value, (∃ m c, m ≤ 11 ∧ PS x w b p m c w') ∧ a' = ⟨#[aA, .pointer (some ⟨b, 0, none⟩), .pointer (some ⟨b + 1, 0, none⟩), .pointer (some ⟨p, 0, none⟩), .func (.func 49) #[] #[.pointer (some ⟨p, 0, none⟩)], .int .i64 3, .pointer (some ⟨pr, 0, none⟩), aH, aI, aJ, aK, aL, aM, aN, aO, aP, aQ, aR, aS, aT, aU, aV, aW, aX, aY, aZ, bA, bB, bC, bD, bE, bF, bG, bH, bI, bJ, bK, bL, bM, bN, bO, bP, bQ, bR, bS, bT, bU, bV, bW, bX, bY, bZ, cA, cB, cC, cD, cE, cF, cG, .int .i64 3, cI, cJ, cK, cL, cM, cN, cO, cP, cQ, cR, cS, cT, cU, cV, cW, cX, cY, cZ, dA, dB, dC, dD, dE, dF, dG, dH, dI, dJ, dK, dL, dM, dN, dO, dP, dQ, dR, dS, dT, dU, dV, dW, dX, dY, dZ, eA, eB, eC, eD, eE, eF, eG, eH, eI, eJ, eK, eL, eM, eN, eO, eP, eQ, eR, eS, eT, eU, eV, eW, eX, eY, eZ, fA, fB, fC, fD, fE, fF, fG, fH, fI, fJ, fK, fL, fM, fN, fO, fP, fQ, fR, fS, fT, fU, fV, fW, fX, fY, fZ, gA, gB, gC, gD, gE, gF, gG, gH, gI, gJ, gK, gL, gM, gN, gO, gP, gQ, gR, gS, gT, gU, gV, gW, gX, gY, gZ, iA, iB, iC, iD, iE, iF, iG, iH, iI, iJ, iK, iL, iM, iN, iO, iP, iQ, iR, iS, iT, iU, iV, iW, iX, iY, iZ, jA, jB, jC, jD, jE, jF, jG, jH, jI, jJ, jK, jL, jM, jN, jO, jP, jQ, jR, jS, jT, jU, jV, jW, jX, jY, jZ, kA, kB, kC, kD, kE, kF, kG, kH, kI, kJ, kK, kL, kM, kN, kO, kP, kQ, kR, kS, kT, kU, kV, kW, kX, kY, kZ, lA, lB, lC, lD, lE, lF, lG, lH, lI, lJ, lK, lL, lM, lN, lO, lP, lQ, lR, lS, lT, lU, lV, lW, lX, lY, lZ, mA, mB, mC, mD, mE, mF, mG, mH, mI, mJ, mK, mL, mM, mN, mO, mP, mQ, mR, mS, mT, mU, mV, mW, mX, mY, mZ, nA, nB, nC, nD, nE, nF, nG, nH, nI, nJ, nK, nL, nM, nN, nO, nP, nQ, nR, nS, nT, nU, nV, nW, nX, nY, nZ, oA, oB, oC, oD, oE, oF, oG, oH, oI, oJ, oK, oL, oM, oN, oO, oP, oQ, oR, oS, oT, oU, oV, oW, oX, oY, oZ, pA, pB, pC, pD, pE, pF, pG, pH, pI, pJ, pK, pL, pM, pN, pO, pP, pQ, pR, pS, pT, pU, pV, pW, pX], []⟩) → J a' w') (h2 : ∀ a' w', Met J a' w' → K' a' w') :
  Code.wp Tryd.prog paySw (Exit.then K' Q') ⟨#[aA, .pointer (some ⟨b, 0, none⟩), .pointer (some ⟨b + 1, 0, none⟩), .pointer (some ⟨p, 0, none⟩), .func (.func 49) #[] #[.pointer (some ⟨p, 0, none⟩)], .int .i64 3, .pointer (some ⟨pr, 0, none⟩), aH, aI, aJ, aK, aL, aM, aN, aO, aP, aQ, aR, aS, aT, aU, aV, aW, aX, aY, aZ, bA, bB, bC, bD, bE, bF, bG, bH, bI, bJ, bK, bL, bM, bN, bO, bP, bQ, bR, bS, bT, bU, bV, bW, bX, bY, bZ, cA, cB, cC, cD, cE, cF, cG, .int .i64 3, cI, cJ, cK, cL, cM, cN, cO, cP, cQ, cR, cS, cT, cU, cV, cW, cX, cY, cZ, dA, dB, dC, dD, dE, dF, dG, dH, dI, dJ, dK, dL, dM, dN, dO, dP, dQ, dR, dS, dT, dU, dV, dW, dX, dY, dZ, eA, eB, eC, eD, eE, eF, eG, eH, eI, eJ, eK, eL, eM, eN, eO, eP, eQ, eR, eS, eT, eU, eV, eW, eX, eY, eZ, fA, fB, fC, fD, fE, fF, fG, fH, fI, fJ, fK, fL, fM, fN, fO, fP, fQ, fR, fS, fT, fU, fV, fW, fX, fY, fZ, gA, gB, gC, gD, gE, gF, gG, gH, gI, gJ, gK, gL, gM, gN, gO, gP, gQ, gR, gS, gT, gU, gV, gW, gX, gY, gZ, iA, iB, iC, iD, iE, iF, iG, iH, iI, iJ, iK, iL, iM, iN, iO, iP, iQ, iR, iS, iT, iU, iV, iW, iX, iY, iZ, jA, jB, jC, jD, jE, jF, jG, jH, jI, jJ, jK, jL, jM, jN, jO, jP, jQ, jR, jS, jT, jU, jV, jW, jX, jY, jZ, kA, kB, kC, kD, kE, kF, kG, kH, kI, kJ, kK, kL, kM, kN, kO, kP, kQ, kR, kS, kT, kU, kV, kW, kX, kY, kZ, lA, lB, lC, lD, lE, lF, lG, lH, lI, lJ, lK, lL, lM, lN, lO, lP, lQ, lR, lS, lT, lU, lV, lW, lX, lY, lZ, mA, mB, mC, mD, mE, mF, mG, mH, mI, mJ, mK, mL, mM, mN, mO, mP, mQ, mR, mS, mT, mU, mV, mW, mX, mY, mZ, nA, nB, nC, nD, nE, nF, nG, nH, nI, nJ, nK, nL, nM, nN, nO, nP, nQ, nR, nS, nT, nU, nV, nW, nX, nY, nZ, oA, oB, oC, oD, oE, oF, oG, oH, oI, oJ, oK, oL, oM, oN, oO, oP, oQ, oR, oS, oT, oU, oV, oW, oX, oY, oZ, pA, pB, pC, pD, pE, pF, pG, pH, pI, pJ, pK, pL, pM, pN, pO, pP, pQ, pR, pS, pT, pU, pV, pW, pX], []⟩ W := by
 obtain ⟨i, hi, hz0, hz1, hz2⟩ := info_parts iInfo
 have hm1 : m ≤ 1 := HM.out
 conv => arg 2; whnf
 have P2 := hid P.out.mark; clear P; have P := P2; clear P2
 have x0 := P.out.cx 0 (v := .int .i64 x.op) rfl
 have x1 := P.out.cx 1 (v := .int .i64 x.a) rfl
 have x2 := P.out.cx 2 (v := .int .i64 x.b) rfl
 have x3 := P.out.cx 3 (v := .int .i64 x.c) rfl
 have x4 := P.out.cx 4 (v := .slice x.la x.ln x.lc) rfl
 have x5 := P.out.cx 5 (v := .slice x.ba x.bn x.bc) rfl
 have HPK : Hid (pick x.c 6 = (pickN x.c 6 : Int)) := pickN_eq _ 6 (by omega)
 have HLK : Hid (pickN x.c 6 < 6) := pickN_lt _ 6 (by omega)
 have HGK := hid (intsA_get [16, 16, 24, 32, 8, 0] (pickN x.c 6) (by simpa using HLK.out))
 go_wp2_with fail
 refine (pick_any x.c 6 _ (by omega) (by omega)).mono ?_
 rintro e u ⟨rfl, rfl⟩
 dsimp only
 rw [HPK.out]
 have hnn : ∃ nn : Nat, nn ≤ 32 ∧ [16, 16, 24, 32, 8, 0].getD (pickN x.c 6) 0 = (nn : Int) := by
  have h6 := HLK.out
  have : pickN x.c 6 = 0 ∨ pickN x.c 6 = 1 ∨ pickN x.c 6 = 2 ∨ pickN x.c 6 = 3 ∨ pickN x.c 6 = 4 ∨ pickN x.c 6 = 5 := by omega
  rcases this with h | h | h | h | h | h <;> rw [h]
  ·exact ⟨16, by omega, rfl⟩
  ·exact ⟨16, by omega, rfl⟩
  ·exact ⟨24, by omega, rfl⟩
  ·exact ⟨32, by omega, rfl⟩
  ·exact ⟨8, by omega, rfl⟩
  ·exact ⟨0, by omega, rfl⟩
 obtain ⟨nn, hn32, hnn⟩ := hnn
 have hgk := HGK.out
 rw [hnn] at hgk
 clear HGK hnn
 have HGK := hid hgk
 clear hgk
 go_wp2_with (refine wpList_index_row rfl _ _ rfl Tryd.underlying84 sizeInt Tryd.underlying3 rfl (intsA [16, 16, 24, 32, 8, 0]) rfl _ rfl (pickN x.c 6) rfl _ HLK.out HGK.out ?_)
 clear HPK HLK HGK
 have HPK : Hid (pick x.b 5 = (pickN x.b 5 : Int)) := pickN_eq _ 5 (by omega)
 have HLK : Hid (pickN x.b 5 < 5) := pickN_lt _ 5 (by omega)
 have HGK := hid (intsA_get [2, 2, 2, 7, 4] (pickN x.b 5) (by simpa using HLK.out))
 go_wp2_with fail
 refine (pick_any x.b 5 _ (by omega) (by omega)).mono ?_
 rintro e u ⟨rfl, rfl⟩
 dsimp only
 rw [HPK.out]
 go_wp2_with (refine wpList_index_row rfl _ _ rfl Tryd.underlying86 sizeInt Tryd.underlying3 rfl (intsA [2, 2, 2, 7, 4]) rfl _ rfl (pickN x.b 5) rfl _ HLK.out HGK.out ?_)
 clear HPK HLK HGK
 refine (handNum_any _ _ _ _).mono ?_
 rintro e w5 ⟨rfl, hb5⟩
 dsimp only
 clear x0 x1 x2 x3 x4 x5
 have P2 := hid (P.out.grow hb5); have R2 := hid ((hb5.block _ (block_lt HRB.out)).trans HRB.out); clear hb5 P HRB; have P := P2; have HRB := R2; clear P2 R2
 go_wp2_with fail
 refine (P.out.add (numV_ok _ _ _ _) (numV_foot _) (by simp) (numV_nz _ _ _) (by omega) HRB.out).mono ?_
 rintro e w6 ⟨rfl, hp6, hr6⟩
 dsimp only
 clear P HRB
 have P := hid hp6; have HRB := hid hr6; clear hp6 hr6
 have P2 := hid P.out.mark; clear P; have P := P2; clear P2
 have x0 := P.out.cx 0 (v := .int .i64 x.op) rfl
 have x1 := P.out.cx 1 (v := .int .i64 x.a) rfl
 have x2 := P.out.cx 2 (v := .int .i64 x.b) rfl
 have x3 := P.out.cx 3 (v := .int .i64 x.c) rfl
 have x4 := P.out.cx 4 (v := .slice x.la x.ln x.lc) rfl
 have x5 := P.out.cx 5 (v := .slice x.ba x.bn x.bc) rfl
 have hw8 : IntKind.i64.wrap (8 * (nn : Int)) = 8 * (nn : Int) := IntWalk.i64_in _ (by omega)
 have hw : IntKind.i64.wrap (x.b.tdiv 7) = x.b.tdiv 7 := wrap_tdiv (by omega) HX.out.b
 go_wp2_with fail
 refine (template_any _ _ x.la x.ln x.lc x.l _ _ (HX.out.below P.out.old).l).mono ?_
 rintro e w5 ⟨v, rfl, hvo, hvn, hvf0, hvt, hb5⟩
 dsimp only
 clear x0 x1 x2 x3 x4 x5
 have HVF : Hid (∀ k ∈ v.foot, _ ≤ k) := hvf0
 have HVO := hid hvo; have HVT := hid hvt; have HVN := hid hvn
 clear hvf0 hvo hvt hvn
 have P2 := hid (P.out.grow hb5); have R2 := hid ((hb5.block _ (block_lt HRB.out)).trans HRB.out); clear hb5 P HRB; have P := P2; have HRB := R2; clear P2 R2
 have HZ5 : Hid (∀ k ∈ v.foot, k < w5.heap.size) := HVO.out.lt
 go_upto_region 23 with (first | (refine wpList_alloc_obj rfl 27 rfl _ iZero ?_) | (refine wpList_store_obj rfl 27 _ _ rfl w5.heap.size rfl v.arr rfl _ _ (block_new w5 _) rfl iSize (arr_one _) ?_; intro w7 hb7 hc7 hs7; have HB7 := hid hb7; have HC7 := hid hc7; clear hb7 hc7 hs7))
 have hb8 : Below w5.heap.size w5 w7 := ((Below.refl _ w5).alloc (Nat.le_refl _) _).trans (HC7.out.below (fun k hk => by rw [List.mem_singleton.1 hk]; exact Nat.le_refl _) (by simp))
 have HV7 := hid (HVO.out.below hb8)
 clear HC7 HVO HZ5
 have P2 := hid (P.out.grow hb8); have R2 := hid ((hb8.block _ (block_lt HRB.out)).trans HRB.out); clear hb8 P HRB; have P := P2; have HRB := R2; clear P2 R2
 generalize w5.heap.size = q at *
 go_wp2_with (refine wpList_load_row rfl 27 _ rfl q rfl _ _ _ _ HB7.out Tryd.underlying27 rfl iSize ?_)
 clear HB7
 refine (P.out.add HV7.out HVF.out HVT.out HVN.out (by omega) HRB.out).mono ?_
 rintro e w6 ⟨rfl, hp6, hr6⟩
 dsimp only
 clear P HRB
 have P := hid hp6; have HRB := hid hr6; clear hp6 hr6
 clear HV7 HVF HVT HVN
 have x0 := P.out.cx 0 (v := .int .i64 x.op) rfl
 have x1 := P.out.cx 1 (v := .int .i64 x.a) rfl
 have x2 := P.out.cx 2 (v := .int .i64 x.b) rfl
 have x3 := P.out.cx 3 (v := .int .i64 x.c) rfl
 have x4 := P.out.cx 4 (v := .slice x.la x.ln x.lc) rfl
 have x5 := P.out.cx 5 (v := .slice x.ba x.bn x.bc) rfl
 go_upto_region 24 with (fail)
 clear x0 x1 x2 x3 x4 x5
 have P2 := hid P.out.mark; clear P; have P := P2; clear P2
 obtain ⟨cw, hcw⟩ := P.out.cwD
 have HCW := hid hcw
 clear hcw
 refine wp_region_each 11 [.eq (.func (.func 49) #[] #[.pointer (some ⟨p, 0, none⟩)]), stSome cw, .eq (.int .i64 (nn : Int)), .eq (.pointer (some ⟨b, 1, none⟩)), .eq (.int .i64 x.a), stByD cw nn, stSome cw, stSomes cw, stSome cw, stSomes cw, stSome cw] (by kernel_rfl) (by kernel_rfl) (by kernel_rfl) (by kernel_rfl) ?_ ?_
 ·all_goals
   refine each_5 ?_ ?_ ?_ ?_ ?_ (each_5 ?_ ?_ ?_ ?_ ?_ (each_c ?_ (each_n)))
   ·intro w1 hg Ar seen
    have s4 := seen.sl 4 (.func (.func 49) #[] #[.pointer (some ⟨p, 0, none⟩)])
    refine does_plain rfl fun K Q' hK => ?_
    go_simp; exact hK _ _ (Grow.refl _) rfl
   ·intro w1 hg Ar seen
    refine does_plain rfl fun K Q' hK => ?_
    go_simp
    refine (handNum_any _ _ _ _).mono ?_
    rintro e u ⟨rfl, hb⟩
    exact hK _ _ hb ⟨_, rfl, numV_ok _ _ _ _, numV_foot _, by simp, numV_nz _ _ _⟩
   ·intro w1 hg Ar seen
    have s7 := seen.sl 7 (.int .i64 (nn : Int))
    refine does_plain rfl fun K Q' hK => ?_
    go_simp; exact hK _ _ (Grow.refl _) rfl
   ·intro w1 hg Ar seen
    have s1 := seen.sl 1 (.pointer (some ⟨b, 0, none⟩))
    refine does_plain rfl fun K Q' hK => ?_
    go_simp; exact hK _ _ (Grow.refl _) rfl
   ·intro w1 hg Ar seen
    have e3 := seen.de 3 141
    refine does_plain rfl fun K Q' hK => ?_
    have hc := (P.out.grow hg).cx 1 (v := .int .i64 x.a) rfl
    go_simp; exact hK _ _ (Grow.refl _) rfl
   ·intro w1 hg Ar seen
    obtain ⟨v2, e2, h2⟩ := seen.dp 2 140
    rcases h2 with rfl
    have e4 := seen.de 4 142
    obtain ⟨v1, e1, h1⟩ := seen.dp 1 139
    refine does_plain rfl fun K Q' hK => ?_
    go_simp
    refine (bytes_any nn x.a _ (by omega)).mono ?_
    rintro e u ⟨a', c', rfl, ho, hb⟩
    exact hK _ _ hb ⟨⟨a', nn, c'⟩, _, rfl, SlC.of_own (s := ⟨a', nn, c'⟩) ho (by simp only; omega), (fun k hk => by have h0 := blk_own (s := ⟨a', nn, c'⟩) ho k hk; have h1 := HCW.out; have h2 := hg.size; omega)⟩
   ·intro w1 hg Ar seen
    obtain ⟨v5, e5, h5⟩ := seen.dp 5 143
    refine does_plain rfl fun K Q' hK => ?_
    obtain ⟨s, l, rfl, hs, hsb⟩ := h5
    refine wp_build_obj 27 _ rfl #[(0, .int .i64 4325443), (1, .int .i64 8), (3, .slice s.a s.n s.c)] (by simp [Act.eval, e5]) _ (iBuildDD 4325443 8 s l _) ?_
    exact hK _ _ (Grow.refl _) ⟨_, rfl, ok_flat hs, (fun k hk => hsb k (foot_flat hk)), by simp, (by rw [it_flat]; rfl)⟩
   ·intro w1 hg Ar seen
    obtain ⟨v6, e6, h6⟩ := seen.dp 6 144
    refine does_plain rfl fun K Q' hK => ?_
    obtain ⟨x6, rfl, ho6, hf6, hn6⟩ := h6
    refine wp_build_itemsB _ 27 1 _ rfl [x6] rfl (by decide) (by decide) (by simp [Act.eval, e6] <;> rfl) (x6.arr) (by simp [itmCells, ItV.cells]) i Tryd.underlying25 hi hz0 hz1 (fill1 x6) ?_
    intro hs
    exact hK _ _ ((Below.refl _ _).alloc (Nat.le_refl _) _) ⟨⟨some ⟨w1.heap.size, 0, none⟩, 1, 1⟩, [x6], rfl, hs, (fun k hk => by simp [Sl.blk] at hk; have h1 := HCW.out; have h2 := hg.size; omega), fun x hx => by simp only [List.mem_cons, List.not_mem_nil, or_false] at hx; rcases hx with rfl <;> first | exact ⟨ho6.below ((Below.refl _ _).alloc (Nat.le_refl _) _), hf6, hn6⟩⟩
   ·intro w1 hg Ar seen
    obtain ⟨v7, e7, h7⟩ := seen.dp 7 145
    refine does_plain rfl fun K Q' hK => ?_
    obtain ⟨s, l, rfl, hs, hsb, ha⟩ := h7
    go_simp
    refine (handOf_any _ s _).mono ?_
    rintro e u ⟨rfl, hb⟩
    exact hK _ _ hb ⟨{ tag := 4325445, typ := 1, ks := s, kids := l }, rfl, some_of (hs.below hb) (fun x hx => (ha x hx).1.below hb), foot_of hsb (fun x hx => (ha x hx).2.1), (by show (1 : Int) ≠ 0; decide), nz_of (fun x hx => (ha x hx).2.2)⟩
   ·intro w1 hg Ar seen
    obtain ⟨v1, e1, h1⟩ := seen.dp 1 139
    obtain ⟨v8, e8, h8⟩ := seen.dp 8 146
    refine does_plain rfl fun K Q' hK => ?_
    obtain ⟨x1, rfl, ho1, hf1, hn1⟩ := h1
    obtain ⟨x8, rfl, ho8, hf8, hn8⟩ := h8
    refine wp_build_itemsB _ 27 2 _ rfl [x1, x8] rfl (by decide) (by decide) (by simp [Act.eval, e1, e8] <;> rfl) (x1.arr ++ x8.arr) (by simp [itmCells, ItV.cells]) i Tryd.underlying25 hi hz0 hz1 (fill2 x1 x8) ?_
    intro hs
    exact hK _ _ ((Below.refl _ _).alloc (Nat.le_refl _) _) ⟨⟨some ⟨w1.heap.size, 0, none⟩, 2, 2⟩, [x1, x8], rfl, hs, (fun k hk => by simp [Sl.blk] at hk; have h1 := HCW.out; have h2 := hg.size; omega), fun x hx => by simp only [List.mem_cons, List.not_mem_nil, or_false] at hx; rcases hx with rfl | rfl <;> first | exact ⟨ho1.below ((Below.refl _ _).alloc (Nat.le_refl _) _), hf1, hn1⟩ | exact ⟨ho8.below ((Below.refl _ _).alloc (Nat.le_refl _) _), hf8, hn8⟩⟩
   ·intro w1 hg Ar seen
    obtain ⟨v9, e9, h9⟩ := seen.dp 9 147
    refine does_plain rfl fun K Q' hK => ?_
    obtain ⟨s, l, rfl, hs, hsb, ha⟩ := h9
    go_simp
    refine (handOf_any _ s _).mono ?_
    rintro e u ⟨rfl, hb⟩
    exact hK _ _ hb ⟨{ tag := 4325440, typ := 1, ks := s, kids := l }, rfl, some_of (hs.below hb) (fun x hx => (ha x hx).1.below hb), foot_of hsb (fun x hx => (ha x hx).2.1), (by show (1 : Int) ≠ 0; decide), nz_of (fun x hx => (ha x hx).2.2)⟩
 intro w1 hg
 refine upon_w' (js := [0, 1, 2, 3, 4, 5, 6, 7, 8, 9, 10]) (by rfl) ?_
 refine upon_e (some 138) (upon_v (some 139) fun v1 h1 => upon_e (some 140) (upon_e (some 141) (upon_e (some 142) (upon_v (some 143) fun v5 h5 => upon_v (some 144) fun v6 h6 => upon_v (some 145) fun v7 h7 => upon_v (some 146) fun v8 h8 => upon_v (some 147) fun v9 h9 => upon_v (some 148) fun v10 h10 => upon_n ?_))))
 obtain ⟨v, rfl, hvo, hvf0, hvt, hvn⟩ := h10
 have hvf : ∀ k ∈ v.foot, _ := fun k hk => Nat.le_trans (Nat.le_of_eq HCW.out) (hvf0 k hk)
 have hb5 := hg
 clear hvf0 HCW hg h1 h5 h6 h7 h8 h9
 have P2 := hid (P.out.grow hb5); have R2 := hid ((hb5.block _ (block_lt HRB.out)).trans HRB.out); clear hb5 P HRB; have P := P2; have HRB := R2; clear P2 R2
 go_simp
 have HVO := hid hvo; have HVF := hid hvf; have HVT := hid hvt; have HVN := hid hvn; clear hvo hvf hvt hvn
 go_wp2_with fail
 refine (P.out.add HVO.out HVF.out HVT.out HVN.out (by omega) HRB.out).mono ?_
 rintro e w6 ⟨rfl, hp6, hr6⟩
 dsimp only
 clear P HRB
 have P := hid hp6; have HRB := hid hr6; clear hp6 hr6
 clear HVO HVF HVT HVN
 go_wp2_with fail
 go_meet
 exact ⟨_, _, by omega, P.out⟩
end
section
open Go.RowKit
set_option linter.unusedVariables false
set_option linter.unusedSimpArgs false
set_option maxRecDepth 1000000
set_option maxHeartbeats 16000000
theorem pay_11 {x : AskD} {w W : World} {b p pr m c : Nat} {r : RawD} (aA aH aI aJ aK aL aM aN aO aP aQ aR aS aT aU aV aW aX aY aZ bA bB bC bD bE bF bG bH bI bJ bK bL bM bN bO bP bQ bR bS bT bU bV bW bX bY bZ cA cB cC cD cE cF cG cI cJ cK cL cM cN cO cP cQ cR cS cT cU cV cW cX cY cZ dA dB dC dD dE dF dG dH dI dJ dK dL dM dN dO dP dQ dR dS dT dU dV dW dX dY dZ eA eB eC eD eE eF eG eH eI eJ eK eL eM eN eO eP eQ eR eS eT eU eV eW eX eY eZ fA fB fC fD fE fF fG fH fI fJ fK fL fM fN fO fP fQ fR fS fT fU fV fW fX fY fZ gA gB gC gD gE gF gG gH gI gJ gK gL gM gN gO gP gQ gR gS gT gU gV gW gX gY gZ iA iB iC iD iE iF iG iH iI iJ iK iL iM iN iO iP iQ iR iS iT iU iV iW iX iY iZ jA jB jC jD jE jF jG jH jI jJ jK jL jM jN jO jP jQ jR jS jT jU jV jW jX jY jZ kA kB kC kD kE kF kG kH kI kJ kK kL kM kN kO kP kQ kR kS kT kU kV kW kX kY kZ lA lB lC lD lE lF lG lH lI lJ lK lL lM lN lO lP lQ lR lS lT lU lV lW lX lY lZ mA mB mC mD mE mF mG mH mI mJ mK mL mM mN mO mP mQ mR mS mT mU mV mW mX mY mZ nA nB nC nD nE nF nG nH nI nJ nK nL nM nN nO nP nQ nR nS nT nU nV nW nX nY nZ oA oB oC oD oE oF oG oH oI oJ oK oL oM oN oO oP oQ oR oS oT oU oV oW oX oY oZ pA pB pC pD pE pF pG pH pI pJ pK pL pM pN pO pP pQ pR pS pT pU pV pW pX : Value) (J K' : Act → World → Prop) (Q' : Exit → Act → World → Prop)
  (P : Hid (PS x w b p m c W)) (HM : Hid (m ≤ 1)) (HRB : Hid (W.heap[pr]? = some (.cells r.cells 75 (0, 0)))) (HRK : Hid r.ok) (HX : Hid (x.ok w)) (HT : Hid (NamesTab w))
  (h1 : ∀ a' w', (∃ aH aI aJ aK aL cI cJ cK cL cM cN cO cP cQ cR cS cT cU cV cW cX cY cZ dA dB dC dD dE dF dG dH dI dJ dK dL dM dN dO dP dQ dR dS dT dU dV dW dX dY dZ eA eB eC eD eE eF eG eH eI eJ eK eL eM eN eO eP eQ eR eS eT eU eV eW eX eY eZ fA fB fC fD fE fF fG fH fI fJ fK fL fM fN fO fP fQ fR fS fT fU fV fW fX fY fZ gA gB gC gD gE gF gG gH gI gJ gK gL gM gN gO gP gQ gR gS gT gU gV gW gX gY gZ iA iB iC iD iE iF iG iH iI iJ iK iL iM iN iO iP iQ iR iS iT iU iV iW iX iY iZ jA jB jC jD jE jF jG jH jI jJ jK jL jM jN jO jP jQ jR jS jT jU jV jW jX jY jZ kA kB kC kD kE kF kG kH kI kJ kK kL kM kN kO kP kQ kR kS kT kU kV kW kX kY kZ lA lB lC lD lE lF lG lH lI lJ lK lL lM lN lO lP lQ lR lS lT lU lV lW lX lY lZ mA mB mC mD mE mF mG mH mI mJ mK mL mM mN mO mP mQ mR mS mT mU mV mW mX mY mZ nA nB nC nD nE nF nG nH nI nJ nK nL nM nN nO nP nQ nR nS nT nU nV nW nX nY nZ oA oB oC oD oE oF oG oH oI oJ oK oL oM oN oO oP oQ oR oS oT oU oV oW oX oY oZ pA pB : Value, (∃ m c, m ≤ 11 ∧ PS x w b p m c w') ∧ a' = ⟨#[aA, .pointer (some ⟨b, 0, none⟩), .pointer (some ⟨b + 1, 0, none⟩), .pointer (some ⟨p, 0, none⟩), .func (.func 49) #[] #[.pointer (some ⟨p, 0, none⟩)], .int .i64 11, .pointer (some ⟨pr, 0, none⟩), aH, aI, aJ, aK, aL, aM, aN, aO, aP, aQ, aR, aS, aT, aU, aV, aW, aX, aY, aZ, bA, bB, bC, bD, bE, bF, bG, bH, bI, bJ, bK, bL, bM, bN, bO, bP, bQ, bR, bS, bT, bU, bV, bW, bX, bY, bZ, cA, cB, cC, cD, cE, cF, cG, .int .i64 11, cI, cJ, cK, cL, cM, cN, cO, cP, cQ, cR, cS, cT, cU, cV, cW, cX, cY, cZ, dA, dB, dC, dD, dE, dF, dG, dH, dI, dJ, dK, dL, dM, dN, dO, dP, dQ, dR, dS, dT, dU, dV, dW, dX, dY, dZ, eA, eB, eC, eD, eE, eF, eG, eH, eI, eJ, eK, eL, eM, eN, eO, eP, eQ, eR, eS, eT, eU, eV, eW, eX, eY, eZ, fA, fB, fC, fD, fE, fF, fG, fH, fI, fJ, fK, fL, fM, fN, fO, fP, fQ, fR, fS, fT, fU, fV, fW, fX, fY, fZ, gA, gB, gC, gD, gE, gF, gG, gH, gI, gJ, gK, gL, gM, gN, gO, gP, gQ, gR, gS, gT, gU, gV, gW, gX, gY, gZ, iA, iB, iC, iD, iE, iF, iG, iH, iI, iJ, iK, iL, iM, iN, iO, iP, iQ, iR, iS, iT, iU, iV, iW, iX, iY, iZ, jA, jB, jC, jD, jE, jF, jG, jH, jI, jJ, jK, jL, jM, jN, jO, jP, jQ, jR, jS, jT, jU, jV, jW, jX, jY, jZ, kA, kB, kC, kD, kE, kF, kG, kH, kI, kJ, kK, kL, kM, kN, kO, kP, kQ, kR, kS, kT, kU, kV, kW, kX, kY, kZ, lA, lB, lC, lD, lE, lF, lG, lH, lI, lJ, lK, lL, lM, lN, lO, lP, lQ, lR, lS, lT, lU, lV, lW, lX, lY, lZ, mA, mB, mC, mD, mE, mF, mG, mH, mI, mJ, mK, mL, mM, mN, mO, mP, mQ, mR, mS, mT, mU, mV, mW, mX, mY, mZ, nA, nB, nC, nD, nE, nF, nG, nH, nI, nJ, nK, nL, nM, nN, nO, nP, nQ, nR, nS, nT, nU, nV, nW, nX, nY, nZ, oA, oB, oC, oD, oE, oF, oG, oH, oI, oJ, oK, oL, oM, oN, oO, oP, oQ, oR, oS, oT, oU, oV, oW, oX, oY, oZ, pA, pB, pC, pD, pE, pF, pG, pH, pI, pJ, pK, pL, pM, pN, pO, pP, pQ, pR, pS, pT, pU, pV, pW, pX], []⟩) → J a' w') (h2 : ∀ a' w', Met J a' w' → K' a' w') :
  Code.wp Tryd.prog paySw (Exit.then K' Q') ⟨#[aA, .pointer (some ⟨b, 0, none⟩), .pointer (some ⟨b + 1, 0, none⟩), .pointer (some ⟨p, 0, none⟩), .func (.func 49) #[] #[.pointer (some ⟨p, 0, none⟩)], .int .i64 11, .pointer (some ⟨pr, 0, none⟩), aH, aI, aJ, aK, aL, aM, aN, aO, aP, aQ, aR, aS, aT, aU, aV, aW, aX, aY, aZ, bA, bB, bC, bD, bE, bF, bG, bH, bI, bJ, bK, bL, bM, bN, bO, bP, bQ, bR, bS, bT, bU, bV, bW, bX, bY, bZ, cA, cB, cC, cD, cE, cF, cG, .int .i64 11, cI, cJ, cK, cL, cM, cN, cO, cP, cQ, cR, cS, cT, cU, cV, cW, cX, cY, cZ, dA, dB, dC, dD, dE, dF, dG, dH, dI, dJ, dK, dL, dM, dN, dO, dP, dQ, dR, dS, dT, dU, dV, dW, dX, dY, dZ, eA, eB, eC, eD, eE, eF, eG, eH, eI, eJ, eK, eL, eM, eN, eO, eP, eQ, eR, eS, eT, eU, eV, eW, eX, eY, eZ, fA, fB, fC, fD, fE, fF, fG, fH, fI, fJ, fK, fL, fM, fN, fO, fP, fQ, fR, fS, fT, fU, fV, fW, fX, fY, fZ, gA, gB, gC, gD, gE, gF, gG, gH, gI, gJ, gK, gL, gM, gN, gO, gP, gQ, gR, gS, gT, gU, gV, gW, gX, gY, gZ, iA, iB, iC, iD, iE, iF, iG, iH, iI, iJ, iK, iL, iM, iN, iO, iP, iQ, iR, iS, iT, iU, iV, iW, iX, iY, iZ, jA, jB, jC, jD, jE, jF, jG, jH, jI, jJ, jK, jL, jM, jN, jO, jP, jQ, jR, jS, jT, jU, jV, jW, jX, jY, jZ, kA, kB, kC, kD, kE, kF, kG, kH, kI, kJ, kK, kL, kM, kN, kO, kP, kQ, kR, kS, kT, kU, kV, kW, kX, kY, kZ, lA, lB, lC, lD, lE, lF, lG, lH, lI, lJ, lK, lL, lM, lN, lO, lP, lQ, lR, lS, lT, lU, lV, lW, lX, lY, lZ, mA, mB, mC, mD, mE, mF, mG, mH, mI, mJ, mK, mL, mM, mN, mO, mP, mQ, mR, mS, mT, mU, mV, mW, mX, mY, mZ, nA, nB, nC, nD, nE, nF, nG, nH, nI, nJ, nK, nL, nM, nN, nO, nP, nQ, nR, nS, nT, nU, nV, nW, nX, nY, nZ, oA, oB, oC, oD, oE, oF, oG, oH, oI, oJ, oK, oL, oM, oN, oO, oP, oQ, oR, oS, oT, oU, oV, oW, oX, oY, oZ, pA, pB, pC, pD, pE, pF, pG, pH, pI, pJ, pK, pL, pM, pN, pO, pP, pQ, pR, pS, pT, pU, pV, pW, pX], []⟩ W := by
 obtain ⟨i, hi, hz0, hz1, hz2⟩ := info_parts iInfo
 have hm1 : m ≤ 1 := HM.out
 conv => arg 2; whnf
 have P2 := hid P.out.mark; clear P; have P := P2; clear P2
 have x0 := P.out.cx 0 (v := .int .i64 x.op) rfl
 have x1 := P.out.cx 1 (v := .int .i64 x.a) rfl
 have x2 := P.out.cx 2 (v := .int .i64 x.b) rfl
 have x3 := P.out.cx 3 (v := .int .i64 x.c) rfl
 have x4 := P.out.cx 4 (v := .slice x.la x.ln x.lc) rfl
 have x5 := P.out.cx 5 (v := .slice x.ba x.bn x.bc) rfl
 go_wp2_with fail
 go_loopw [11] (fun u wr => ∃ (k m c : Nat), k ≤ x.ln ∧ k ≤ 3 ∧ m ≤ 2 + k ∧ u = .int .i64 (k : Int) ∧ PS x w b p m c wr ∧ wr.heap[pr]? = some (.cells r.cells 75 (0, 0))) (fun u _ => 3 - (intOf u).toNat)
 case atStart => exact ⟨0, _, _, Nat.zero_le _, Nat.zero_le _, by omega, rfl, P.out, HRB.out⟩
 case round =>
  clear P HRB
  obtain ⟨k, m, c, hkn, hk2, hmk, rfl, hp, hr⟩ := hrel
  have P := hid hp; have HRB := hid hr
  clear hp hr
  have hnl := (argSl_len (HX.out.below P.out.old).l).2
  have P2 := hid P.out.mark; clear P; have P := P2; clear P2
  have x0 := P.out.cx 0 (v := .int .i64 x.op) rfl
  have x1 := P.out.cx 1 (v := .int .i64 x.a) rfl
  have x2 := P.out.cx 2 (v := .int .i64 x.b) rfl
  have x3 := P.out.cx 3 (v := .int .i64 x.c) rfl
  have x4 := P.out.cx 4 (v := .slice x.la x.ln x.lc) rfl
  have x5 := P.out.cx 5 (v := .slice x.ba x.bn x.bc) rfl
  by_cases hlt : k < x.ln
  ·by_cases hlt2 : k < 3
   ·obtain ⟨bq, oq, y, hay, hy, hyok, c0, c1, c2, c3⟩ := raw_get (HX.out.below P.out.old).l hlt
    rw [hay] at x4
    clear hay hy
    have HYOK := hid hyok; clear hyok
    go_wp2_with fail
    refine (name_any _ _ (HT.out.below P.out.old)).mono ?_
    rintro e u ⟨rfl, rfl⟩
    dsimp only
    clear c0 c1 c2 c3
    have HNS := hid (nmL_size (pickN y.kind 24))
    generalize nmL.getD (pickN y.kind 24) ⟨#[]⟩ = nm at *
    go_wp2_with fail
    refine (handText_any _ nm _ (by have := HNS.out; omega)).mono ?_
    rintro e w5 ⟨v, rfl, hvi, hvo, hvf0, hb5⟩
    dsimp only
    clear x0 x1 x2 x3 x4 x5
    have hvf : ∀ k ∈ v.foot, _ := fun k hk => Nat.le_trans P.out.lt.2.2 (hvf0 k hk)
    have hvt : v.typ ≠ 0 := by rw [← it_typ', hvi]; show (7 : Int) ≠ 0; decide
    have hvn : nz v.it = true := by rw [hvi]; rfl
    clear hvi hvf0
    have P2 := hid (P.out.grow hb5); have R2 := hid ((hb5.block _ (block_lt HRB.out)).trans HRB.out); clear hb5 P HRB; have P := P2; have HRB := R2; clear P2 R2
    have HVO := hid hvo; have HVF := hid hvf; have HVT := hid hvt; have HVN := hid hvn; clear hvo hvf hvt hvn
    go_wp2_with fail
    refine (P.out.add HVO.out HVF.out HVT.out HVN.out (by omega) HRB.out).mono ?_
    rintro e w6 ⟨rfl, hp6, hr6⟩
    dsimp only
    clear P HRB
    have P := hid hp6; have HRB := hid hr6; clear hp6 hr6
    clear HVO HVF HVT HVN
    go_wp2_with fail
    go_roundw
    case rel =>
     first
      | exact ⟨k + 1, _, _, by omega, by omega, by omega, rfl, P.out, HRB.out⟩
      | exact ⟨k + 1, _, _, by omega, by omega, by omega, by go_num, P.out, HRB.out⟩
    case measure => simp [intOf]; omega
   ·obtain rfl : k = 3 := by omega
    go_wp2_with fail
    go_meet
    exact ⟨_, _, by omega, P.out⟩
  ·obtain rfl : k = x.ln := by omega
   go_wp2_with fail
   go_meet
   exact ⟨_, _, by omega, P.out⟩
theorem pay_else {x : AskD} {w W : World} {b p pr m c : Nat} {r : RawD} {op : Int} (e1 : (op == 1) = false) (e2 : (op == 2) = false) (e3 : (op == 3) = false) (e4 : (op == 4) = false) (e8 : (op == 8) = false) (e9 : (op == 9) = false) (e11 : (op == 11) = false) (e13 : (op == 13) = false) (e14 : (op == 14) = false) (e15 : (op == 15) = false) (e17 : (op == 17) = false) (e19 : (op == 19) = false) (e24 : (op == 24) = false) (e30 : (op == 30) = false) (e31 : (op == 31) = false) (e32 : (op == 32) = false) (e35 : (op == 35) = false) (e36 : (op == 36) = false) (aA aH aI aJ aK aL aM aN aO aP aQ aR aS aT aU aV aW aX aY aZ bA bB bC bD bE bF bG bH bI bJ bK bL bM bN bO bP bQ bR bS bT bU bV bW bX bY bZ cA cB cC cD cE cF cG cI cJ cK cL cM cN cO cP cQ cR cS cT cU cV cW cX cY cZ dA dB dC dD dE dF dG dH dI dJ dK dL dM dN dO dP dQ dR dS dT dU dV dW dX dY dZ eA eB eC eD eE eF eG eH eI eJ eK eL eM eN eO eP eQ eR eS eT eU eV eW eX eY eZ fA fB fC fD fE fF fG fH fI fJ fK fL fM fN fO fP fQ fR fS fT fU fV fW fX fY fZ gA gB gC gD gE gF gG gH gI gJ gK gL gM gN gO gP gQ gR gS gT gU gV gW gX gY gZ iA iB iC iD iE iF iG iH iI iJ iK iL iM iN iO iP iQ iR iS iT iU iV iW iX iY iZ jA jB jC jD jE jF jG jH jI jJ jK jL jM jN jO jP jQ jR jS jT jU jV jW jX jY jZ kA kB kC kD kE kF kG kH kI kJ kK kL kM kN kO kP kQ kR kS kT kU kV kW kX kY kZ lA lB lC lD lE lF lG lH lI lJ lK lL lM lN lO lP lQ lR lS lT lU lV lW lX lY lZ mA mB mC mD mE mF mG mH mI mJ mK mL mM mN mO mP mQ mR mS mT mU mV mW mX mY mZ nA nB nC nD nE nF nG nH nI nJ nK nL nM nN nO nP nQ nR nS nT nU nV nW nX nY nZ oA oB oC oD oE oF oG oH oI oJ oK oL oM oN oO oP oQ oR oS oT oU oV oW oX oY oZ pA pB pC pD pE pF pG pH pI pJ pK pL pM pN pO pP pQ pR pS pT pU pV pW pX : Value) (J K' : Act → World → Prop) (Q' : Exit → Act → World → Prop)
  (P : Hid (PS x w b p m c W)) (HM : Hid (m ≤ 1)) (HRB : Hid (W.heap[pr]? = some (.cells r.cells 75 (0, 0)))) (HRK : Hid r.ok) (HX : Hid (x.ok w)) (HT : Hid (NamesTab w))
  (h1 : ∀ a' w', (∃ aH aI aJ aK aL cI cJ cK cL cM cN cO cP cQ cR cS cT cU cV cW cX cY cZ dA dB dC dD dE dF dG dH dI dJ dK dL dM dN dO dP dQ dR dS dT dU dV dW dX dY dZ eA eB eC eD eE eF eG eH eI eJ eK eL eM eN eO eP eQ eR eS eT eU eV eW eX eY eZ fA fB fC fD fE fF fG fH fI fJ fK fL fM fN fO fP fQ fR fS fT fU fV fW fX fY fZ gA gB gC gD gE gF gG gH gI gJ gK gL gM gN gO gP gQ gR gS gT gU gV gW gX gY gZ iA iB iC iD iE iF iG iH iI iJ iK iL iM iN iO iP iQ iR iS iT iU iV iW iX iY iZ jA jB jC jD jE jF jG jH jI jJ jK jL jM jN jO jP jQ jR jS jT jU jV jW jX jY jZ kA kB kC kD kE kF kG kH kI kJ kK kL kM kN kO kP kQ kR kS kT kU kV kW kX kY kZ lA lB lC lD lE lF lG lH lI lJ lK lL lM lN lO lP lQ lR lS lT lU lV lW lX lY lZ mA mB mC mD mE mF mG mH mI mJ mK mL mM mN mO mP mQ mR mS mT mU mV mW mX mY mZ nA nB nC nD nE nF nG nH nI nJ nK nL nM nN nO nP nQ nR nS nT nU nV nW nX nY nZ oA oB oC oD oE oF oG oH oI oJ oK oL oM oN oO oP oQ oR oS oT oU oV oW oX oY oZ pA pB : Value, (∃ m c, m ≤ 11 ∧ PS x w b p m c w') ∧ a' = ⟨#[aA, .pointer (some ⟨b, 0, none⟩), .pointer (some ⟨b + 1, 0, none⟩), .pointer (some ⟨p, 0, none⟩), .func (.func 49) #[] #[.pointer (some ⟨p, 0, none⟩)], .int .i64 op, .pointer (some ⟨pr, 0, none⟩), aH, aI, aJ, aK, aL, aM, aN, aO, aP, aQ, aR, aS, aT, aU, aV, aW, aX, aY, aZ, bA, bB, bC, bD, bE, bF, bG, bH, bI, bJ, bK, bL, bM, bN, bO, bP, bQ, bR, bS, bT, bU, bV, bW, bX, bY, bZ, cA, cB, cC, cD, cE, cF, cG, .int .i64 op, cI, cJ, cK, cL, cM, cN, cO, cP, cQ, cR, cS, cT, cU, cV, cW, cX, cY, cZ, dA, dB, dC, dD, dE, dF, dG, dH, dI, dJ, dK, dL, dM, dN, dO, dP, dQ, dR, dS, dT, dU, dV, dW, dX, dY, dZ, eA, eB, eC, eD, eE, eF, eG, eH, eI, eJ, eK, eL, eM, eN, eO, eP, eQ, eR, eS, eT, eU, eV, eW, eX, eY, eZ, fA, fB, fC, fD, fE, fF, fG, fH, fI, fJ, fK, fL, fM, fN, fO, fP, fQ, fR, fS, fT, fU, fV, fW, fX, fY, fZ, gA, gB, gC, gD, gE, gF, gG, gH, gI, gJ, gK, gL, gM, gN, gO, gP, gQ, gR, gS, gT, gU, gV, gW, gX, gY, gZ, iA, iB, iC, iD, iE, iF, iG, iH, iI, iJ, iK, iL, iM, iN, iO, iP, iQ, iR, iS, iT, iU, iV, iW, iX, iY, iZ, jA, jB, jC, jD, jE, jF, jG, jH, jI, jJ, jK, jL, jM, jN, jO, jP, jQ, jR, jS, jT, jU, jV, jW, jX, jY, jZ, kA, kB, kC, kD, kE, kF, kG, kH, kI, kJ, kK, kL, kM, kN, kO, kP, kQ, kR, kS, kT, kU, kV, kW, kX, kY, kZ, lA, lB, lC, lD, lE, lF, lG, lH, lI, lJ, lK, lL, lM, lN, lO, lP, lQ, lR, lS, lT, lU, lV, lW, lX, lY, lZ, mA, mB, mC, mD, mE, mF, mG, mH, mI, mJ, mK, mL, mM, mN, mO, mP, mQ, mR, mS, mT, mU, mV, mW, mX, mY, mZ, nA, nB, nC, nD, nE, nF, nG, nH, nI, nJ, nK, nL, nM, nN, nO, nP, nQ, nR, nS, nT, nU, nV, nW, nX, nY, nZ, oA, oB, oC, oD, oE, oF, oG, oH, oI, oJ, oK, oL, oM, oN, oO, oP, oQ, oR, oS, oT, oU, oV, oW, oX, oY, oZ, pA, pB, pC, pD, pE, pF, pG, pH, pI, pJ, pK, pL, pM, pN, pO, pP, pQ, pR, pS, pT, pU, pV, pW, pX], []⟩) → J a' w') (h2 : ∀ a' w', Met J a' w' → K' a' w') :
  Code.wp Tryd.prog paySw (Exit.then K' Q') ⟨#[aA, .pointer (some ⟨b, 0, none⟩), .pointer (some ⟨b + 1, 0, none⟩), .pointer (some ⟨p, 0, none⟩), .func (.func 49) #[] #[.pointer (some ⟨p, 0, none⟩)], .int .i64 op, .pointer (some ⟨pr, 0, none⟩), aH, aI, aJ, aK, aL, aM, aN, aO, aP, aQ, aR, aS, aT, aU, aV, aW, aX, aY, aZ, bA, bB, bC, bD, bE, bF, bG, bH, bI, bJ, bK, bL, bM, bN, bO, bP, bQ, bR, bS, bT, bU, bV, bW, bX, bY, bZ, cA, cB, cC, cD, cE, cF, cG, .int .i64 op, cI, cJ, cK, cL, cM, cN, cO, cP, cQ, cR, cS, cT, cU, cV, cW, cX, cY, cZ, dA, dB, dC, dD, dE, dF, dG, dH, dI, dJ, dK, dL, dM, dN, dO, dP, dQ, dR, dS, dT, dU, dV, dW, dX, dY, dZ, eA, eB, eC, eD, eE, eF, eG, eH, eI, eJ, eK, eL, eM, eN, eO, eP, eQ, eR, eS, eT, eU, eV, eW, eX, eY, eZ, fA, fB, fC, fD, fE, fF, fG, fH, fI, fJ, fK, fL, fM, fN, fO, fP, fQ, fR, fS, fT, fU, fV, fW, fX, fY, fZ, gA, gB, gC, gD, gE, gF, gG, gH, gI, gJ, gK, gL, gM, gN, gO, gP, gQ, gR, gS, gT, gU, gV, gW, gX, gY, gZ, iA, iB, iC, iD, iE, iF, iG, iH, iI, iJ, iK, iL, iM, iN, iO, iP, iQ, iR, iS, iT, iU, iV, iW, iX, iY, iZ, jA, jB, jC, jD, jE, jF, jG, jH, jI, jJ, jK, jL, jM, jN, jO, jP, jQ, jR, jS, jT, jU, jV, jW, jX, jY, jZ, kA, kB, kC, kD, kE, kF, kG, kH, kI, kJ, kK, kL, kM, kN, kO, kP, kQ, kR, kS, kT, kU, kV, kW, kX, kY, kZ, lA, lB, lC, lD, lE, lF, lG, lH, lI, lJ, lK, lL, lM, lN, lO, lP, lQ, lR, lS, lT, lU, lV, lW, lX, lY, lZ, mA, mB, mC, mD, mE, mF, mG, mH, mI, mJ, mK, mL, mM, mN, mO, mP, mQ, mR, mS, mT, mU, mV, mW, mX, mY, mZ, nA, nB, nC, nD, nE, nF, nG, nH, nI, nJ, nK, nL, nM, nN, nO, nP, nQ, nR, nS, nT, nU, nV, nW, nX, nY, nZ, oA, oB, oC, oD, oE, oF, oG, oH, oI, oJ, oK, oL, oM, oN, oO, oP, oQ, oR, oS, oT, oU, oV, oW, oX, oY, oZ, pA, pB, pC, pD, pE, pF, pG, pH, pI, pJ, pK, pL, pM, pN, pO, pP, pQ, pR, pS, pT, pU, pV, pW, pX], []⟩ W := by
 obtain ⟨i, hi, hz0, hz1, hz2⟩ := info_parts iInfo
 have hm1 : m ≤ 1 := HM.out
 conv => arg 2; whnf
 go_wp2_with fail
 go_meet
 exact ⟨_, _, by omega, P.out⟩
end
end Go.Proofs.YtbnbofooofedkaaDoor
