/- locksmithhand.Payload: its last test. locksmithhand.Payload: its tests. -/
import Derived.Test.YtbnbofooofedkaaDoorMb
namespace Go.Proofs.YtbnbofooofedkaaDoor
section
open Go.RowKit
set_option linter.unusedVariables false
set_option linter.unusedSimpArgs false
set_option maxRecDepth 1000000
set_option maxHeartbeats 16000000
/-- The test of a slot in a text. -/
def findCondP (n : Nat) : Code → Option Code
 | .loop c => findCondP n c
 | .seq a b => match findCondP n a with
  | some c => some c
  | none => findCondP n b
 | .block _ c => findCondP n c
 | .scope c => findCondP n c
 | .cond (.tmp k) a b => if k = n then some (.cond (.tmp k) a b) else match findCondP n a with
  | some c => some c
  | none => findCondP n b
 | _ => none
noncomputable def payDup : Code := (Tryd.f34.body.bind (findCondP 375)).getD .skip
theorem pay_dup {x : AskD} {w W : World} {b p m c : Nat} (aA aB aC aE aF aG aH aI aJ aK aL aM aN aO aP aQ aR aS aT aU aV aW aX aY aZ bA bB bC bD bE bF bG bH bI bJ bK bL bM bN bO bP bQ bR bS bT bU bV bW bX bY bZ cA cB cC cD cE cF cG cH cI cJ cK cL cM cN cO cP cQ cR cS cT cU cV cW cX cY cZ dA dB dC dD dE dF dG dH dI dJ dK dL dM dN dO dP dQ dR dS dT dU dV dW dX dY dZ eA eB eC eD eE eF eG eH eI eJ eK eL eM eN eO eP eQ eR eS eT eU eV eW eX eY eZ fA fB fC fD fE fF fG fH fI fJ fK fL fM fN fO fP fQ fR fS fT fU fV fW fX fY fZ gA gB gC gD gE gF gG gH gI gJ gK gL gM gN gO gP gQ gR gS gT gU gV gW gX gY gZ iA iB iC iD iE iF iG iH iI iJ iK iL iM iN iO iP iQ iR iS iT iU iV iW iX iY iZ jA jB jC jD jE jF jG jH jI jJ jK jL jM jN jO jP jQ jR jS jT jU jV jW jX jY jZ kA kB kC kD kE kF kG kH kI kJ kK kL kM kN kO kP kQ kR kS kT kU kV kW kX kY kZ lA lB lC lD lE lF lG lH lI lJ lK lL lM lN lO lP lQ lR lS lT lU lV lW lX lY lZ mA mB mC mD mE mF mG mH mI mJ mK mL mM mN mO mP mQ mR mS mT mU mV mW mX mY mZ nA nB nC nD nE nF nG nH nI nJ nK nL nM nN nO nP nQ nR nS nT nU nV nW nX nY nZ oA oB oC oD oE oF oG oH oI oJ oK oL oM oN oO oP oQ oR oS oT oU oV oW oX oY oZ pA pB pC pD pE pF pG pH pI pJ pK pM pN pO pP pQ pR pS pT pU pV pW pX : Value) (J K' : Act → World → Prop) (Q' : Exit → Act → World → Prop)
  (P : Hid (PS x w b p m c W)) (HM : Hid (m ≤ 11)) (hm0 : 0 < m) (hQ : ∀ c a a' w, a.defers = a'.defers → Q' (.panic c) a w → Q' (.panic c) a' w)
  (h1 : ∀ a' w', (∃ pM pN pO pP pQ pR pS pT pU pV pW : Value, (∃ m c, m ≤ 12 ∧ PS x w b p m c w') ∧ a' = ⟨#[aA, aB, aC, .pointer (some ⟨p, 0, none⟩), aE, aF, aG, aH, aI, aJ, aK, aL, aM, aN, aO, aP, aQ, aR, aS, aT, aU, aV, aW, aX, aY, aZ, bA, bB, bC, bD, bE, bF, bG, bH, bI, bJ, bK, bL, bM, bN, bO, bP, bQ, bR, bS, bT, bU, bV, bW, bX, bY, bZ, cA, cB, cC, cD, cE, cF, cG, cH, cI, cJ, cK, cL, cM, cN, cO, cP, cQ, cR, cS, cT, cU, cV, cW, cX, cY, cZ, dA, dB, dC, dD, dE, dF, dG, dH, dI, dJ, dK, dL, dM, dN, dO, dP, dQ, dR, dS, dT, dU, dV, dW, dX, dY, dZ, eA, eB, eC, eD, eE, eF, eG, eH, eI, eJ, eK, eL, eM, eN, eO, eP, eQ, eR, eS, eT, eU, eV, eW, eX, eY, eZ, fA, fB, fC, fD, fE, fF, fG, fH, fI, fJ, fK, fL, fM, fN, fO, fP, fQ, fR, fS, fT, fU, fV, fW, fX, fY, fZ, gA, gB, gC, gD, gE, gF, gG, gH, gI, gJ, gK, gL, gM, gN, gO, gP, gQ, gR, gS, gT, gU, gV, gW, gX, gY, gZ, iA, iB, iC, iD, iE, iF, iG, iH, iI, iJ, iK, iL, iM, iN, iO, iP, iQ, iR, iS, iT, iU, iV, iW, iX, iY, iZ, jA, jB, jC, jD, jE, jF, jG, jH, jI, jJ, jK, jL, jM, jN, jO, jP, jQ, jR, jS, jT, jU, jV, jW, jX, jY, jZ, kA, kB, kC, kD, kE, kF, kG, kH, kI, kJ, kK, kL, kM, kN, kO, kP, kQ, kR, kS, kT, kU, kV, kW, kX, kY, kZ, lA, lB, lC, lD, lE, lF, lG, lH, lI, lJ, lK, lL, lM, lN, lO, lP, lQ, lR, lS, lT, lU, lV, lW, lX, lY, lZ, mA, mB, mC, mD, mE, mF, mG, mH, mI, mJ, mK, mL, mM, mN, mO, mP, mQ, mR, mS, mT, mU, mV, mW, mX, mY, mZ, nA, nB, nC, nD, nE, nF, nG, nH, nI, nJ, nK, nL, nM, nN, nO, nP, nQ, nR, nS, nT, nU, nV, nW, nX, nY, nZ, oA, oB, oC, oD, oE, oF, oG, oH, oI, oJ, oK, oL, oM, oN, oO, oP, oQ, oR, oS, oT, oU, oV, oW, oX, oY, oZ, pA, pB, pC, pD, pE, pF, pG, pH, pI, pJ, pK, .bool true, pM, pN, pO, pP, pQ, pR, pS, pT, pU, pV, pW, pX], []⟩) → J a' w') (h2 : ∀ a' w', Met J a' w' → K' a' w') :
  Code.wp Tryd.prog payDup (Exit.then K' Q') ⟨#[aA, aB, aC, .pointer (some ⟨p, 0, none⟩), aE, aF, aG, aH, aI, aJ, aK, aL, aM, aN, aO, aP, aQ, aR, aS, aT, aU, aV, aW, aX, aY, aZ, bA, bB, bC, bD, bE, bF, bG, bH, bI, bJ, bK, bL, bM, bN, bO, bP, bQ, bR, bS, bT, bU, bV, bW, bX, bY, bZ, cA, cB, cC, cD, cE, cF, cG, cH, cI, cJ, cK, cL, cM, cN, cO, cP, cQ, cR, cS, cT, cU, cV, cW, cX, cY, cZ, dA, dB, dC, dD, dE, dF, dG, dH, dI, dJ, dK, dL, dM, dN, dO, dP, dQ, dR, dS, dT, dU, dV, dW, dX, dY, dZ, eA, eB, eC, eD, eE, eF, eG, eH, eI, eJ, eK, eL, eM, eN, eO, eP, eQ, eR, eS, eT, eU, eV, eW, eX, eY, eZ, fA, fB, fC, fD, fE, fF, fG, fH, fI, fJ, fK, fL, fM, fN, fO, fP, fQ, fR, fS, fT, fU, fV, fW, fX, fY, fZ, gA, gB, gC, gD, gE, gF, gG, gH, gI, gJ, gK, gL, gM, gN, gO, gP, gQ, gR, gS, gT, gU, gV, gW, gX, gY, gZ, iA, iB, iC, iD, iE, iF, iG, iH, iI, iJ, iK, iL, iM, iN, iO, iP, iQ, iR, iS, iT, iU, iV, iW, iX, iY, iZ, jA, jB, jC, jD, jE, jF, jG, jH, jI, jJ, jK, jL, jM, jN, jO, jP, jQ, jR, jS, jT, jU, jV, jW, jX, jY, jZ, kA, kB, kC, kD, kE, kF, kG, kH, kI, kJ, kK, kL, kM, kN, kO, kP, kQ, kR, kS, kT, kU, kV, kW, kX, kY, kZ, lA, lB, lC, lD, lE, lF, lG, lH, lI, lJ, lK, lL, lM, lN, lO, lP, lQ, lR, lS, lT, lU, lV, lW, lX, lY, lZ, mA, mB, mC, mD, mE, mF, mG, mH, mI, mJ, mK, mL, mM, mN, mO, mP, mQ, mR, mS, mT, mU, mV, mW, mX, mY, mZ, nA, nB, nC, nD, nE, nF, nG, nH, nI, nJ, nK, nL, nM, nN, nO, nP, nQ, nR, nS, nT, nU, nV, nW, nX, nY, nZ, oA, oB, oC, oD, oE, oF, oG, oH, oI, oJ, oK, oL, oM, oN, oO, oP, oQ, oR, oS, oT, oU, oV, oW, oX, oY, oZ, pA, pB, pC, pD, pE, pF, pG, pH, pI, pJ, pK, .bool true, pM, pN, pO, pP, pQ, pR, pS, pT, pU, pV, pW, pX], []⟩ W := by
 obtain ⟨i, hi, hz0, hz1, hz2⟩ := info_parts iInfo
 have hm : m ≤ 11 := HM.out
 conv => arg 2; whnf
 go_upto_region 75 with (fail)
 obtain ⟨s, l, hj, hsn, hown, hnzl, hlol, hpc, hcw, hzp, hloz⟩ := P.out.obj
 obtain ⟨sa, sn, sc⟩ := s
 obtain ⟨g0, hga, hg1, hg2⟩ := (own_slice hj.own.own).2.2 (by simp only at hsn ⊢; omega)
 simp only at hga hsn
 subst hga
 obtain ⟨bq, oq, y0, hax, hy0, hrow⟩ := (hj.own.sl (by simp only; omega)).row (k := 0) (by simp only; omega)
 simp only [Option.some.injEq, Addr.mk.injEq] at hax
 obtain ⟨rfl, rfl, _⟩ := hax
 rw [Nat.zero_mul, Nat.add_zero] at hrow
 have HRG := hid hrow
 have HXM := hid (List.mem_of_getElem? hy0)
 have HJ0 := hid hj; have HSN := hid hsn; have HQ0 := hid (And.intro hpc (And.intro hcw (And.intro hzp (And.intro hloz (And.intro hown (And.intro hnzl hlol))))))
 clear hj hsn hown hnzl hlol hpc hcw hzp hloz hg1 hg2 hrow hy0
 have HI0 : Hid (0 < sn) := by have := HSN.out; show _ < _; omega
 refine wp_region_eachA 8 #[true, true, true, true, true, true, true, true, false, false, false, false, false] [.eq (.pointer (some ⟨p, 4, none⟩)), .eq (.slice (some ⟨g0, 0, none⟩) sn sc), .eq (.pointer (some ⟨p, 4, none⟩)), .eq (.slice (some ⟨g0, 0, none⟩) sn sc), .eq (.pointer (some ⟨g0, 0, none⟩)), .eq (.agg y0.arr), .eq (.int .i64 (sn : Int)), stZero 27] (by kernel_rfl) (by kernel_rfl) (by kernel_rfl) (by kernel_rfl) (by kernel_rfl) ?_ ?_
 ·all_goals
   refine each_5 ?_ ?_ ?_ ?_ ?_ (each_c ?_ (each_c ?_ (each_c ?_ (each_n))))
   ·intro w1 hg Ar seen
    have s3 := seen.sl 3 (.pointer (some ⟨p, 0, none⟩))
    refine does_plain rfl fun K Q' hK => ?_
    go_simp; exact hK _ _ (Grow.refl _) rfl
   ·intro w1 hg Ar seen
    have e0 := seen.de 0 376
    refine does_plain rfl fun K Q' hK => ?_
    have hc := cell_of_block (j := 4) ((hg.block _ (block_lt HJ0.out.blk)).trans HJ0.out.blk) (ar4 _)
    go_simp; exact hK _ _ (Grow.refl _) rfl
   ·intro w1 hg Ar seen
    have s3 := seen.sl 3 (.pointer (some ⟨p, 0, none⟩))
    refine does_plain rfl fun K Q' hK => ?_
    go_simp; exact hK _ _ (Grow.refl _) rfl
   ·intro w1 hg Ar seen
    have e2 := seen.de 2 378
    refine does_plain rfl fun K Q' hK => ?_
    have hc := cell_of_block (j := 4) ((hg.block _ (block_lt HJ0.out.blk)).trans HJ0.out.blk) (ar4 _)
    go_simp; exact hK _ _ (Grow.refl _) rfl
   ·intro w1 hg Ar seen
    have e3 := seen.de 3 379
    refine does_plain rfl fun K Q' hK => ?_
    have hn := HI0.out
    go_simp; exact hK _ _ (Grow.refl _) rfl
   ·intro w1 hg Ar seen
    have e4 := seen.de 4 380
    refine does_plain rfl fun K Q' hK => ?_
    refine wp_load_mid 27 _ rfl g0 0 (by simp [Act.eval, e4]) y0.arr.toList _ (range_later hg HRG.out) Tryd.underlying27 rfl iSize ?_
    exact hK _ _ (Grow.refl _) rfl
   ·intro w1 hg Ar seen
    have e1 := seen.de 1 377
    refine does_plain rfl fun K Q' hK => ?_
    go_simp; exact hK _ _ (Grow.refl _) rfl
   ·intro w1 hg Ar seen
    refine does_plain rfl fun K Q' hK => ?_
    refine wp_build_item _ 27 _ rfl itZ rfl i Tryd.underlying25 hi hz0 hz1 ?_
    exact hK _ _ ((Below.refl _ _).alloc (Nat.le_refl _) _) ⟨_, rfl, block_new _ _⟩
 intro w1 hg
 refine upon_w' (js := [0, 1, 2, 3, 4, 5, 6, 7]) (by rfl) ?_
 refine upon_e (some 376) (upon_e (some 377) (upon_e (some 378) (upon_e (some 379) (upon_e (some 380) (upon_e (some 381) (upon_e (some 382) (upon_v (some 383) fun v7 h7 => upon_n ?_)))))))
 go_simp
 obtain ⟨q, rfl, hq⟩ := h7
 have HPB := hid hq
 have HJ := hid (HJ0.out.below hg)
 have HQ := hid (And.intro HQ0.out.1 (And.intro (Nat.le_trans HQ0.out.2.1 hg.size) HQ0.out.2.2))
 have P2 := hid (P.out.grow hg)
 clear hq hg HJ0 HQ0 P HRG
 have P := P2
 clear P2
 go_simp
 refine wpAny_ready (rs := [8]) (by kernel_rfl) (by simp) ?_
 refine AllReady.cons rfl (fun K hK => ?_) AllReady.nil
 refine step_append_c rfl _ _ 25 rfl (b + 2) 27 i _ 5 72 Tryd.underlying25 hi hz0 hz1 hz2 rfl (by decide) (.slice (some ⟨g0, 0, none⟩) sn sc) sn _ rfl HJ.out.own.own _ 1 _ itZ.arr.toList rfl (RdC.of_block HPB.out) (by have := itm_one [itZ]; simpa [itmCells, ItV.cells] using this) (fun hx => by cases hx) (by have := HSN.out; unfold maxLen; omega) (by have := HSN.out; omega) (by have := HQ.out; omega) ?_
 intro a' c' w7 hown hgw hfr
 obtain ⟨g, rfl, hgb, hgl⟩ := (own_slice hown).2.2 (by omega)
 have HO7 := hid hown
 have HF7 := hid hfr
 have HC7 : Hid (Chg (Sl.v (⟨some ⟨g0, 0, none⟩, sn, sc⟩ : Sl)).ownBlock.toList w1 w7) := (Chg.refl _ w1).grown hgw (fun k hk => .inl (by rw [hk]; simp))
 have HGP : Hid (g ≠ p) := by
  rcases hfr with h' | h'
  ·exact HJ.out.out g (by rw [← h']; rfl)
  ·have := h' g rfl
   have := HQ.out
   show g ≠ p; omega
 clear hown hgw hfr hgb hgl
 refine hK _ _ ?_
 clear hK K
 go_simp
 refine wpAny_take (i := 9) (v := .pointer (some ⟨g, sn * 5, none⟩)) rfl (by kernel_rfl) (by kernel_rfl) (by kernel_rfl) (fun _ _ _ h => hQ _ _ _ _ (by rfl) h) (Or.inl ⟨by rfl, by intro w; go_simp; try (intro hx; exfalso; omega)⟩) ?_
 refine wpAny_take (i := 11) (v := .pointer (some ⟨p, 4, none⟩)) rfl (by kernel_rfl) (by kernel_rfl) (by kernel_rfl) (fun _ _ _ h => hQ _ _ _ _ (by rfl) h) (Or.inl ⟨by rfl, by intro w; go_simp; try (intro hx; exfalso; omega)⟩) ?_
 have HCM : Hid (Chg (p :: (Sl.v (⟨some ⟨g0, 0, none⟩, sn, sc⟩ : Sl)).ownBlock.toList) w1 w7) := HC7.out.mono (fun q hq => List.mem_cons_of_mem _ hq)
 have HFR : Hid (Fresh (p :: (Sl.v (⟨some ⟨g0, 0, none⟩, sn, sc⟩ : Sl)).ownBlock.toList) [g] w1) := fun q hq => by
  rw [List.mem_singleton.1 hq]
  rcases HF7.out with h' | h'
  ·left; exact List.mem_cons_of_mem _ (by rw [← show _ = (Sl.v (⟨some ⟨g0, 0, none⟩, sn, sc⟩ : Sl)).ownBlock from h']; simp [Value.ownBlock])
  ·right; exact h' g rfl
 have HP7 : Hid (w7.heap[p]? = some (.cells (ItV.arr { tag := 4325497, typ := 1, ks := (⟨some ⟨g0, 0, none⟩, sn, sc⟩ : Sl), kids := l }) 27 (0, 0))) := (HC7.out.block p (block_lt HJ.out.blk) (fun hm => by
  cases hv : (Sl.v (⟨some ⟨g0, 0, none⟩, sn, sc⟩ : Sl)).ownBlock with
  | none => rw [hv] at hm; cases hm
  | some y => rw [hv] at hm; simp at hm; exact HJ.out.out y hv hm.symm)).trans HJ.out.blk
 have HXL : Hid ((itmCells l).length = sn * 5) := by show _ = _; rw [itm_len, HJ.out.own.len]
 have HAPP : Hid (itmCells (l ++ [y0]) = itmCells l ++ y0.cells) := by show _ = _; rw [itm_app]; simp [itmCells]
 have FINH : Hid (∀ w9, Chg (p :: (Sl.v (⟨some ⟨g0, 0, none⟩, sn, sc⟩ : Sl)).ownBlock.toList) w1 w9 → w9.heap[p]? = some (.cells (ItV.arr { tag := 4325497, typ := 1, ks := ⟨some ⟨g, 0, none⟩, sn + 1, c'⟩, kids := l ++ [y0] }) 27 (0, 0)) → w9.ownsRow (b + 2) 27 5 (.slice (some ⟨g, 0, none⟩) (sn + 1) c') (sn + 1) (itmCells (l ++ [y0])) →
   ∃ c, PS x w b p (sn + 1) c w9) := fun w9 h1 h2 h3 => by
  have hb := block_lt HJ.out.blk
  have hm := PObj.made (F := (fun k => b + 2 ≤ k)) (c := c) HJ.out HQ.out.2.2.2.2.2.1 HQ.out.2.2.2.2.2.2 HQ.out.1 HQ.out.2.1 HQ.out.2.2.1 HQ.out.2.2.2.1 (ys := [y0]) (fun y hy => by rw [List.mem_singleton.1 hy]; exact HJ.out.own.ok y0 HXM.out)
   (fun y hy => by rw [List.mem_singleton.1 hy]; exact ⟨HJ.out.own.apart y0 HXM.out, HJ.out.feet y0 HXM.out⟩)
   (fun y hy => by rw [List.mem_singleton.1 hy]; exact HQ.out.2.2.2.2.2.1 y0 HXM.out) (fun y hy => by rw [List.mem_singleton.1 hy]; exact HQ.out.2.2.2.2.2.2 y0 HXM.out) h1 h2 h3 HF7.out
  exact ⟨_, P.out.step hm.1 hm.2.1⟩
 clear HQ
 refine wpAny_ready (rs := [10, 12]) (by kernel_rfl) (by simp) ?_
 refine AllReady.cons rfl (fun K hK => ?_) (AllReady.cons rfl (fun K hK => ?_) AllReady.nil)
 ·first | rw [if_pos (by rfl)] | skip
  refine wp_store_item 27 _ _ rfl g (sn * 5) rfl y0 rfl HO7.out rfl HXL.out rfl iSize (arr_one y0) ?_
  intro w8 hown8 hc8 hs8
  have HO8 := hid hown8; have HC8 := hid hc8
  have HP8 : Hid (w8.heap[p]? = some (.cells (ItV.arr { tag := 4325497, typ := 1, ks := (⟨some ⟨g0, 0, none⟩, sn, sc⟩ : Sl), kids := l }) 27 (0, 0))) := (hc8.block p (block_lt HP7.out) (fun hm => HGP.out (List.mem_singleton.1 hm).symm)).trans HP7.out
  have hco := cell_of_block (j := 4) HP8.out (ar4 _)
  have hfz : ∀ j, w8.frozen? ⟨p, j, none⟩ = false := fun j => frozen_of_block HP8.out
  clear hown8 hc8 hs8
  refine hK _ _ ?_
  clear hK K
  refine wpAny_ready (rs := [12]) (by kernel_rfl) (by simp) ?_
  refine AllReady.cons rfl (fun K hK => ?_) AllReady.nil
  go_simp
  refine hK _ _ ?_
  clear hK K hco hfz
  refine wpAny_done (by kernel_rfl) ?_ _
  have hset : Chg [p] w8 (w8.setCell ⟨p, 4, none⟩ (.slice (some ⟨g, 0, none⟩) (sn + 1) c')) := (Chg.refl _ w8).setCell (.inl (by simp)) _
  have H9 := hid (FINH.out _ ((HCM.out.trans HC8.out HFR.out).trans hset (fun q hq => by rw [List.mem_singleton.1 hq]; exact .inl (by simp))) (block_setCell HP8.out _)
   (by rw [HAPP.out]; exact hset.owns HO8.out (fun q hq hm => by have hq2 : some g = some q := hq; cases hq2; exact HGP.out (List.mem_singleton.1 hm))))
  clear hset
  obtain ⟨c9, H9'⟩ := H9.out
  have HP9 := hid H9'
  clear H9' H9
  go_wp2_with fail
  go_meet
  exact ⟨_, _, by have := HSN.out; omega, HP9.out⟩
 ·have hco := cell_of_block (j := 4) HP7.out (ar4 _)
  have hfz : ∀ j, w7.frozen? ⟨p, j, none⟩ = false := fun j => frozen_of_block HP7.out
  go_simp
  refine hK _ _ ?_
  clear hK K hco hfz
  have hset : Chg [p] w7 (w7.setCell ⟨p, 4, none⟩ (.slice (some ⟨g, 0, none⟩) (sn + 1) c')) := (Chg.refl _ w7).setCell (.inl (by simp)) _
  have HO8 := hid (hset.owns HO7.out (fun q hq hm => by have hq2 : some g = some q := hq; cases hq2; exact HGP.out (List.mem_singleton.1 hm)))
  have HP8 : Hid ((w7.setCell ⟨p, 4, none⟩ (.slice (some ⟨g, 0, none⟩) (sn + 1) c')).heap[p]? = some (.cells (ItV.arr { tag := 4325497, typ := 1, ks := ⟨some ⟨g, 0, none⟩, sn + 1, c'⟩, kids := l ++ [y0] }) 27 (0, 0))) := block_setCell HP7.out _
  have HCS := hid (HCM.out.trans hset (fun q hq => by rw [List.mem_singleton.1 hq]; exact .inl (by simp)))
  clear hset
  generalize w7.setCell ⟨p, 4, none⟩ (.slice (some ⟨g, 0, none⟩) (sn + 1) c') = w8 at *
  refine wpAny_ready (rs := [10]) (by kernel_rfl) (by simp) ?_
  refine AllReady.cons rfl (fun K hK => ?_) AllReady.nil
  first | rw [if_pos (by rfl)] | skip
  refine wp_store_item 27 _ _ rfl g (sn * 5) rfl y0 rfl HO8.out rfl HXL.out rfl iSize (arr_one y0) ?_
  intro w9 hown9 hc9 hs9
  refine hK _ _ ?_
  clear hK K
  refine wpAny_done (by kernel_rfl) ?_ _
  have H9 := hid (FINH.out w9 (HCS.out.trans hc9 HFR.out) ((hc9.block p (block_lt HP8.out) (fun hm => HGP.out (List.mem_singleton.1 hm).symm)).trans HP8.out) (by rw [HAPP.out]; exact hown9))
  clear hown9 hc9 hs9
  obtain ⟨c9, H9'⟩ := H9.out
  have HP9 := hid H9'
  clear H9' H9
  go_wp2_with fail
  go_meet
  exact ⟨_, _, by have := HSN.out; omega, HP9.out⟩
end
section
open Go.RowKit
set_option linter.unusedVariables false
set_option linter.unusedSimpArgs false
set_option maxRecDepth 1000000
set_option maxHeartbeats 16000000
/-- A region of a text. -/
def findRegionP (n : Nat) : Code → Option Code
 | .loop c => findRegionP n c
 | .seq a b => match findRegionP n a with
  | some c => some c
  | none => findRegionP n b
 | .block _ c => findRegionP n c
 | .scope c => findRegionP n c
 | .cond _ a b => match findRegionP n a with
  | some c => some c
  | none => findRegionP n b
 | .region k o d => if k = n then some (.region k o d) else none
 | _ => none
noncomputable def payR4 : Code := (Tryd.f34.body.bind (findRegionP 4)).getD .skip
noncomputable def payR74 : Code := (Tryd.f34.body.bind (findRegionP 74)).getD .skip
noncomputable def payId : Code := (Tryd.f34.body.bind (findCondP 44)).getD .skip
theorem pay_r4 {x : AskD} {W : World} {b : Nat} {op : Int} (aA aC aD aE aG aH aI aJ aK aL aM aN aO aP aQ aR aS aT aU aV aW aX aY aZ bA bB bC bD bE bF bG bH bI bJ bK bL bM bN bO bP bQ bR bS bT bU bV bW bX bY bZ cA cB cC cD cE cF cG cH cI cJ cK cL cM cN cO cP cQ cR cS cT cU cV cW cX cY cZ dA dB dC dD dE dF dG dH dI dJ dK dL dM dN dO dP dQ dR dS dT dU dV dW dX dY dZ eA eB eC eD eE eF eG eH eI eJ eK eL eM eN eO eP eQ eR eS eT eU eV eW eX eY eZ fA fB fC fD fE fF fG fH fI fJ fK fL fM fN fO fP fQ fR fS fT fU fV fW fX fY fZ gA gB gC gD gE gF gG gH gI gJ gK gL gM gN gO gP gQ gR gS gT gU gV gW gX gY gZ iA iB iC iD iE iF iG iH iI iJ iK iL iM iN iO iP iQ iR iS iT iU iV iW iX iY iZ jA jB jC jD jE jF jG jH jI jJ jK jL jM jN jO jP jQ jR jS jT jU jV jW jX jY jZ kA kB kC kD kE kF kG kH kI kJ kK kL kM kN kO kP kQ kR kS kT kU kV kW kX kY kZ lA lB lC lD lE lF lG lH lI lJ lK lL lM lN lO lP lQ lR lS lT lU lV lW lX lY lZ mA mB mC mD mE mF mG mH mI mJ mK mL mM mN mO mP mQ mR mS mT mU mV mW mX mY mZ nA nB nC nD nE nF nG nH nI nJ nK nL nM nN nO nP nQ nR nS nT nU nV nW nX nY nZ oA oB oC oD oE oF oG oH oI oJ oK oL oM oN oO oP oQ oR oS oT oU oV oW oX oY oZ pA pB pC pD pE pF pG pH pI pJ pK pL pM pN pO pP pQ pR pS pT pU pV pW pX : Value) (J K' : Act → World → Prop) (Q' : Exit → Act → World → Prop)
  (x3 : W.cell? ⟨b, 3, none⟩ = some (.int .i64 x.c)) (hw5 : IntKind.i64.wrap (x.c.tmod 5) = x.c.tmod 5)
  (h1 : ∀ a' w', (∃ aO aP aQ aR aS aT aU aV aW aX aY aZ bA bB bC bD bE bF bG bH bI bJ bK bL bM bN bO bP bQ bR bS : Value, (∃ q : Bool, bS = .bool q ∧ W = w') ∧ a' = ⟨#[aA, .pointer (some ⟨b, 0, none⟩), aC, aD, aE, .int .i64 op, aG, aH, aI, aJ, aK, aL, aM, aN, aO, aP, aQ, aR, aS, aT, aU, aV, aW, aX, aY, aZ, bA, bB, bC, bD, bE, bF, bG, bH, bI, bJ, bK, bL, bM, bN, bO, bP, bQ, bR, bS, bT, bU, bV, bW, bX, bY, bZ, cA, cB, cC, cD, cE, cF, cG, cH, cI, cJ, cK, cL, cM, cN, cO, cP, cQ, cR, cS, cT, cU, cV, cW, cX, cY, cZ, dA, dB, dC, dD, dE, dF, dG, dH, dI, dJ, dK, dL, dM, dN, dO, dP, dQ, dR, dS, dT, dU, dV, dW, dX, dY, dZ, eA, eB, eC, eD, eE, eF, eG, eH, eI, eJ, eK, eL, eM, eN, eO, eP, eQ, eR, eS, eT, eU, eV, eW, eX, eY, eZ, fA, fB, fC, fD, fE, fF, fG, fH, fI, fJ, fK, fL, fM, fN, fO, fP, fQ, fR, fS, fT, fU, fV, fW, fX, fY, fZ, gA, gB, gC, gD, gE, gF, gG, gH, gI, gJ, gK, gL, gM, gN, gO, gP, gQ, gR, gS, gT, gU, gV, gW, gX, gY, gZ, iA, iB, iC, iD, iE, iF, iG, iH, iI, iJ, iK, iL, iM, iN, iO, iP, iQ, iR, iS, iT, iU, iV, iW, iX, iY, iZ, jA, jB, jC, jD, jE, jF, jG, jH, jI, jJ, jK, jL, jM, jN, jO, jP, jQ, jR, jS, jT, jU, jV, jW, jX, jY, jZ, kA, kB, kC, kD, kE, kF, kG, kH, kI, kJ, kK, kL, kM, kN, kO, kP, kQ, kR, kS, kT, kU, kV, kW, kX, kY, kZ, lA, lB, lC, lD, lE, lF, lG, lH, lI, lJ, lK, lL, lM, lN, lO, lP, lQ, lR, lS, lT, lU, lV, lW, lX, lY, lZ, mA, mB, mC, mD, mE, mF, mG, mH, mI, mJ, mK, mL, mM, mN, mO, mP, mQ, mR, mS, mT, mU, mV, mW, mX, mY, mZ, nA, nB, nC, nD, nE, nF, nG, nH, nI, nJ, nK, nL, nM, nN, nO, nP, nQ, nR, nS, nT, nU, nV, nW, nX, nY, nZ, oA, oB, oC, oD, oE, oF, oG, oH, oI, oJ, oK, oL, oM, oN, oO, oP, oQ, oR, oS, oT, oU, oV, oW, oX, oY, oZ, pA, pB, pC, pD, pE, pF, pG, pH, pI, pJ, pK, pL, pM, pN, pO, pP, pQ, pR, pS, pT, pU, pV, pW, pX], []⟩) → J a' w') (h2 : ∀ a' w', Met J a' w' → K' a' w') :
  Code.wp Tryd.prog payR4 (Exit.then K' Q') ⟨#[aA, .pointer (some ⟨b, 0, none⟩), aC, aD, aE, .int .i64 op, aG, aH, aI, aJ, aK, aL, aM, aN, aO, aP, aQ, aR, aS, aT, aU, aV, aW, aX, aY, aZ, bA, bB, bC, bD, bE, bF, bG, bH, bI, bJ, bK, bL, bM, bN, bO, bP, bQ, bR, bS, bT, bU, bV, bW, bX, bY, bZ, cA, cB, cC, cD, cE, cF, cG, cH, cI, cJ, cK, cL, cM, cN, cO, cP, cQ, cR, cS, cT, cU, cV, cW, cX, cY, cZ, dA, dB, dC, dD, dE, dF, dG, dH, dI, dJ, dK, dL, dM, dN, dO, dP, dQ, dR, dS, dT, dU, dV, dW, dX, dY, dZ, eA, eB, eC, eD, eE, eF, eG, eH, eI, eJ, eK, eL, eM, eN, eO, eP, eQ, eR, eS, eT, eU, eV, eW, eX, eY, eZ, fA, fB, fC, fD, fE, fF, fG, fH, fI, fJ, fK, fL, fM, fN, fO, fP, fQ, fR, fS, fT, fU, fV, fW, fX, fY, fZ, gA, gB, gC, gD, gE, gF, gG, gH, gI, gJ, gK, gL, gM, gN, gO, gP, gQ, gR, gS, gT, gU, gV, gW, gX, gY, gZ, iA, iB, iC, iD, iE, iF, iG, iH, iI, iJ, iK, iL, iM, iN, iO, iP, iQ, iR, iS, iT, iU, iV, iW, iX, iY, iZ, jA, jB, jC, jD, jE, jF, jG, jH, jI, jJ, jK, jL, jM, jN, jO, jP, jQ, jR, jS, jT, jU, jV, jW, jX, jY, jZ, kA, kB, kC, kD, kE, kF, kG, kH, kI, kJ, kK, kL, kM, kN, kO, kP, kQ, kR, kS, kT, kU, kV, kW, kX, kY, kZ, lA, lB, lC, lD, lE, lF, lG, lH, lI, lJ, lK, lL, lM, lN, lO, lP, lQ, lR, lS, lT, lU, lV, lW, lX, lY, lZ, mA, mB, mC, mD, mE, mF, mG, mH, mI, mJ, mK, mL, mM, mN, mO, mP, mQ, mR, mS, mT, mU, mV, mW, mX, mY, mZ, nA, nB, nC, nD, nE, nF, nG, nH, nI, nJ, nK, nL, nM, nN, nO, nP, nQ, nR, nS, nT, nU, nV, nW, nX, nY, nZ, oA, oB, oC, oD, oE, oF, oG, oH, oI, oJ, oK, oL, oM, oN, oO, oP, oQ, oR, oS, oT, oU, oV, oW, oX, oY, oZ, pA, pB, pC, pD, pE, pF, pG, pH, pI, pJ, pK, pL, pM, pN, pO, pP, pQ, pR, pS, pT, pU, pV, pW, pX], []⟩ W := by
 conv => arg 2; whnf
 by_cases q0 : 1 < x.c.tmod 5
 ·by_cases q1 : op = 1
  ·subst q1
   go_wp2_with fail
   go_meet
   exact ⟨_, rfl, rfl⟩
  ·have r1 : (op == 1) = false := by simpa using q1
   have s1 : (op != 1) = true := by simpa using q1
   clear q1
   by_cases q2 : op = 2
   ·subst q2
    go_wp2_with fail
    go_meet
    exact ⟨_, rfl, rfl⟩
   ·have r2 : (op == 2) = false := by simpa using q2
    have s2 : (op != 2) = true := by simpa using q2
    clear q2
    by_cases q3 : op = 3
    ·subst q3
     go_wp2_with fail
     go_meet
     exact ⟨_, rfl, rfl⟩
    ·have r3 : (op == 3) = false := by simpa using q3
     have s3 : (op != 3) = true := by simpa using q3
     clear q3
     by_cases q4 : op = 8
     ·subst q4
      go_wp2_with fail
      go_meet
      exact ⟨_, rfl, rfl⟩
     ·have r4 : (op == 8) = false := by simpa using q4
      have s4 : (op != 8) = true := by simpa using q4
      clear q4
      by_cases q5 : op = 24
      ·subst q5
       go_wp2_with fail
       go_meet
       exact ⟨_, rfl, rfl⟩
      ·have r5 : (op == 24) = false := by simpa using q5
       have s5 : (op != 24) = true := by simpa using q5
       clear q5
       by_cases q6 : op = 30
       ·subst q6
        go_wp2_with fail
        go_meet
        exact ⟨_, rfl, rfl⟩
       ·have r6 : (op == 30) = false := by simpa using q6
        have s6 : (op != 30) = true := by simpa using q6
        clear q6
        go_wp2_with fail
        go_meet
        exact ⟨_, rfl, rfl⟩
 ·go_wp2_with fail
  go_meet
  exact ⟨_, rfl, rfl⟩
theorem pay_id {x : AskD} {w W : World} {b p c : Nat} (aA aC aF aG aH aI aJ aK aL aM aN aO aP aQ aR aS aT aU aV aW aX aY aZ bA bB bC bD bE bF bG bH bI bJ bK bL bM bN bO bP bQ bR bT bU bV bW bX bY bZ cA cB cC cD cE cF cG cH cI cJ cK cL cM cN cO cP cQ cR cS cT cU cV cW cX cY cZ dA dB dC dD dE dF dG dH dI dJ dK dL dM dN dO dP dQ dR dS dT dU dV dW dX dY dZ eA eB eC eD eE eF eG eH eI eJ eK eL eM eN eO eP eQ eR eS eT eU eV eW eX eY eZ fA fB fC fD fE fF fG fH fI fJ fK fL fM fN fO fP fQ fR fS fT fU fV fW fX fY fZ gA gB gC gD gE gF gG gH gI gJ gK gL gM gN gO gP gQ gR gS gT gU gV gW gX gY gZ iA iB iC iD iE iF iG iH iI iJ iK iL iM iN iO iP iQ iR iS iT iU iV iW iX iY iZ jA jB jC jD jE jF jG jH jI jJ jK jL jM jN jO jP jQ jR jS jT jU jV jW jX jY jZ kA kB kC kD kE kF kG kH kI kJ kK kL kM kN kO kP kQ kR kS kT kU kV kW kX kY kZ lA lB lC lD lE lF lG lH lI lJ lK lL lM lN lO lP lQ lR lS lT lU lV lW lX lY lZ mA mB mC mD mE mF mG mH mI mJ mK mL mM mN mO mP mQ mR mS mT mU mV mW mX mY mZ nA nB nC nD nE nF nG nH nI nJ nK nL nM nN nO nP nQ nR nS nT nU nV nW nX nY nZ oA oB oC oD oE oF oG oH oI oJ oK oL oM oN oO oP oQ oR oS oT oU oV oW oX oY oZ pA pB pC pD pE pF pG pH pI pJ pK pL pM pN pO pP pQ pR pS pT pU pV pW pX : Value) (J K' : Act → World → Prop) (Q' : Exit → Act → World → Prop)
  (P0 : Hid (PS x w b p 0 c W))
  (h1 : ∀ a' w', (∃ bT bU bV bW bX bY : Value, (∃ m c, m ≤ 1 ∧ PS x w b p m c w') ∧ a' = ⟨#[aA, .pointer (some ⟨b, 0, none⟩), aC, .pointer (some ⟨p, 0, none⟩), .func (.func 49) #[] #[.pointer (some ⟨p, 0, none⟩)], aF, aG, aH, aI, aJ, aK, aL, aM, aN, aO, aP, aQ, aR, aS, aT, aU, aV, aW, aX, aY, aZ, bA, bB, bC, bD, bE, bF, bG, bH, bI, bJ, bK, bL, bM, bN, bO, bP, bQ, bR, .bool true, bT, bU, bV, bW, bX, bY, bZ, cA, cB, cC, cD, cE, cF, cG, cH, cI, cJ, cK, cL, cM, cN, cO, cP, cQ, cR, cS, cT, cU, cV, cW, cX, cY, cZ, dA, dB, dC, dD, dE, dF, dG, dH, dI, dJ, dK, dL, dM, dN, dO, dP, dQ, dR, dS, dT, dU, dV, dW, dX, dY, dZ, eA, eB, eC, eD, eE, eF, eG, eH, eI, eJ, eK, eL, eM, eN, eO, eP, eQ, eR, eS, eT, eU, eV, eW, eX, eY, eZ, fA, fB, fC, fD, fE, fF, fG, fH, fI, fJ, fK, fL, fM, fN, fO, fP, fQ, fR, fS, fT, fU, fV, fW, fX, fY, fZ, gA, gB, gC, gD, gE, gF, gG, gH, gI, gJ, gK, gL, gM, gN, gO, gP, gQ, gR, gS, gT, gU, gV, gW, gX, gY, gZ, iA, iB, iC, iD, iE, iF, iG, iH, iI, iJ, iK, iL, iM, iN, iO, iP, iQ, iR, iS, iT, iU, iV, iW, iX, iY, iZ, jA, jB, jC, jD, jE, jF, jG, jH, jI, jJ, jK, jL, jM, jN, jO, jP, jQ, jR, jS, jT, jU, jV, jW, jX, jY, jZ, kA, kB, kC, kD, kE, kF, kG, kH, kI, kJ, kK, kL, kM, kN, kO, kP, kQ, kR, kS, kT, kU, kV, kW, kX, kY, kZ, lA, lB, lC, lD, lE, lF, lG, lH, lI, lJ, lK, lL, lM, lN, lO, lP, lQ, lR, lS, lT, lU, lV, lW, lX, lY, lZ, mA, mB, mC, mD, mE, mF, mG, mH, mI, mJ, mK, mL, mM, mN, mO, mP, mQ, mR, mS, mT, mU, mV, mW, mX, mY, mZ, nA, nB, nC, nD, nE, nF, nG, nH, nI, nJ, nK, nL, nM, nN, nO, nP, nQ, nR, nS, nT, nU, nV, nW, nX, nY, nZ, oA, oB, oC, oD, oE, oF, oG, oH, oI, oJ, oK, oL, oM, oN, oO, oP, oQ, oR, oS, oT, oU, oV, oW, oX, oY, oZ, pA, pB, pC, pD, pE, pF, pG, pH, pI, pJ, pK, pL, pM, pN, pO, pP, pQ, pR, pS, pT, pU, pV, pW, pX], []⟩) → J a' w') (h2 : ∀ a' w', Met J a' w' → K' a' w') :
  Code.wp Tryd.prog payId (Exit.then K' Q') ⟨#[aA, .pointer (some ⟨b, 0, none⟩), aC, .pointer (some ⟨p, 0, none⟩), .func (.func 49) #[] #[.pointer (some ⟨p, 0, none⟩)], aF, aG, aH, aI, aJ, aK, aL, aM, aN, aO, aP, aQ, aR, aS, aT, aU, aV, aW, aX, aY, aZ, bA, bB, bC, bD, bE, bF, bG, bH, bI, bJ, bK, bL, bM, bN, bO, bP, bQ, bR, .bool true, bT, bU, bV, bW, bX, bY, bZ, cA, cB, cC, cD, cE, cF, cG, cH, cI, cJ, cK, cL, cM, cN, cO, cP, cQ, cR, cS, cT, cU, cV, cW, cX, cY, cZ, dA, dB, dC, dD, dE, dF, dG, dH, dI, dJ, dK, dL, dM, dN, dO, dP, dQ, dR, dS, dT, dU, dV, dW, dX, dY, dZ, eA, eB, eC, eD, eE, eF, eG, eH, eI, eJ, eK, eL, eM, eN, eO, eP, eQ, eR, eS, eT, eU, eV, eW, eX, eY, eZ, fA, fB, fC, fD, fE, fF, fG, fH, fI, fJ, fK, fL, fM, fN, fO, fP, fQ, fR, fS, fT, fU, fV, fW, fX, fY, fZ, gA, gB, gC, gD, gE, gF, gG, gH, gI, gJ, gK, gL, gM, gN, gO, gP, gQ, gR, gS, gT, gU, gV, gW, gX, gY, gZ, iA, iB, iC, iD, iE, iF, iG, iH, iI, iJ, iK, iL, iM, iN, iO, iP, iQ, iR, iS, iT, iU, iV, iW, iX, iY, iZ, jA, jB, jC, jD, jE, jF, jG, jH, jI, jJ, jK, jL, jM, jN, jO, jP, jQ, jR, jS, jT, jU, jV, jW, jX, jY, jZ, kA, kB, kC, kD, kE, kF, kG, kH, kI, kJ, kK, kL, kM, kN, kO, kP, kQ, kR, kS, kT, kU, kV, kW, kX, kY, kZ, lA, lB, lC, lD, lE, lF, lG, lH, lI, lJ, lK, lL, lM, lN, lO, lP, lQ, lR, lS, lT, lU, lV, lW, lX, lY, lZ, mA, mB, mC, mD, mE, mF, mG, mH, mI, mJ, mK, mL, mM, mN, mO, mP, mQ, mR, mS, mT, mU, mV, mW, mX, mY, mZ, nA, nB, nC, nD, nE, nF, nG, nH, nI, nJ, nK, nL, nM, nN, nO, nP, nQ, nR, nS, nT, nU, nV, nW, nX, nY, nZ, oA, oB, oC, oD, oE, oF, oG, oH, oI, oJ, oK, oL, oM, oN, oO, oP, oQ, oR, oS, oT, oU, oV, oW, oX, oY, oZ, pA, pB, pC, pD, pE, pF, pG, pH, pI, pJ, pK, pL, pM, pN, pO, pP, pQ, pR, pS, pT, pU, pV, pW, pX], []⟩ W := by
 conv => arg 2; whnf
 have hwc := 1
 have P := hid P0.out.mark
 clear P0 hwc
 have x1 := P.out.cx 1 (v := .int .i64 x.a) rfl
 go_wp2_with fail
 refine (handId_any _ _).mono ?_
 rintro e u ⟨rfl, rfl⟩
 dsimp only
 have HIS : Hid ((handId x.a).size ≤ 2) := by show _ ≤ _; unfold handId; exact idL_size _
 generalize handId x.a = nm at *
 go_wp2_with fail
 refine (handText_any _ nm _ (by have := HIS.out; omega)).mono ?_
 rintro e w5 ⟨v, rfl, hvi, hvo, hvf0, hb5⟩
 dsimp only
 have hvf : ∀ k ∈ v.foot, _ := fun k hk => Nat.le_trans P.out.lt.2.2 (hvf0 k hk)
 have hvt : v.typ ≠ 0 := by rw [← it_typ', hvi]; show (7 : Int) ≠ 0; decide
 have hvn : nz v.it = true := by rw [hvi]; rfl
 have P2 := hid (P.out.grow hb5)
 have HVO := hid hvo; have HVF := hid hvf; have HVT := hid hvt; have HVN := hid hvn
 clear hvi hvf0 hb5 P hvo hvf hvt hvn x1
 go_wp2_with fail
 refine (P2.out.add0 HVO.out HVF.out HVT.out HVN.out (by omega)).mono ?_
 rintro e w7 ⟨rfl, hp7⟩
 dsimp only
 have P7 := hid hp7
 clear hp7 P2
 go_wp2_with fail
 go_meet
 exact ⟨_, _, by omega, P7.out⟩
theorem pay_r74 {x : AskD} {w W : World} {b p m c : Nat} (aA aC aE aF aG aH aI aJ aK aL aM aN aO aP aQ aR aS aT aU aV aW aX aY aZ bA bB bC bD bE bF bG bH bI bJ bK bL bM bN bO bP bQ bR bS bT bU bV bW bX bY bZ cA cB cC cD cE cF cG cH cI cJ cK cL cM cN cO cP cQ cR cS cT cU cV cW cX cY cZ dA dB dC dD dE dF dG dH dI dJ dK dL dM dN dO dP dQ dR dS dT dU dV dW dX dY dZ eA eB eC eD eE eF eG eH eI eJ eK eL eM eN eO eP eQ eR eS eT eU eV eW eX eY eZ fA fB fC fD fE fF fG fH fI fJ fK fL fM fN fO fP fQ fR fS fT fU fV fW fX fY fZ gA gB gC gD gE gF gG gH gI gJ gK gL gM gN gO gP gQ gR gS gT gU gV gW gX gY gZ iA iB iC iD iE iF iG iH iI iJ iK iL iM iN iO iP iQ iR iS iT iU iV iW iX iY iZ jA jB jC jD jE jF jG jH jI jJ jK jL jM jN jO jP jQ jR jS jT jU jV jW jX jY jZ kA kB kC kD kE kF kG kH kI kJ kK kL kM kN kO kP kQ kR kS kT kU kV kW kX kY kZ lA lB lC lD lE lF lG lH lI lJ lK lL lM lN lO lP lQ lR lS lT lU lV lW lX lY lZ mA mB mC mD mE mF mG mH mI mJ mK mL mM mN mO mP mQ mR mS mT mU mV mW mX mY mZ nA nB nC nD nE nF nG nH nI nJ nK nL nM nN nO nP nQ nR nS nT nU nV nW nX nY nZ oA oB oC oD oE oF oG oH oI oJ oK oL oM oN oO oP oQ oR oS oT oU oV oW oX oY oZ pA pB pC pD pE pF pG pH pI pJ pK pL pM pN pO pP pQ pR pS pT pU pV pW pX : Value) (J K' : Act → World → Prop) (Q' : Exit → Act → World → Prop)
  (P : Hid (PS x w b p m c W))
  (h1 : ∀ a' w', (∃ pC pD pE pF pG pH pI pJ pK pL : Value, (∃ q : Bool, pL = .bool q ∧ (q = true → 0 < m) ∧ W = w') ∧ a' = ⟨#[aA, .pointer (some ⟨b, 0, none⟩), aC, .pointer (some ⟨p, 0, none⟩), aE, aF, aG, aH, aI, aJ, aK, aL, aM, aN, aO, aP, aQ, aR, aS, aT, aU, aV, aW, aX, aY, aZ, bA, bB, bC, bD, bE, bF, bG, bH, bI, bJ, bK, bL, bM, bN, bO, bP, bQ, bR, bS, bT, bU, bV, bW, bX, bY, bZ, cA, cB, cC, cD, cE, cF, cG, cH, cI, cJ, cK, cL, cM, cN, cO, cP, cQ, cR, cS, cT, cU, cV, cW, cX, cY, cZ, dA, dB, dC, dD, dE, dF, dG, dH, dI, dJ, dK, dL, dM, dN, dO, dP, dQ, dR, dS, dT, dU, dV, dW, dX, dY, dZ, eA, eB, eC, eD, eE, eF, eG, eH, eI, eJ, eK, eL, eM, eN, eO, eP, eQ, eR, eS, eT, eU, eV, eW, eX, eY, eZ, fA, fB, fC, fD, fE, fF, fG, fH, fI, fJ, fK, fL, fM, fN, fO, fP, fQ, fR, fS, fT, fU, fV, fW, fX, fY, fZ, gA, gB, gC, gD, gE, gF, gG, gH, gI, gJ, gK, gL, gM, gN, gO, gP, gQ, gR, gS, gT, gU, gV, gW, gX, gY, gZ, iA, iB, iC, iD, iE, iF, iG, iH, iI, iJ, iK, iL, iM, iN, iO, iP, iQ, iR, iS, iT, iU, iV, iW, iX, iY, iZ, jA, jB, jC, jD, jE, jF, jG, jH, jI, jJ, jK, jL, jM, jN, jO, jP, jQ, jR, jS, jT, jU, jV, jW, jX, jY, jZ, kA, kB, kC, kD, kE, kF, kG, kH, kI, kJ, kK, kL, kM, kN, kO, kP, kQ, kR, kS, kT, kU, kV, kW, kX, kY, kZ, lA, lB, lC, lD, lE, lF, lG, lH, lI, lJ, lK, lL, lM, lN, lO, lP, lQ, lR, lS, lT, lU, lV, lW, lX, lY, lZ, mA, mB, mC, mD, mE, mF, mG, mH, mI, mJ, mK, mL, mM, mN, mO, mP, mQ, mR, mS, mT, mU, mV, mW, mX, mY, mZ, nA, nB, nC, nD, nE, nF, nG, nH, nI, nJ, nK, nL, nM, nN, nO, nP, nQ, nR, nS, nT, nU, nV, nW, nX, nY, nZ, oA, oB, oC, oD, oE, oF, oG, oH, oI, oJ, oK, oL, oM, oN, oO, oP, oQ, oR, oS, oT, oU, oV, oW, oX, oY, oZ, pA, pB, pC, pD, pE, pF, pG, pH, pI, pJ, pK, pL, pM, pN, pO, pP, pQ, pR, pS, pT, pU, pV, pW, pX], []⟩) → J a' w') (h2 : ∀ a' w', Met J a' w' → K' a' w') :
  Code.wp Tryd.prog payR74 (Exit.then K' Q') ⟨#[aA, .pointer (some ⟨b, 0, none⟩), aC, .pointer (some ⟨p, 0, none⟩), aE, aF, aG, aH, aI, aJ, aK, aL, aM, aN, aO, aP, aQ, aR, aS, aT, aU, aV, aW, aX, aY, aZ, bA, bB, bC, bD, bE, bF, bG, bH, bI, bJ, bK, bL, bM, bN, bO, bP, bQ, bR, bS, bT, bU, bV, bW, bX, bY, bZ, cA, cB, cC, cD, cE, cF, cG, cH, cI, cJ, cK, cL, cM, cN, cO, cP, cQ, cR, cS, cT, cU, cV, cW, cX, cY, cZ, dA, dB, dC, dD, dE, dF, dG, dH, dI, dJ, dK, dL, dM, dN, dO, dP, dQ, dR, dS, dT, dU, dV, dW, dX, dY, dZ, eA, eB, eC, eD, eE, eF, eG, eH, eI, eJ, eK, eL, eM, eN, eO, eP, eQ, eR, eS, eT, eU, eV, eW, eX, eY, eZ, fA, fB, fC, fD, fE, fF, fG, fH, fI, fJ, fK, fL, fM, fN, fO, fP, fQ, fR, fS, fT, fU, fV, fW, fX, fY, fZ, gA, gB, gC, gD, gE, gF, gG, gH, gI, gJ, gK, gL, gM, gN, gO, gP, gQ, gR, gS, gT, gU, gV, gW, gX, gY, gZ, iA, iB, iC, iD, iE, iF, iG, iH, iI, iJ, iK, iL, iM, iN, iO, iP, iQ, iR, iS, iT, iU, iV, iW, iX, iY, iZ, jA, jB, jC, jD, jE, jF, jG, jH, jI, jJ, jK, jL, jM, jN, jO, jP, jQ, jR, jS, jT, jU, jV, jW, jX, jY, jZ, kA, kB, kC, kD, kE, kF, kG, kH, kI, kJ, kK, kL, kM, kN, kO, kP, kQ, kR, kS, kT, kU, kV, kW, kX, kY, kZ, lA, lB, lC, lD, lE, lF, lG, lH, lI, lJ, lK, lL, lM, lN, lO, lP, lQ, lR, lS, lT, lU, lV, lW, lX, lY, lZ, mA, mB, mC, mD, mE, mF, mG, mH, mI, mJ, mK, mL, mM, mN, mO, mP, mQ, mR, mS, mT, mU, mV, mW, mX, mY, mZ, nA, nB, nC, nD, nE, nF, nG, nH, nI, nJ, nK, nL, nM, nN, nO, nP, nQ, nR, nS, nT, nU, nV, nW, nX, nY, nZ, oA, oB, oC, oD, oE, oF, oG, oH, oI, oJ, oK, oL, oM, oN, oO, oP, oQ, oR, oS, oT, oU, oV, oW, oX, oY, oZ, pA, pB, pC, pD, pE, pF, pG, pH, pI, pJ, pK, pL, pM, pN, pO, pP, pQ, pR, pS, pT, pU, pV, pW, pX], []⟩ W := by
 conv => arg 2; whnf
 obtain ⟨s, l, hj, hsn, hrest⟩ := P.out.obj
 have x3 := P.out.cx 3 (v := .int .i64 x.c) rfl
 have p4 := cell_of_block (j := 4) hj.blk (ar4 _)
 have HSN0 := hid hsn
 clear hj hsn hrest
 have hw29 : IntKind.i64.wrap (x.c.tmod 29) = x.c.tmod 29 := wrap_tmod (by omega) (by omega)
 by_cases q0 : x.c.tmod 29 = 28
 ·have r0 : (x.c.tmod 29 == 28) = true := by simpa using q0
  by_cases q1 : 0 < s.n
  ·go_wp2_with fail
   go_meet
   exact ⟨_, rfl, fun _ => by have := HSN0.out; omega, rfl⟩
  ·go_wp2_with fail
   go_meet
   exact ⟨false, rfl, (fun h => by cases h), rfl⟩
 ·have r0 : (x.c.tmod 29 == 28) = false := by simpa using q0
  go_wp2_with fail
  go_meet
  exact ⟨false, rfl, (fun h => by cases h), rfl⟩
end
end Go.Proofs.YtbnbofooofedkaaDoor
