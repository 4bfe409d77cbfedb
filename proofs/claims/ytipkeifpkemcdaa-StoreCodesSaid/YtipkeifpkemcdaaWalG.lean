/- wal: works, one behind the other. -/
import Derived.Test.YtipkeifpkemcdaaWalF
namespace Go.Proofs.Ytipkeifpkemcdaa
open Go.RowKit
set_option linter.unusedVariables false
set_option linter.unusedSimpArgs false
set_option maxRecDepth 100000
set_option maxHeartbeats 3200000
theorem runW_cons (x : Wk) (l : List Wk) (s : DSt) : runW (x :: l) s = if s.can = true then runW l (x.go s) else (x.go s, false) := rfl
/-- A row of function values that do works. -/
structure FnsR (w : World) (pl p : Nat) (P : Nat → Prop) (aL : Option Addr) (nL : Nat) (vs : List Value) (xs : List Wk) : Prop where
  rd : RdC w aL nL vs
  lx : xs.length = nL
  at_ : ∀ b off sp, aL = some ⟨b, off, sp⟩ → P b
  fn : ∀ (k : Nat) (v : Value) (x : Wk), vs[k]? = some v → xs[k]? = some x → FnR w pl p P v x
theorem FnsR.keep {w w' : World} {pl p : Nat} {P : Nat → Prop} {aL : Option Addr} {nL : Nat} {vs : List Value} {xs : List Wk} {G : List Nat} (h : FnsR w pl p P aL nL vs xs) (hc : Chg G w w') (hG : ∀ q ∈ G, ¬ P q) : FnsR w' pl p P aL nL vs xs :=
  ⟨hc.rdC h.rd (fun b off sp hb hm => hG _ hm (h.at_ b off sp hb)), h.lx, h.at_, fun k v x h1 h2 => (h.fn k v x h1 h2).keep hc hG⟩
/-- While works are done. -/
structure WkL (xs : List Wk) (s : DSt) (p n : Nat) (F : List Nat) (w : World) (y : Value) (wr : World) : Prop where
  ex : ∃ (k : Nat) (sk : DSt) (Fk : List Nat), y = .int .i64 (k : Int) ∧ k ≤ n ∧ runW (xs.drop k) sk = runW xs s ∧ Dk wr p sk Fk ∧ Fresh F Fk w ∧ Chg F w wr ∧ sk.sec.length = s.sec.length ∧ sk.works ≤ s.works + k ∧ sk.pend.length ≤ s.pend.length + k
theorem logWorks_any (pl p : Nat) (P : Nat → Prop) (xs : List Wk) (vs : List Value) (aL : Option Addr) (nL cL : Nat) (s : DSt) (F : List Nat) (e0 : Nat) (a0 u0 at0 : Int) (w : World) (hv : FnsR w pl p P aL nL vs xs) (hF : ∀ q, P q → q ∉ F) (hH : ∀ q, P q → q < w.heap.size) (hpF : pl ∉ F)
    (hl : w.heap[pl]? = some (.cells (logArr p e0 a0 u0 at0 false) 118 (0, 0))) (h : Dk w p s F) (hx : ∀ x ∈ xs, x.fit s.sec.length) (hw : s.works + nL < 4611686018427387904) (hpn : s.pend.length + nL < 1099511627776) :
    Calls Try.prog 100 #[.pointer (some ⟨pl, 0, none⟩), .slice aL nL cL] w fun e w' => e = .returned (.int .i64 (if (runW xs s).2 = true then 0 else 9)) ∧ Chg (pl :: F) w w' ∧ w'.heap[pl]? = some (.cells (logArr p e0 a0 u0 at0 (!(runW xs s).2)) 118 (0, 0)) ∧ ∃ F', Dk w' p (runW xs s).1 F' ∧ Fresh F F' w := by
  have HV := hid hv; have HL := hid hl; have HX := hid hx
  have HF := hid hF; have HPF := hid hpF
  have HFG := hid (fun q (hq : q ∈ F) (hp : P q) => hF q hp hq)
  have HH := hid hH
  have HK0 : Hid (WkL xs s p nL F w (.int .i64 0) w) := ⟨0, s, F, rfl, Nat.zero_le _, rfl, h, fun q hq => .inl hq, Chg.refl _ _, rfl, Nat.le_refl _, Nat.le_refl _⟩
  obtain ⟨R, hR⟩ : ∃ R, runW xs s = R := ⟨_, rfl⟩
  rw [hR]
  obtain ⟨rc, hrc⟩ : ∃ z : Int, (if R.2 = true then (0 : Int) else 9) = z := ⟨_, rfl⟩
  rw [hrc]
  have HRC := hid hrc; have HRR0 := hid hR
  clear hv hl hx h hF hpF hrc hR hH
  go_enter Try.func100, Try.ntmps100
  go_wp2_with fail
  go_loopw [10] (fun y wr => WkL xs s p nL F w y wr) (fun y _ => nL - (intOf y).toNat)
  case atStart => exact HK0.out
  case round =>
    obtain ⟨k, sk, Fk, rfl, hkn, hrun, hd, hfr, hch, hsl, hwk, hpk⟩ := hrel.ex
    clear hrel HK0
    have HRUN := hid hrun; have HD := hid hd; have HFR := hid hfr; have HCH := hid hch; have HSL := hid hsl
    clear hrun hd hfr hch hsl
    have hlk := (HCH.out.block pl (block_lt HL.out) HPF.out).trans HL.out
    have HLK := hid hlk
    clear hlk
    by_cases hlt : k < nL
    · have hltz : (k : Int) < (nL : Int) := by omega
      have hVk := HV.out.keep HCH.out HFG.out
      obtain ⟨v, hv⟩ : ∃ v, vs[k]? = some v := ⟨_, List.getElem?_eq_getElem (by rw [hVk.rd.len]; exact hlt)⟩
      obtain ⟨x, hx⟩ : ∃ x, xs[k]? = some x := ⟨_, List.getElem?_eq_getElem (by rw [hVk.lx]; exact hlt)⟩
      obtain ⟨b, off, haL, hcc⟩ := hVk.rd.cell k hlt
      have hcell := hcc k v hv
      have hfn := hVk.fn k v x hv hx
      have hdrop : xs.drop k = x :: xs.drop (k + 1) := by
        have hk' : k < xs.length := by rw [hVk.lx]; exact hlt
        rw [List.drop_eq_getElem_cons hk']
        have := (List.getElem?_eq_some_iff.1 hx).2
        rw [this]
      have hrw := HRUN.out
      rw [hdrop, runW_cons] at hrw
      have HRW := hid hrw
      have hfit := HX.out x (List.mem_of_getElem? hx)
      rw [← HSL.out] at hfit
      obtain ⟨fn, first, cap, hfv, hcf, hcall⟩ := fn_any x v pl p P sk Fk e0 a0 u0 at0 false wr hfn (fun q h1 hm => by
        rcases HFR.out q hm with h3 | h3
        · exact HF.out q h1 h3
        · have := HH.out q h1; omega) HLK.out HD.out hfit (by omega) (by omega)
      have HCALL := hid hcall; have HCF := hid hcf
      have HGS := hid (go_small x sk)
      subst haL
      rw [hfv] at hcell
      clear hVk hv hx hcc hfn hdrop hrw hfit hcall hcf hfv HRUN
      go_wp2_with (refine wpList_call_fn rfl (.tmp 14) #[] _ rfl fn first cap rfl HCF.out _ rfl ?_)
      refine HCALL.out.mono ?_
      rintro e w2 ⟨rfl, hc2, F2, hd2, hf2⟩
      dsimp only
      have HC2 := hid hc2; have HD2 := hid hd2; have HF2 := hid hf2
      have HCH2 : Hid (Chg F w w2) := HCH.out.trans hc2 HFR.out
      have HFR2 : Hid (Fresh F F2 w) := HFR.out.trans hf2 HCH.out.size
      clear hc2 hd2 hf2 HCALL hcell
      cases hcan : sk.can with
      | true =>
        have HR2 : Hid (runW (xs.drop (k + 1)) (x.go sk) = runW xs s) := by have h := HRW.out; rw [if_pos hcan] at h; exact h
        clear hcan
        go_wp2_with fail
        have HRR : WkL xs s p nL F w (.int .i64 ((k : Int) + 1)) w2 := by
          have h1 := HGS.out; have h2 := HSL.out
          exact ⟨k + 1, x.go sk, F2, by go_num, by omega, HR2.out, HD2.out, HFR2.out, HCH2.out, by omega, by omega, by omega⟩
        go_roundw
        case rel => first | exact HRR | ((repeat apply Exists.intro); exact HRR) | ((repeat apply Exists.intro); exact ⟨HRR, rfl⟩)
        case measure => (simp [intOf] <;> omega)
      | false =>
        have HR2 : Hid ((x.go sk, false) = runW xs s) := by have h := HRW.out; rw [if_neg (by rw [hcan]; decide)] at h; exact h
        clear hcan
        have HL2 := hid ((HC2.out.block pl (block_lt HLK.out) (fun hm => by
          rcases HFR.out pl hm with h3 | h3
          · exact HPF.out h3
          · have := block_lt HL.out; omega)).trans HLK.out)
        have hc3 := cell_of_block (j := 5) HL2.out rfl
        have hfz : ∀ j, w2.frozen? ⟨pl, j, none⟩ = false := fun j => frozen_of_block HL2.out
        go_wp2_with fail
        go_ret
        have hrc := HRC.out
        rw [← HRR0.out, ← HR2.out] at hrc
        rw [← HRR0.out, ← HR2.out]
        obtain rfl : (9 : Int) = rc := hrc
        dsimp only
        have hset : Chg [pl] w2 (w2.setCell ⟨pl, 5, none⟩ (.bool true)) := (Chg.refl [pl] w2).setCell (.inl (by simp)) _
        have hdis : Disj F2 [pl] := fun q hq hm => by
          rw [List.mem_singleton.1 hm] at hq
          rcases HFR2.out pl hq with h3 | h3
          · exact HPF.out h3
          · have := block_lt HL.out; omega
        refine ⟨rfl, (HCH2.out.mono (fun q hq => List.mem_cons_of_mem _ hq)).trans hset (fun q hq => by rw [List.mem_singleton.1 hq]; exact .inl (by simp)), block_setCell (j := 5) HL2.out _, F2, HD2.out.keep hset hdis, HFR2.out⟩
    · have hltz : ¬ (k : Int) < (nL : Int) := by omega
      have hnil : xs.drop k = [] := List.drop_eq_nil_of_le (by rw [HV.out.lx]; omega)
      have hrw := HRUN.out
      rw [hnil] at hrw
      have HRW : Hid ((sk, true) = runW xs s) := hrw
      clear hnil hrw
      go_wp2_with fail
      go_ret
      have hrc := HRC.out
      rw [← HRR0.out, ← HRW.out] at hrc
      rw [← HRR0.out, ← HRW.out]
      obtain rfl : (0 : Int) = rc := hrc
      exact ⟨rfl, HCH.out.mono (fun q hq => List.mem_cons_of_mem _ hq), HLK.out, Fk, HD.out, HFR.out⟩
end Go.Proofs.Ytipkeifpkemcdaa
