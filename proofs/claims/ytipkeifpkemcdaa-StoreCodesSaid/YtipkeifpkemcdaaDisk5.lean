/- disk: Crash. -/
import Derived.Test.YtipkeifpkemcdaaDisk4
namespace Go.Proofs.Ytipkeifpkemcdaa
open Go.RowKit
set_option linter.unusedVariables false
set_option linter.unusedSimpArgs false
set_option maxRecDepth 100000
set_option maxHeartbeats 1000000

def ints (l : List Int) : List Value := l.map fun z => .int .i64 z
theorem crashed_nil (fates : List Int) (sec : List (List UInt8 × Bool)) (i : Nat) : crashed fates sec i [] = sec := rfl
theorem crashed_snoc (fates : List Int) (x : Nat × List UInt8) : ∀ (l : List (Nat × List UInt8)) (sec : List (List UInt8 × Bool)) (i : Nat), crashed fates sec i (l ++ [x]) = (if fateOf fates (i + l.length) = 0 then (crashed fates sec i l).set x.1 (x.2, false) else if fateOf fates (i + l.length) = 2 then (crashed fates sec i l).set x.1 ([], true) else crashed fates sec i l)
  | [], sec, i => by simp only [List.nil_append, crashed, List.length_nil, Nat.add_zero]
  | y :: l, sec, i => by
    rw [List.cons_append]
    simp only [crashed]
    rw [crashed_snoc fates x l]
    rw [List.length_cons, show i + (l.length + 1) = i + 1 + l.length by omega]
theorem fateOf_range (l : List Int) (i : Nat) : fateOf l i = 0 ∨ fateOf l i = 1 ∨ fateOf l i = 2 := by
  unfold fateOf; split <;> omega

theorem crash_any (p : Nat) (s : DSt) (F : List Nat) (aL : Option Addr) (nL cL : Nat) (l : List Int) (w : World) (h : Dk w p s F) (hr : RdC w aL nL (ints l)) (hb : ∀ z ∈ l, -9223372036854775808 ≤ z ∧ z ≤ 9223372036854775807) (hrF : ∀ w1, Chg F w w1 → RdC w1 aL nL (ints l)) :
    Calls Try.prog 24 #[.pointer (some ⟨p, 0, none⟩), .slice aL nL cL] w fun e w' => e = .returned (.tuple #[]) ∧ Chg F w w' ∧ ∃ F', Dk w' p (s.crash l) F' ∧ Fresh F F' w := by
  obtain ⟨S, nS, cS, aQ, nQ, cQ, xs, qs, D, hd, hF⟩ := h
  have hp1 := hd.cell1
  have hqm := hd.qmax
  have HD := hid hd; have HF := hid hF; have HB := hid hb; have HRF := hid hrF
  have HNL := hid hr.len
  clear hd hF hr hb hrF
  go_enter Try.func24, Try.ntmps24
  go_wp2_with fail
  go_loopw [12] (fun x wr => ∃ (k : Nat) (xs' : List (Value × Value)), k ≤ nQ ∧ x = .int .i64 k ∧ DkAt wr p S nS cS aQ nQ cQ xs' qs D { s with sec := crashed l s.sec 0 (s.pend.take k) } ∧ Chg [S] w wr) (fun x _ => nQ - (intOf x).toNat)
  case atStart => exact ⟨0, xs, Nat.zero_le _, rfl, by simpa [crashed_nil] using HD.out, Chg.refl _ _⟩
  case round =>
    obtain ⟨k, xs', hk, rfl, hd, hc⟩ := hrel
    by_cases hlt : k < nQ
    · obtain ⟨g, z, v, d, rfl, e1, e2, hz, e3, e4, hdat⟩ := hd.pen (i := k) hlt
      obtain ⟨a, n, c, rfl⟩ : ∃ a n c, v = .slice a n c := let ⟨a, n, c, e, _⟩ := hdat; ⟨a, n, c, e⟩
      have hd' := fun o => hd.keep (Chg.alloc (Chg.refl [] wr) o) (fun _ _ hm => by cases hm)
      have c0 := fun o => (hd' o).cell0
      obtain ⟨v0, d0, b0, e5, e6, e7, _⟩ := hd.sec hz
      have e6' := fun o => cell_alloc e6 o
      have e7' := fun o => cell_alloc e7 o
      have f6 := fun o => (hd' o).rowS.frozenAt (z * 2)
      have f7 := fun o => (hd' o).rowS.frozenAt (z * 2 + 1)
      have e1' : s.pend[k]? = some (z, d) := e1
      have hcr : crashed l s.sec 0 (s.pend.take (k + 1)) = (if fateOf l k = 0 then (crashed l s.sec 0 (s.pend.take k)).set z (d, false) else if fateOf l k = 2 then (crashed l s.sec 0 (s.pend.take k)).set z ([], true) else crashed l s.sec 0 (s.pend.take k)) := by
        have h5 : (s.pend.take k).length = k := by
          have h6 : s.pend.length = nQ := hd.lenPend
          rw [List.length_take]; omega
        rw [take_snoc e1', crashed_snoc, Nat.zero_add, h5]
      have hnil : Dat wr D (.slice none 0 0) [] := ⟨none, 0, 0, rfl, RdB.nil _ _, Nat.le_refl _, fun _ => rfl, by omega, fun b off sp hb => by cases hb⟩
      have H0 := hid (fun o => (hd' o).setSec z (.slice a n c) d false (hdat.keep (Chg.alloc (Chg.refl [] wr) o) (fun _ _ hm => by cases hm)))
      have H2 := hid (fun o => (hd' o).setSec z (.slice none 0 0) [] true (hnil.keep (Chg.alloc (Chg.refl [] wr) o) (fun _ _ hm => by cases hm)))
      have H1 := hid hd'
      have hrl : ∀ o, RdC (wr.alloc o) aL nL (ints l) := fun o => HRF.out _ ((hc.mono (by intro q hq; rw [HF.out, List.mem_singleton.1 hq]; simp [foot])).alloc o)
      have fin0 : fateOf l k = 0 → ∀ o, DkAt ((((wr.alloc o).setCell ⟨S, z * 2, none⟩ (.slice a n c)).setCell ⟨S, z * 2 + 1, none⟩ (.bool false)).drew) p S nS cS (some ⟨g, 0, none⟩) nQ cQ (xs'.set z (.slice a n c, .bool false)) qs D { s with sec := crashed l s.sec 0 (s.pend.take (k + 1)) } ∧ Chg [S] w ((((wr.alloc o).setCell ⟨S, z * 2, none⟩ (.slice a n c)).setCell ⟨S, z * 2 + 1, none⟩ (.bool false)).drew) := by
        intro hf o
        obtain ⟨h1, h2⟩ := H0.out o
        refine ⟨?_, ((hc.alloc _).trans h2 (fun q hq => .inl hq)).drew⟩
        rw [hcr, if_pos hf]
        exact h1.keep (Chg.drew (Chg.refl [] _)) (fun _ _ hm => by cases hm)
      have fin2 : fateOf l k = 2 → ∀ o, DkAt ((((wr.alloc o).setCell ⟨S, z * 2, none⟩ (.slice none 0 0)).setCell ⟨S, z * 2 + 1, none⟩ (.bool true)).drew) p S nS cS (some ⟨g, 0, none⟩) nQ cQ (xs'.set z (.slice none 0 0, .bool true)) qs D { s with sec := crashed l s.sec 0 (s.pend.take (k + 1)) } ∧ Chg [S] w ((((wr.alloc o).setCell ⟨S, z * 2, none⟩ (.slice none 0 0)).setCell ⟨S, z * 2 + 1, none⟩ (.bool true)).drew) := by
        intro hf o
        obtain ⟨h1, h2⟩ := H2.out o
        refine ⟨?_, ((hc.alloc _).trans h2 (fun q hq => .inl hq)).drew⟩
        rw [hcr, if_neg (by omega), if_pos hf]
        exact h1.keep (Chg.drew (Chg.refl [] _)) (fun _ _ hm => by cases hm)
      have fin1 : fateOf l k = 1 → ∀ o, DkAt (wr.alloc o) p S nS cS (some ⟨g, 0, none⟩) nQ cQ xs' qs D { s with sec := crashed l s.sec 0 (s.pend.take (k + 1)) } ∧ Chg [S] w (wr.alloc o) := by
        intro hf o
        refine ⟨?_, hc.alloc _⟩
        rw [hcr, if_neg (by omega), if_neg (by omega)]
        exact H1.out o
      have FIN0 := hid fin0; have FIN1 := hid fin1; have FIN2 := hid fin2
      have HRL := hid hrl
      clear e1 e1' e2 hdat e5 hd hc hd' hcr fin0 fin1 fin2 hrl hnil H0 H1 H2
      have hll : l.length = nL := by have := HNL.out; simpa [ints] using this
      by_cases hkl : k < nL
      · obtain ⟨b, off, rfl, hcl⟩ := (HRL.out (.cells #[] 0 (0, 0))).cell k hkl
        have cl : ∀ o, (wr.alloc o).cell? ⟨b, off + k, none⟩ = some (.int .i64 (l.getD k 0)) := by
          intro o
          obtain ⟨b', off', he, hcl⟩ := (HRL.out o).cell k hkl
          cases he
          refine hcl k _ ?_
          simp only [ints, List.getElem?_map, List.getD_eq_getElem?_getD]
          rw [List.getElem?_eq_getElem (by omega)]; rfl
        have hfo : fateOf l k = l.getD k 0 % 3 := by unfold fateOf; rw [if_pos (by omega)]
        clear hcl
        generalize l.getD k 0 = y at *
        have hq5 : (y.tmod 3 = -2 ∧ fateOf l k = 1) ∨ (y.tmod 3 = -1 ∧ fateOf l k = 2) ∨ (y.tmod 3 = 0 ∧ fateOf l k = 0) ∨ (y.tmod 3 = 1 ∧ fateOf l k = 1) ∨ (y.tmod 3 = 2 ∧ fateOf l k = 2) := by
          have h1 := Int.tmod_eq_emod (a := y) (b := 3)
          rw [hfo]
          split at h1
          · omega
          · have : ((3 : Int).natAbs : Int) = 3 := rfl
            have h3 : y % 3 ≠ 0 := fun h => by rename_i hcc; exact hcc (Or.inr (Int.dvd_of_emod_eq_zero h))
            omega
        have HNOT := hid hfo
        clear hfo
        rcases hq5 with ⟨ht, hf⟩ | ⟨ht, hf⟩ | ⟨ht, hf⟩ | ⟨ht, hf⟩ | ⟨ht, hf⟩
        · have HFT := hid hf; clear hf
          go_wp2_with fail
          go_roundw
          case rel => obtain ⟨h1, h2⟩ := FIN1.out HFT.out _; exact ⟨k + 1, _, by omega, by go_num, h1, h2⟩
          case measure => simp [intOf]; omega
        · have HFT := hid hf; clear hf
          go_wp2_with fail
          go_region
          go_wp2_with fail
          go_roundw
          case rel => obtain ⟨h1, h2⟩ := FIN2.out HFT.out _; exact ⟨k + 1, _, by omega, by go_num, h1, h2⟩
          case measure => simp [intOf]; omega
        · have HFT := hid hf; clear hf
          go_wp2_with fail
          go_region
          go_wp2_with fail
          go_roundw
          case rel => obtain ⟨h1, h2⟩ := FIN0.out HFT.out _; exact ⟨k + 1, _, by omega, by go_num, h1, h2⟩
          case measure => simp [intOf]; omega
        · have HFT := hid hf; clear hf
          go_wp2_with fail
          go_roundw
          case rel => obtain ⟨h1, h2⟩ := FIN1.out HFT.out _; exact ⟨k + 1, _, by omega, by go_num, h1, h2⟩
          case measure => simp [intOf]; omega
        · have HFT := hid hf; clear hf
          go_wp2_with fail
          go_region
          go_wp2_with fail
          go_roundw
          case rel => obtain ⟨h1, h2⟩ := FIN2.out HFT.out _; exact ⟨k + 1, _, by omega, by go_num, h1, h2⟩
          case measure => simp [intOf]; omega
      · have hf : fateOf l k = 1 := by unfold fateOf; rw [if_neg (by omega)]
        have HFT := hid hf; clear hf
        go_wp2_with fail
        go_roundw
        case rel => obtain ⟨h1, h2⟩ := FIN1.out HFT.out _; exact ⟨k + 1, _, by omega, by go_num, h1, h2⟩
        case measure => simp [intOf]; omega
    · obtain rfl : k = nQ := by omega
      have c1 := hd.cell1
      have f1 := hd.fz 1
      have c2 := hd.cell2
      have f2 := hd.fz 2
      have c3 := hd.cell3
      have f3 := hd.fz 3
      have HS := hid hd.unpend
      have HLP := hid hd.lenPend
      have HC := hid hc
      clear hd hc
      go_wp2_with fail
      go_end0
      obtain ⟨h1, h2⟩ := HS.out
      have h3 : s.pend.take k = s.pend := List.take_of_length_le (by have h5 : s.pend.length = k := HLP.out; omega)
      rw [h3] at h1
      have c3' : Chg [p] (wr.setCell ⟨p, 1, none⟩ (.slice none 0 0)) (((wr.setCell ⟨p, 1, none⟩ (.slice none 0 0)).setCell ⟨p, 3, none⟩ (.bool false)).setCell ⟨p, 2, none⟩ (.int .i64 (-1))) := ((Chg.refl [p] _).setCell (.inl (by simp)) _).setCell (.inl (by simp)) _
      have h6 := h1.struct c3' (-1) false s.works (by omega) (by have := block_setCell (j := 2) (block_setCell (j := 3) h1.blk (.bool false)) (.int .i64 (-1)); simpa using this)
      have h4 := ((HC.out.mono (G := [S, p]) (by simp)).trans (h2.mono (G := [S, p]) (by simp)) (fun q hq => .inl hq)).trans (c3'.mono (G := [S, p]) (by simp)) (fun q hq => .inl hq)
      have hFF := HF.out
      refine ⟨rfl, h4.mono (G := F) ?_, _, ⟨S, nS, cS, none, 0, 0, xs', [], D, h6, rfl⟩, ?_⟩
      · rw [hFF]; simp [foot]
      · intro q hq
        left
        rw [hFF]
        simp only [foot, Value.ownBlock, Option.toList, List.mem_cons, List.mem_append, List.nil_append] at hq ⊢
        rcases hq with h | h | h
        · exact .inl h
        · exact .inr (.inl h)
        · exact .inr (.inr (.inr h))
end Go.Proofs.Ytipkeifpkemcdaa
