/- The walks of chapter 1's statements. -/
import Derived.Test.YtlamooiocmhikaaOctet
import Derived.Test.YtlamooiocmhikaaHand
import Derived.Deep.QuietTactic
import Derived.BigQuiet
namespace Go.Proofs.Ytlamooiocmhikaa
open Go.RowKit
set_option linter.unusedVariables false
set_option linter.unusedSimpArgs false
set_option maxRecDepth 100000
set_option maxHeartbeats 1000000

theorem be_258 : be 2 258 = [1, 2] := by decide +kernel
theorem be_2 : be 2 2 = [0, 2] := by decide +kernel
theorem Disj.of_lt {F G : List Nat} {B : Nat} (hF : ∀ k ∈ F, B ≤ k) (hG : ∀ k ∈ G, k < B) : Disj F G := fun k h1 h2 => by have := hF k h1; have := hG k h2; omega
theorem Disj.symm {F G : List Nat} (h : Disj F G) : Disj G F := fun k h1 h2 => h k h2 h1
theorem Disj.fresh {F F' G : List Nat} {w : World} (h : Disj F G) (hf : Fresh F F' w) (hG : ∀ k ∈ G, k < w.heap.size) : Disj F' G := fun k h1 h2 => by
  rcases hf k h1 with h' | h'
  · exact h k h' h2
  · have := hG k h2; omega
theorem Fresh.ge {F F' : List Nat} {w : World} {B : Nat} (h : Fresh F F' w) (hF : ∀ k ∈ F, B ≤ k) (hB : B ≤ w.heap.size) : ∀ k ∈ F', B ≤ k := fun k hk => by
  rcases h k hk with h' | h'
  · exact hF k h'
  · omega

/-- known: chapter 1's example. -/
theorem known_any (w : World) :
    Calls Try.prog 8 #[] w fun e w' => e = .returned (.bool true) ∧ Below w.heap.size w w' := by
  have kc := fun (w : World) (C : Array Value) (n c : Nat) => Lib.run_convert_bytes_const (P := Try.prog) w 27 5 C n c Try.underlying27 Try.underlying5
  go_enter Try.func8, Try.ntmps8
  go_wp2_with fail
  refine (oNew_any _).mono ?_
  rintro e w1 ⟨rfl, h1, hb1, hs1⟩
  have H1 := hid h1; have HB1 := hid hb1; clear h1 hb1
  go_wp2_with fail
  refine (oU16_any _ _ _ 258 _ H1.out (by decide)).mono ?_
  rintro e w2 ⟨F2, rfl, h2, hc2, hf2⟩
  have H2 := hid h2; have HC2 := hid hc2; have HF2 := hid hf2; clear h2 hc2 hf2
  have hs2 := HC2.out.size
  go_wp2_with fail
  refine (oShort_any _ _ F2 _ 2 _ [97, 98] _ (H2.out.keep (Chg.alloc (Chg.refl [] _) _) (fun _ _ => by simp)) (RdB.new w2 _ _ _ _ rfl 2 rfl _ rfl) (by simp) (fun w1 hc => hc.rdB (RdB.new w2 _ _ _ _ rfl 2 rfl _ rfl) (by intro g off sp h hm; cases h; have := H2.out.lt _ hm; omega)) (by decide) (by simp [be_len])).mono ?_
  rintro e w3 ⟨F3, rfl, h3, hc3, hf3⟩
  rw [show u64nat 258 = 258 by decide, be_258, be_2] at h3
  have H3 := hid h3; have HC3 := hid hc3; have HF3 := hid hf3; clear h3 hc3 hf3
  go_wp2_with fail
  refine (oBytes_any _ _ F3 _ H3.out (by decide)).mono ?_
  rintro e w4 ⟨a, n, c, rfl, ho, hb4⟩
  have hcv := run_bytes_str (P := Try.prog) (RdB.of_own ho) c 27 9 5 Try.underlying27 Try.underlying5 Try.underlying9
  have HO := hid ho; have HB4 := hid hb4; clear ho hb4
  go_wp2_with fail
  refine (oLen_any _ _ F3 _ (H3.out.keep (Chg.of_below HB4.out []) (fun _ _ => by simp))).mono ?_
  rintro e w5 ⟨rfl, rfl⟩
  go_wp2_with fail
  go_ret
  refine ⟨rfl, ?_⟩
  have g2 := HF2.out.ge (B := w.heap.size) (by simp) (by omega)
  have g3 := HF3.out.ge (B := w.heap.size) g2 (by simp; omega)
  have c12 := HB1.out.trans (HC2.out.below (B := w.heap.size) (by simp) (by omega))
  have c3 := (c12.alloc (by omega) _).trans (HC3.out.below (B := w.heap.size) g2 (by simp; omega))
  exact c3.trans (HB4.out.mono c3.size)

theorem octetKnown_walk (w : World) :
    Calls Try.prog 4 #[] w fun e w' => e = .returned (.bool true) ∧ Below w.heap.size w w' := by
  obtain ⟨i, hi, hz0, hz1, hz2⟩ := info_parts infoB'
  go_enter Try.func4, Try.ntmps4
  go_wp2_with fail
  refine (oNewReader_any _ 3 _ [1, 2, 3] _ (RdB.new w _ _ _ _ rfl 3 rfl _ rfl) (by simp) (by decide)).mono ?_
  rintro e w1 ⟨p, F1, rfl, h1, hF1, hb1⟩
  have H1 := hid h1; have HF1 := hid hF1; have HB1 := hid (((Below.refl w.heap.size w).alloc (Nat.le_refl _) _).trans (hb1.mono (by simp))); clear h1 hF1 hb1
  go_wp2_with fail
  refine (oNew_any _).mono ?_
  rintro e w2 ⟨rfl, h2, hb2, hs2⟩
  have H2 := hid h2; have HB2 := hid hb2; clear h2 hb2
  go_wp2_with fail
  refine (known_any _).mono ?_
  rintro e w3 ⟨rfl, hb3⟩
  have HB3 := hid hb3; clear hb3
  have B23 := hid (HB2.out.trans (HB3.out.mono HB2.out.size))
  have R3 := hid (H1.out.keep (Chg.of_below B23.out []) (fun _ _ => by simp))
  have W3 := hid (H2.out.keep (Chg.of_below HB3.out []) (fun _ _ => by simp))
  go_wp2_with fail
  refine (oRU16_any _ _ _ _ _ R3.out (by decide)).mono ?_
  rintro e w4 ⟨rfl, hc4, F4, h4, hf4⟩
  rw [show asInt (num (taken [1, 2, 3] false 2)) = 258 by decide +kernel]
  rw [show restOf [1, 2, 3] false 2 = [3] by decide +kernel, show lackOf [1, 2, 3] false 2 = false by decide +kernel] at h4
  have H4 := hid h4; have HC4 := hid hc4; have HF4 := hid hf4; clear h4 hc4 hf4
  go_wp2_with fail
  refine (oRU32_any _ _ _ _ _ H4.out (by decide)).mono ?_
  rintro e w5 ⟨rfl, hc5, F5, h5, hf5⟩
  rw [show asInt (num (taken [3] false 4)) = 0 by decide +kernel]
  rw [show restOf [3] false 4 = [] by decide +kernel, show lackOf [3] false 4 = true by decide +kernel] at h5
  have H5 := hid h5; have HC5 := hid hc5; have HF5 := hid hf5; clear h5 hc5 hf5
  go_wp2_with fail
  refine (oLack_any _ _ _ _ _ H5.out).mono ?_
  rintro e w6 ⟨rfl, rfl⟩
  go_wp2_with fail
  refine (oLeft_any _ _ _ _ _ H5.out).mono ?_
  rintro e w6 ⟨rfl, rfl⟩
  go_wp2_with fail
  refine (oRU8_any _ _ _ _ _ H5.out (by decide)).mono ?_
  rintro e w6 ⟨rfl, hc6, F6, h6, hf6⟩
  rw [show asInt (num (taken [] true 1)) = 0 by decide +kernel]
  have HC6 := hid hc6; have HF6 := hid hf6; clear h6 hc6 hf6
  have W6 := hid (((W3.out.keep HC4.out (fun k h1 h2 => by
      have h3 := H1.out.lt k h2
      have h4 := List.mem_singleton.1 h1
      omega)).keep HC5.out (fun k h1 h2 => by
      have h4 := List.mem_singleton.1 h1
      rcases HF4.out k h2 with h3 | h3
      · have := H1.out.lt k h3; omega
      · have := W3.out.lt k h1; omega)).keep HC6.out (fun k h1 h2 => by
      have h4 := List.mem_singleton.1 h1
      rcases HF5.out k h2 with h3 | h3
      · rcases HF4.out k h3 with h5 | h5
        · have := H1.out.lt k h5; omega
        · have := W3.out.lt k h1; omega
      · have := HC4.out.size; have := W3.out.lt k h1; omega))
  have B6 := hid ((((HB1.out.trans (B23.out.mono HB1.out.size)).trans (HC4.out.below (B := w.heap.size) (fun k h => Nat.le_trans (by simp) (HF1.out k h)) (by have := HB1.out.size; have := B23.out.size; omega))).trans
    (HC5.out.below (B := w.heap.size) (HF4.out.ge (fun k h => Nat.le_trans (by simp) (HF1.out k h)) (by have := HB1.out.size; have := B23.out.size; omega)) (by have := HB1.out.size; have := B23.out.size; have := HC4.out.size; omega))).trans
    (HC6.out.below (B := w.heap.size) (HF5.out.ge (HF4.out.ge (fun k h => Nat.le_trans (by simp) (HF1.out k h)) (by have := HB1.out.size; have := B23.out.size; omega)) (by have := HB1.out.size; have := B23.out.size; have := HC4.out.size; omega)) (by have := HB1.out.size; have := B23.out.size; have := HC4.out.size; have := HC5.out.size; omega)))
  obtain ⟨C, hmk⟩ : ∃ C, ∀ w : World, (Instr.makeSlice 27 (.int .i64 65536) (.int .i64 65536)).run Try.prog w = .ok (.slice (some ⟨w.heap.size, 0, none⟩) 65536 65536) (w.alloc (.cells C 5)) :=
    ⟨_, fun w => run_make (P := Try.prog) w 27 5 i (.int .u8 0) Try.underlying27 hi hz0 .i64 .i64 65536 65536 (by omega) (by omega) (by rw [hz2]; omega) (by omega)⟩
  go_wp2_with fail
  refine (oShort_long _ 65536 _ _ _ (by omega)).mono ?_
  rintro e w7 ⟨rfl, rfl⟩
  go_wp2_with fail
  refine (oLen_any _ _ _ _ (W6.out.keep (Chg.alloc (Chg.refl [] _) _) (fun _ _ => by simp))).mono ?_
  rintro e w7 ⟨rfl, rfl⟩
  go_wp2_with fail
  refine (oNewReader_any none 0 0 [] _ (RdB.nil _ _) (fun _ => rfl) (by decide)).mono ?_
  rintro e w7 ⟨q, F7, rfl, h7, hF7, hb7⟩
  have H7 := hid h7; have HF7 := hid hF7; have HB7 := hid hb7; clear h7 hF7 hb7
  go_wp2_with fail
  refine (oTake_any _ _ _ _ 0 _ H7.out (by decide)).mono ?_
  rintro e w8 ⟨a, n, c, rfl, ho, hc8, hx⟩
  rw [show taken [] false 0 = [] by decide +kernel] at ho
  have hn : n = 0 := by have := ho.1; simp at this; exact this.symm
  subst hn
  have HC8 := hid hc8
  clear ho hc8 hx
  go_wp2_with fail
  go_ret
  refine ⟨rfl, ?_⟩
  have hs6 := B6.out.size
  have c7 := (B6.out.alloc hs6 (.cells C 5)).trans (HB7.out.mono (by simp; omega))
  exact c7.trans (HC8.out.below (fun k h => Nat.le_trans (by simp; omega) (HF7.out k h)) c7.size)

/-- One call, raw. -/
structure StepD where
  what : Int
  n : Nat
  b : List UInt8
  deriving Inhabited
def StepR (w : World) (cs : List Value) (s : StepD) : Prop :=
  ∃ v, cs = [.int .i64 s.what, .int .u64 s.n, v] ∧ ArgB w v s.b ∧ s.n < 18446744073709551616

/-- Two writers side by side with the same bytes. -/
def Two (B : Nat) (w : World) (p q : Nat) (l : List UInt8) : Prop :=
  ∃ F G, Wr 54 w p l F ∧ Wr 29 w q l G ∧ Disj F G ∧ (∀ k ∈ F, B ≤ k) ∧ (∀ k ∈ G, B ≤ k) ∧ B ≤ w.heap.size
theorem Two.step {B : Nat} {W0 w1 w2 : World} {p q : Nat} {l l' : List UInt8} {F G F1 G1 : List Nat}
    (hR : Wr 29 W0 q l G) (hd : Disj F G) (hF : ∀ k ∈ F, B ≤ k) (hG : ∀ k ∈ G, B ≤ k) (hB : B ≤ W0.heap.size)
    (hc1 : Chg F W0 w1) (h1 : Wr 54 w1 p l' F1) (hf1 : Fresh F F1 W0) (hc2 : Chg G w1 w2) (h2 : Wr 29 w2 q l' G1) (hf2 : Fresh G G1 w1) :
    Two B w2 p q l' ∧ Below B W0 w2 := by
  have hG0 := hR.lt
  have hd1 : Disj F1 G := hd.fresh hf1 hG0
  have hs1 := hc1.size
  refine ⟨⟨F1, G1, h1.keep hc2 hd1, h2, ?_, hf1.ge hF hB, hf2.ge hG (by omega), by have := hc2.size; omega⟩, (hc1.below hF hB).trans (hc2.below hG (by omega))⟩
  exact (hd1.symm.fresh hf2 h1.lt).symm
theorem Two.keep {B : Nat} {w w' : World} {p q : Nat} {l : List UInt8} (h : Two B w p q l) (hc : Chg [] w w') : Two B w' p q l := by
  obtain ⟨F, G, h1, h2, h3, h4, h5, h6⟩ := h
  exact ⟨F, G, h1.keep hc (fun _ _ => by simp), h2.keep hc (fun _ _ => by simp), h3, h4, h5, by have := hc.size; omega⟩
theorem octetLays_walk (v : Value) (l : List StepD) (long : Bool) (w : World) (h : ArgSl 3 (StepR w) w v l) (hsz : ∀ x ∈ l, x.b.length ≤ 1048576) :
    Calls Try.prog 3 #[v, .bool long] w fun e w' => e = .returned (.bool true) ∧ Below w.heap.size w w' := by
  obtain ⟨i0, hi, hz0, hz1, hz2⟩ := info_parts infoB'
  obtain ⟨a, n, c, rfl, hln, hnc, hcap, hnone, hel⟩ := h
  have HLN := hid hln; have HNN := hid hnone; have HEL := hid hel; have HSZ := hid hsz
  clear hln hnone hel hsz
  go_enter Try.func3, Try.ntmps3
  go_wp2_with fail
  refine (oNew_any _).mono ?_
  rintro e w1 ⟨rfl, h1, hb1, hs1⟩
  have H1 := hid h1; have HB1 := hid hb1; clear h1 hb1
  go_wp2_with fail
  refine (known_any _).mono ?_
  rintro e w2 ⟨rfl, hb2⟩
  have HB2 := hid hb2; have hs2 := hb2.size; clear hb2
  go_wp2_with fail
  have T0 : Two w.heap.size (w2.alloc (.cells #[.slice none 0 0] 29)) w.heap.size w2.heap.size [] :=
    ⟨[w.heap.size], [w2.heap.size], (H1.out.keep (Chg.of_below HB2.out []) (fun _ _ => by simp)).keep (Chg.alloc (Chg.refl [] _) _) (fun _ _ => by simp),
      ⟨none, 0, 0, rfl, block_new _ _, World.ownsRow_nil _ _ _ _, (fun g hg => by cases hg), rfl⟩, (by intro k h1 h2; simp at h1 h2; omega), by simp, by simp; omega, by simp; omega⟩
  have HT0 := hid T0; clear T0
  have HBW := hid ((HB1.out.trans (HB2.out.mono HB1.out.size)).alloc (by omega) (.cells #[.slice none 0 0] 29))
  have hqw : w.heap.size ≤ w2.heap.size := by omega
  clear H1 HB1 HB2
  generalize w2.heap.size = q at *
  go_loopw [7, 8, 9] (fun x _ _ wr => ∃ (k : Nat) (l' : List UInt8), k ≤ n ∧ k ≤ 40 ∧ x = .int .i64 k ∧ Two w.heap.size wr w.heap.size q l' ∧ Below w.heap.size w wr ∧ l'.length ≤ k * 1200000) (fun x _ _ _ => n - (intOf x).toNat)
  case atStart => exact ⟨0, [], Nat.zero_le _, Nat.zero_le _, rfl, HT0.out, HBW.out, Nat.zero_le _⟩
  case round =>
    obtain ⟨k, l', hk, hk40, rfl, htwo, hbel, hlen⟩ := hrel
    have HTW := hid htwo; have HBE := hid hbel; clear htwo hbel HT0 HBW
    by_cases hlt : k < n
    · by_cases hlt40 : k < 40
      · obtain ⟨b, off, cs, rfl, hcl, hcc, v0, rfl, hv0, hn64⟩ := HEL.out k hlt
        have hsz := HSZ.out (l.getD k default) (by rw [List.getD_eq_getElem?_getD, List.getElem?_eq_getElem (by rw [HLN.out]; exact hlt)]; exact List.getElem_mem _)
        generalize l.getD k default = x at *
        have hc0 : wr.cell? ⟨b, off + k * 3, none⟩ = some (.int .i64 x.what) := (HBE.out.cell (p := ⟨b, off + k * 3 + 0, none⟩) (World.block_lt_of_cell? _ _ (hcc 0 (by omega)))).trans (hcc 0 (by omega))
        have hc1 : wr.cell? ⟨b, off + k * 3 + 1, none⟩ = some (.int .u64 x.n) := (HBE.out.cell (p := ⟨b, off + k * 3 + 1, none⟩) (World.block_lt_of_cell? _ _ (hcc 1 (by omega)))).trans (hcc 1 (by omega))
        obtain ⟨ab, kb, cb, rfl, hrb, hkcb, hcb, hnb⟩ := hv0
        have hc2 : wr.cell? ⟨b, off + k * 3 + 2, none⟩ = some (.slice ab kb cb) := (HBE.out.cell (p := ⟨b, off + k * 3 + 2, none⟩) (World.block_lt_of_cell? _ _ (hcc 2 (by omega)))).trans (hcc 2 (by omega))
        clear hcc hcl
        have HRB := hid hrb; have HNB := hid hnb; have hkb := hrb.len
        have hkb' : kb ≤ 1048576 := by omega
        clear hrb hnb hkb
        have hzlo := pick_lo x.what 6 (by omega)
        have hzhi := pick_hi x.what 6 (by omega)
        obtain ⟨F, G, hW0, hR0, hd', hF', hG', hB'⟩ := HTW.out
        have hFl := hid hW0.lt; have hGl := hid hR0.lt; have hd := hid hd'; have hF := hid hF'; have hG := hid hG'
        have hW := hid (hW0.keep (Chg.alloc (Chg.refl [] _) (.cells #[.int .i64 x.what, .int .u64 x.n, .slice ab kb cb] 32)) (fun _ _ => by simp))
        have hR := hid (hR0.keep (Chg.alloc (Chg.refl [] _) (.cells #[.int .i64 x.what, .int .u64 x.n, .slice ab kb cb] 32)) (fun _ _ => by simp))
        have hBr : w.heap.size ≤ wr.heap.size := HBE.out.size
        have hB : w.heap.size ≤ (wr.alloc (.cells #[.int .i64 x.what, .int .u64 x.n, .slice ab kb cb] 32)).heap.size := by simp; omega
        have hXF : Hid (wr.heap.size ∉ F) := fun hm => by have := hFl.out _ hm; omega
        have hb1 : (wr.alloc (.cells #[.int .i64 x.what, .int .u64 x.n, .slice ab kb cb] 32)).cell? ⟨wr.heap.size, 1, none⟩ = some (.int .u64 x.n) := cell_of_block (block_new _ _) rfl
        have hb2 : (wr.alloc (.cells #[.int .i64 x.what, .int .u64 x.n, .slice ab kb cb] 32)).cell? ⟨wr.heap.size, 2, none⟩ = some (.slice ab kb cb) := cell_of_block (block_new _ _) rfl
        have hl140 : l'.length + 8 ≤ 140737488355328 := by omega
        have hlr : l'.length + kb ≤ 140737488355328 := by omega
        have HAB : Hid (∀ w1, Chg F (wr.alloc (.cells #[.int .i64 x.what, .int .u64 x.n, .slice ab kb cb] 32)) w1 → RdB w1 ab kb x.b) := fun w1 hc => HRB.out.below ((HBE.out.alloc hBr _).trans (hc.below hF.out hB))
        clear hW0 hR0 hd' hF' hG' hB'
        go_wp2_with fail
        refine (pick_any x.what 6 _ (by omega) (by omega)).mono ?_
        rintro e w0' ⟨rfl, rfl⟩
        generalize pick x.what 6 = z at *
        obtain hz | hz | hz | hz | hz | hz : z = 0 ∨ z = 1 ∨ z = 2 ∨ z = 3 ∨ z = 4 ∨ z = 5 := by omega
        · subst hz
          go_wp2_with fail
          refine (oU8_any _ _ F (wrap64 (x.n : Int)) _ hW.out hl140).mono ?_
          rintro e w1' ⟨F1, rfl, h1', hc1', hf1'⟩
          have h1 := hid h1'; have hc1 := hid hc1'; have hf1 := hid hf1'; clear h1' hc1' hf1'
          have hx1 := hc1.out.cell (p := ⟨wr.heap.size, 1, none⟩) hb1 hXF.out
          have hR1 := hid (hR.out.keep hc1.out hd.out.symm)
          go_wp2_with fail
          refine (rU8_any _ _ G (wrap64 (x.n : Int)) _ hR1.out hl140).mono ?_
          rintro e w2' ⟨G1, rfl, h2', hc2', hf2'⟩
          have h2 := hid h2'; have hc2 := hid hc2'; have hf2 := hid hf2'; clear h2' hc2' hf2' hR1 hx1
          obtain ⟨htwo2, hbel2⟩ := Two.step hR.out hd.out hF.out hG.out hB hc1.out h1.out hf1.out hc2.out h2.out hf2.out
          have HBE2 := hid ((HBE.out.alloc hBr (.cells #[.int .i64 x.what, .int .u64 x.n, .slice ab kb cb] 32)).trans hbel2)
          have HTW2 := hid htwo2
          have HLL := hid (show (l' ++ be 1 (u64nat (wrap64 (x.n : Int)))).length ≤ (k + 1) * 1200000 by simp [be_len]; omega)
          clear hW hR hc1 h1 hf1 hc2 h2 hf2 htwo2 hbel2 HTW HBE hd hF hG hFl hGl
          generalize hL : l' ++ be 1 (u64nat (wrap64 (x.n : Int))) = L at *
          clear hL
          obtain ⟨F, G, hW, ⟨ar, mr, cr, hm, hk1, hk2, hk3, hk4⟩, hd, hF, hG, hB⟩ := HTW2.out
          have hcq : w2'.cell? ⟨q, 0, none⟩ = some (.slice ar mr cr) := cell_of_block hk1 rfl
          have hne : ((L.length : Int) != (mr : Int)) = false := by simp; omega
          have hW' := hid hW
          clear hm hk1 hk2 hk3 hk4 hd hF hG hB hW
          go_wp2_with fail
          go_quiet ((go_at_call 22; refine quiet_pure (oLen_any _ _ _ _ (hW'.out.keep (Chg.drewN (Chg.refl [] _) _) (fun _ _ => by simp)))))
          go_wp2_with fail
          go_roundw
          case rel => first | exact ⟨k + 1, L, by omega, by omega, by go_num, HTW2.out.keep ((Chg.refl [] _).drewN _), HBE2.out.trans ((Chg.drewN (Chg.refl [] _) _).below (by simp) HBE2.out.size), HLL.out⟩ | exact ⟨_, ⟨k + 1, L, by omega, by omega, by go_num, HTW2.out.keep ((Chg.refl [] _).drewN _), HBE2.out.trans ((Chg.drewN (Chg.refl [] _) _).below (by simp) HBE2.out.size), HLL.out⟩, rfl⟩
          case measure => simp [intOf]; omega
        · subst hz
          go_wp2_with fail
          refine (oU16_any _ _ F (wrap64 (x.n : Int)) _ hW.out hl140).mono ?_
          rintro e w1' ⟨F1, rfl, h1', hc1', hf1'⟩
          have h1 := hid h1'; have hc1 := hid hc1'; have hf1 := hid hf1'; clear h1' hc1' hf1'
          have hx1 := hc1.out.cell (p := ⟨wr.heap.size, 1, none⟩) hb1 hXF.out
          have hR1 := hid (hR.out.keep hc1.out hd.out.symm)
          go_wp2_with fail
          refine (rU16_any _ _ G (wrap64 (x.n : Int)) _ hR1.out hl140).mono ?_
          rintro e w2' ⟨G1, rfl, h2', hc2', hf2'⟩
          have h2 := hid h2'; have hc2 := hid hc2'; have hf2 := hid hf2'; clear h2' hc2' hf2' hR1 hx1
          obtain ⟨htwo2, hbel2⟩ := Two.step hR.out hd.out hF.out hG.out hB hc1.out h1.out hf1.out hc2.out h2.out hf2.out
          have HBE2 := hid ((HBE.out.alloc hBr (.cells #[.int .i64 x.what, .int .u64 x.n, .slice ab kb cb] 32)).trans hbel2)
          have HTW2 := hid htwo2
          have HLL := hid (show (l' ++ be 2 (u64nat (wrap64 (x.n : Int)))).length ≤ (k + 1) * 1200000 by simp [be_len]; omega)
          clear hW hR hc1 h1 hf1 hc2 h2 hf2 htwo2 hbel2 HTW HBE hd hF hG hFl hGl
          generalize hL : l' ++ be 2 (u64nat (wrap64 (x.n : Int))) = L at *
          clear hL
          obtain ⟨F, G, hW, ⟨ar, mr, cr, hm, hk1, hk2, hk3, hk4⟩, hd, hF, hG, hB⟩ := HTW2.out
          have hcq : w2'.cell? ⟨q, 0, none⟩ = some (.slice ar mr cr) := cell_of_block hk1 rfl
          have hne : ((L.length : Int) != (mr : Int)) = false := by simp; omega
          have hW' := hid hW
          clear hm hk1 hk2 hk3 hk4 hd hF hG hB hW
          go_wp2_with fail
          go_quiet ((go_at_call 22; refine quiet_pure (oLen_any _ _ _ _ (hW'.out.keep (Chg.drewN (Chg.refl [] _) _) (fun _ _ => by simp)))))
          go_wp2_with fail
          go_roundw
          case rel => first | exact ⟨k + 1, L, by omega, by omega, by go_num, HTW2.out.keep ((Chg.refl [] _).drewN _), HBE2.out.trans ((Chg.drewN (Chg.refl [] _) _).below (by simp) HBE2.out.size), HLL.out⟩ | exact ⟨_, ⟨k + 1, L, by omega, by omega, by go_num, HTW2.out.keep ((Chg.refl [] _).drewN _), HBE2.out.trans ((Chg.drewN (Chg.refl [] _) _).below (by simp) HBE2.out.size), HLL.out⟩, rfl⟩
          case measure => simp [intOf]; omega
        · subst hz
          go_wp2_with fail
          refine (oU32_any _ _ F (wrap64 (x.n : Int)) _ hW.out hl140).mono ?_
          rintro e w1' ⟨F1, rfl, h1', hc1', hf1'⟩
          have h1 := hid h1'; have hc1 := hid hc1'; have hf1 := hid hf1'; clear h1' hc1' hf1'
          have hx1 := hc1.out.cell (p := ⟨wr.heap.size, 1, none⟩) hb1 hXF.out
          have hR1 := hid (hR.out.keep hc1.out hd.out.symm)
          go_wp2_with fail
          refine (rU32_any _ _ G (wrap64 (x.n : Int)) _ hR1.out hl140).mono ?_
          rintro e w2' ⟨G1, rfl, h2', hc2', hf2'⟩
          have h2 := hid h2'; have hc2 := hid hc2'; have hf2 := hid hf2'; clear h2' hc2' hf2' hR1 hx1
          obtain ⟨htwo2, hbel2⟩ := Two.step hR.out hd.out hF.out hG.out hB hc1.out h1.out hf1.out hc2.out h2.out hf2.out
          have HBE2 := hid ((HBE.out.alloc hBr (.cells #[.int .i64 x.what, .int .u64 x.n, .slice ab kb cb] 32)).trans hbel2)
          have HTW2 := hid htwo2
          have HLL := hid (show (l' ++ be 4 (u64nat (wrap64 (x.n : Int)))).length ≤ (k + 1) * 1200000 by simp [be_len]; omega)
          clear hW hR hc1 h1 hf1 hc2 h2 hf2 htwo2 hbel2 HTW HBE hd hF hG hFl hGl
          generalize hL : l' ++ be 4 (u64nat (wrap64 (x.n : Int))) = L at *
          clear hL
          obtain ⟨F, G, hW, ⟨ar, mr, cr, hm, hk1, hk2, hk3, hk4⟩, hd, hF, hG, hB⟩ := HTW2.out
          have hcq : w2'.cell? ⟨q, 0, none⟩ = some (.slice ar mr cr) := cell_of_block hk1 rfl
          have hne : ((L.length : Int) != (mr : Int)) = false := by simp; omega
          have hW' := hid hW
          clear hm hk1 hk2 hk3 hk4 hd hF hG hB hW
          go_wp2_with fail
          go_quiet ((go_at_call 22; refine quiet_pure (oLen_any _ _ _ _ (hW'.out.keep (Chg.drewN (Chg.refl [] _) _) (fun _ _ => by simp)))))
          go_wp2_with fail
          go_roundw
          case rel => first | exact ⟨k + 1, L, by omega, by omega, by go_num, HTW2.out.keep ((Chg.refl [] _).drewN _), HBE2.out.trans ((Chg.drewN (Chg.refl [] _) _).below (by simp) HBE2.out.size), HLL.out⟩ | exact ⟨_, ⟨k + 1, L, by omega, by omega, by go_num, HTW2.out.keep ((Chg.refl [] _).drewN _), HBE2.out.trans ((Chg.drewN (Chg.refl [] _) _).below (by simp) HBE2.out.size), HLL.out⟩, rfl⟩
          case measure => simp [intOf]; omega
        · subst hz
          go_wp2_with fail
          refine (oU64_any _ _ F x.n _ hW.out hn64 hl140).mono ?_
          rintro e w1' ⟨F1, rfl, h1', hc1', hf1'⟩
          have h1 := hid h1'; have hc1 := hid hc1'; have hf1 := hid hf1'; clear h1' hc1' hf1'
          have hx1 := hc1.out.cell (p := ⟨wr.heap.size, 1, none⟩) hb1 hXF.out
          have hR1 := hid (hR.out.keep hc1.out hd.out.symm)
          go_wp2_with fail
          refine (rU64_any _ _ G x.n _ hR1.out hn64 hl140).mono ?_
          rintro e w2' ⟨G1, rfl, h2', hc2', hf2'⟩
          have h2 := hid h2'; have hc2 := hid hc2'; have hf2 := hid hf2'; clear h2' hc2' hf2' hR1 hx1
          obtain ⟨htwo2, hbel2⟩ := Two.step hR.out hd.out hF.out hG.out hB hc1.out h1.out hf1.out hc2.out h2.out hf2.out
          have HBE2 := hid ((HBE.out.alloc hBr (.cells #[.int .i64 x.what, .int .u64 x.n, .slice ab kb cb] 32)).trans hbel2)
          have HTW2 := hid htwo2
          have HLL := hid (show (l' ++ be 8 x.n).length ≤ (k + 1) * 1200000 by simp [be_len]; omega)
          clear hW hR hc1 h1 hf1 hc2 h2 hf2 htwo2 hbel2 HTW HBE hd hF hG hFl hGl
          generalize hL : l' ++ be 8 x.n = L at *
          clear hL
          obtain ⟨F, G, hW, ⟨ar, mr, cr, hm, hk1, hk2, hk3, hk4⟩, hd, hF, hG, hB⟩ := HTW2.out
          have hcq : w2'.cell? ⟨q, 0, none⟩ = some (.slice ar mr cr) := cell_of_block hk1 rfl
          have hne : ((L.length : Int) != (mr : Int)) = false := by simp; omega
          have hW' := hid hW
          clear hm hk1 hk2 hk3 hk4 hd hF hG hB hW
          go_wp2_with fail
          go_quiet ((go_at_call 22; refine quiet_pure (oLen_any _ _ _ _ (hW'.out.keep (Chg.drewN (Chg.refl [] _) _) (fun _ _ => by simp)))))
          go_wp2_with fail
          go_roundw
          case rel => first | exact ⟨k + 1, L, by omega, by omega, by go_num, HTW2.out.keep ((Chg.refl [] _).drewN _), HBE2.out.trans ((Chg.drewN (Chg.refl [] _) _).below (by simp) HBE2.out.size), HLL.out⟩ | exact ⟨_, ⟨k + 1, L, by omega, by omega, by go_num, HTW2.out.keep ((Chg.refl [] _).drewN _), HBE2.out.trans ((Chg.drewN (Chg.refl [] _) _).below (by simp) HBE2.out.size), HLL.out⟩, rfl⟩
          case measure => simp [intOf]; omega
        · subst hz
          go_wp2_with fail
          refine (oRaw_any _ _ F _ _ _ x.b _ hW.out (HAB.out _ (Chg.refl _ _)) HNB.out hlr).mono ?_
          rintro e w1' ⟨F1, rfl, h1', hc1', hf1'⟩
          have h1 := hid h1'; have hc1 := hid hc1'; have hf1 := hid hf1'; clear h1' hc1' hf1'
          have hx2 := hc1.out.cell (p := ⟨wr.heap.size, 2, none⟩) hb2 hXF.out
          have hR1 := hid (hR.out.keep hc1.out hd.out.symm)
          go_wp2_with fail
          refine (rRaw_any _ _ G _ _ _ x.b _ hR1.out (HAB.out _ hc1.out) HNB.out hlr).mono ?_
          rintro e w2' ⟨G1, rfl, h2', hc2', hf2'⟩
          have h2 := hid h2'; have hc2 := hid hc2'; have hf2 := hid hf2'; clear h2' hc2' hf2' hR1 hx2
          obtain ⟨htwo2, hbel2⟩ := Two.step hR.out hd.out hF.out hG.out hB hc1.out h1.out hf1.out hc2.out h2.out hf2.out
          have HBE2 := hid ((HBE.out.alloc hBr (.cells #[.int .i64 x.what, .int .u64 x.n, .slice ab kb cb] 32)).trans hbel2)
          have HTW2 := hid htwo2
          have HLL := hid (show (l' ++ x.b).length ≤ (k + 1) * 1200000 by simp [be_len]; omega)
          clear hW hR hc1 h1 hf1 hc2 h2 hf2 htwo2 hbel2 HTW HBE hd hF hG hFl hGl
          generalize hL : l' ++ x.b = L at *
          clear hL
          obtain ⟨F, G, hW, ⟨ar, mr, cr, hm, hk1, hk2, hk3, hk4⟩, hd, hF, hG, hB⟩ := HTW2.out
          have hcq : w2'.cell? ⟨q, 0, none⟩ = some (.slice ar mr cr) := cell_of_block hk1 rfl
          have hne : ((L.length : Int) != (mr : Int)) = false := by simp; omega
          have hW' := hid hW
          clear hm hk1 hk2 hk3 hk4 hd hF hG hB hW
          go_wp2_with fail
          go_quiet ((go_at_call 22; refine quiet_pure (oLen_any _ _ _ _ (hW'.out.keep (Chg.drewN (Chg.refl [] _) _) (fun _ _ => by simp)))))
          go_wp2_with fail
          go_roundw
          case rel => first | exact ⟨k + 1, L, by omega, by omega, by go_num, HTW2.out.keep ((Chg.refl [] _).drewN _), HBE2.out.trans ((Chg.drewN (Chg.refl [] _) _).below (by simp) HBE2.out.size), HLL.out⟩ | exact ⟨_, ⟨k + 1, L, by omega, by omega, by go_num, HTW2.out.keep ((Chg.refl [] _).drewN _), HBE2.out.trans ((Chg.drewN (Chg.refl [] _) _).below (by simp) HBE2.out.size), HLL.out⟩, rfl⟩
          case measure => simp [intOf]; omega
        · subst hz
          have hl6 : l'.length + 65600 ≤ 140737488355328 := by omega
          have HBX := hid (HBE.out.alloc hBr (.cells #[.int .i64 x.what, .int .u64 x.n, .slice ab kb cb] 32))
          have hb0 : (wr.alloc (.cells #[.int .i64 x.what, .int .u64 x.n, .slice ab kb cb] 32)).cell? ⟨wr.heap.size, 0, none⟩ = some (.int .i64 x.what) := cell_of_block (block_new _ _) rfl
          have HAR := hid (fun (w1 : World) (hb : Chg F (wr.alloc (.cells #[.int .i64 x.what, .int .u64 x.n, .slice ab kb cb] 32)) w1) (w2 : World) (hc : Chg G w1 w2) => HRB.out.below ((HBX.out.trans (hb.below hF.out hB)).trans (hc.below hG.out (by have := hb.size; omega))))
          cases long
          · go_wp2_with fail
            by_cases h65 : kb ≤ 65535
            · refine (oShort_any _ _ F _ kb _ x.b _ hW.out (HAB.out _ (Chg.refl _ _)) HNB.out HAB.out h65 hl6).mono ?_
              rintro e w1' ⟨F1, rfl, h1', hc1', hf1'⟩
              have h1 := hid h1'; have hc1 := hid hc1'; have hf1 := hid hf1'; clear h1' hc1' hf1'
              have hR1 := hid (hR.out.keep hc1.out hd.out.symm)
              go_wp2_with fail
              refine (rShort_any _ _ G _ kb _ x.b _ hR1.out (HAB.out _ hc1.out) HNB.out (fun w1 hc => HAR.out _ hc1.out _ hc) h65 hl6).mono ?_
              rintro e w2' ⟨G1, rfl, h2', hc2', hf2'⟩
              have h2 := hid h2'; have hc2 := hid hc2'; have hf2 := hid hf2'; clear h2' hc2' hf2' hR1
              obtain ⟨htwo2, hbel2⟩ := Two.step hR.out hd.out hF.out hG.out hB hc1.out h1.out hf1.out hc2.out h2.out hf2.out
              have HBE2 := hid (HBX.out.trans hbel2)
              have HTW2 := hid htwo2
              have HLL := hid (show (l' ++ be 2 kb ++ x.b).length ≤ (k + 1) * 1200000 by have := (HAB.out _ (Chg.refl _ _)).len; simp [be_len]; omega)
              clear hW hR hc1 h1 hf1 hc2 h2 hf2 htwo2 hbel2 HTW HBE hd hF hG hFl hGl HBX
              generalize hL : l' ++ be 2 kb ++ x.b = L at *
              clear hL
              obtain ⟨F, G, hW, ⟨ar, mr, cr, hm, hk1, hk2, hk3, hk4⟩, hd, hF, hG, hB⟩ := HTW2.out
              have hcq : w2'.cell? ⟨q, 0, none⟩ = some (.slice ar mr cr) := cell_of_block hk1 rfl
              have hne : ((L.length : Int) != (mr : Int)) = false := by simp; omega
              have hW' := hid hW
              clear hm hk1 hk2 hk3 hk4 hd hF hG hB hW
              go_wp2_with fail
              go_quiet ((go_at_call 22; refine quiet_pure (oLen_any _ _ _ _ (hW'.out.keep (Chg.drewN (Chg.refl [] _) _) (fun _ _ => by simp)))))
              go_wp2_with fail
              go_roundw
              case rel =>
                first
                  | exact ⟨k + 1, L, by omega, by omega, by go_num, HTW2.out.keep ((Chg.refl [] _).drewN _), HBE2.out.trans ((Chg.drewN (Chg.refl [] _) _).below (by simp) HBE2.out.size), HLL.out⟩
                  | exact ⟨_, ⟨k + 1, L, by omega, by omega, by go_num, HTW2.out.keep ((Chg.refl [] _).drewN _), HBE2.out.trans ((Chg.drewN (Chg.refl [] _) _).below (by simp) HBE2.out.size), HLL.out⟩, rfl⟩
              case measure => simp [intOf]; omega
            · refine (oShort_long _ kb _ _ _ (by omega)).mono ?_
              rintro e w1' ⟨rfl, rfl⟩
              go_wp2_with fail
              refine (rShort_long _ kb _ _ _ (by omega)).mono ?_
              rintro e w2' ⟨rfl, rfl⟩
              have HTW2 := hid (show Two w.heap.size (wr.alloc (.cells #[.int .i64 x.what, .int .u64 x.n, .slice ab kb cb] 32)) w.heap.size q l' from ⟨F, G, hW.out, hR.out, hd.out, hF.out, hG.out, hB⟩)
              have HBE2 := HBX
              have HLL := hid (show l'.length ≤ (k + 1) * 1200000 from Nat.le_trans hlen (Nat.mul_le_mul_right _ (Nat.le_succ k)))
              clear hW hR HTW HBE hd hF hG hFl hGl HBX
              obtain ⟨F, G, hW, ⟨ar, mr, cr, hm, hk1, hk2, hk3, hk4⟩, hd, hF, hG, hB⟩ := HTW2.out
              have hcq : (wr.alloc (.cells #[.int .i64 x.what, .int .u64 x.n, .slice ab kb cb] 32)).cell? ⟨q, 0, none⟩ = some (.slice ar mr cr) := cell_of_block hk1 rfl
              have hne : ((l'.length : Int) != (mr : Int)) = false := by simp; omega
              have hW' := hid hW
              clear hm hk1 hk2 hk3 hk4 hd hF hG hB hW
              go_wp2_with fail
              go_quiet ((go_at_call 22; refine quiet_pure (oLen_any _ _ _ _ (hW'.out.keep (Chg.drewN (Chg.refl [] _) _) (fun _ _ => by simp)))))
              go_wp2_with fail
              go_roundw
              case rel =>
                first
                  | exact ⟨k + 1, l', by omega, by omega, by go_num, HTW2.out.keep ((Chg.refl [] _).drewN _), HBE2.out.trans ((Chg.drewN (Chg.refl [] _) _).below (by simp) HBE2.out.size), HLL.out⟩
                  | exact ⟨_, ⟨k + 1, l', by omega, by omega, by go_num, HTW2.out.keep ((Chg.refl [] _).drewN _), HBE2.out.trans ((Chg.drewN (Chg.refl [] _) _).below (by simp) HBE2.out.size), HLL.out⟩, rfl⟩
              case measure => simp [intOf]; omega
          · by_cases h5 : k = 5
            · have hk5 : ((k : Int) == 5) = true := by simp; omega
              go_wp2_with fail
              refine (pick_any x.what 12 _ (by omega) (by omega)).mono ?_
              rintro e w0' ⟨rfl, rfl⟩
              have hzlo := pick_lo x.what 12 (by omega)
              have hzhi := pick_hi x.what 12 (by omega)
              generalize pick x.what 12 = y at *
              obtain ⟨M, hM, hM2⟩ : ∃ M : Nat, (65530 : Int) + y = (M : Int) ∧ M ≤ 70000 := ⟨(65530 + y).toNat, by omega, by omega⟩
              have hMk : ∀ u : World, (Instr.makeSlice 27 (.int .i64 (65530 + y)) (.int .i64 (65530 + y))).run Try.prog u = .ok (.slice (some ⟨u.heap.size, 0, none⟩) M M) (u.alloc (.cells (madeCells (Value.int .u8 0).cells (M * 1)) 5)) := fun u => by
                have h := run_make (P := Try.prog) u 27 5 i0 (.int .u8 0) Try.underlying27 hi hz0 .i64 .i64 (65530 + y) (65530 + y) (by omega) (Int.le_refl _) (by rw [hz2]; omega) (by omega)
                rw [hM, Int.toNat_natCast, hz1] at h
                rw [hM]; exact h
              obtain ⟨C, hC⟩ : ∃ C, C = madeCells (Value.int .u8 0).cells (M * 1) := ⟨_, rfl⟩
              rw [← hC] at hMk
              have HCL := hid (show C = ((List.replicate M (0 : UInt8)).map B8).toArray by rw [hC, ← made_bytes])
              clear hC hM
              go_wp2_with fail
              have HBX2 := hid (HBX.out.alloc hB (.cells C 5))
              have hW2 := hid (hW.out.keep (Chg.alloc (Chg.refl [] _) (.cells C 5)) (fun _ _ => by simp))
              have hR2 := hid (hR.out.keep (Chg.alloc (Chg.refl [] _) (.cells C 5)) (fun _ _ => by simp))
              have hB2 : w.heap.size ≤ ((wr.alloc (.cells #[.int .i64 x.what, .int .u64 x.n, .slice ab kb cb] 32)).alloc (.cells C 5)).heap.size := by simp; omega
              have HMR := RdB.new (wr.alloc (.cells #[.int .i64 x.what, .int .u64 x.n, .slice ab kb cb] 32)) (List.replicate M 0) C 5 (0, 0) HCL.out M (by simp) (wr.heap.size + 1) (by simp)
              have HAB2 := hid (fun (w1 : World) (hc : Chg F ((wr.alloc (.cells #[.int .i64 x.what, .int .u64 x.n, .slice ab kb cb] 32)).alloc (.cells C 5)) w1) => hc.rdB HMR (by intro g off sp h hm; cases h; have := hFl.out _ hm; omega))
              have HAR2 := hid (fun (w1 : World) (hb : Chg F ((wr.alloc (.cells #[.int .i64 x.what, .int .u64 x.n, .slice ab kb cb] 32)).alloc (.cells C 5)) w1) (w2 : World) (hc : Chg G w1 w2) => hc.rdB (HAB2.out _ hb) (by intro g off sp h hm; cases h; have := hGl.out _ hm; omega))
              clear HBX hW hR hB HAB HAR HMR hMk
              have HBX := HBX2; have hW := hW2; have hR := hR2; have hB := hB2; have HAB := HAB2; have HAR := HAR2
              clear HBX2 hW2 hR2 hB2 HAB2 HAR2
              by_cases h65 : M ≤ 65535
              · refine (oShort_any _ _ F _ M _ (List.replicate M 0) _ hW.out (HAB.out _ (Chg.refl _ _)) (by simp) HAB.out h65 hl6).mono ?_
                rintro e w1' ⟨F1, rfl, h1', hc1', hf1'⟩
                have h1 := hid h1'; have hc1 := hid hc1'; have hf1 := hid hf1'; clear h1' hc1' hf1'
                have hR1 := hid (hR.out.keep hc1.out hd.out.symm)
                go_wp2_with fail
                refine (rShort_any _ _ G _ M _ (List.replicate M 0) _ hR1.out (HAB.out _ hc1.out) (by simp) (fun w1 hc => HAR.out _ hc1.out _ hc) h65 hl6).mono ?_
                rintro e w2' ⟨G1, rfl, h2', hc2', hf2'⟩
                have h2 := hid h2'; have hc2 := hid hc2'; have hf2 := hid hf2'; clear h2' hc2' hf2' hR1
                obtain ⟨htwo2, hbel2⟩ := Two.step hR.out hd.out hF.out hG.out hB hc1.out h1.out hf1.out hc2.out h2.out hf2.out
                have HBE2 := hid (HBX.out.trans hbel2)
                have HTW2 := hid htwo2
                have HLL := hid (show (l' ++ be 2 M ++ (List.replicate M 0)).length ≤ (k + 1) * 1200000 by have := (HAB.out _ (Chg.refl _ _)).len; simp [be_len]; omega)
                clear hW hR hc1 h1 hf1 hc2 h2 hf2 htwo2 hbel2 HTW HBE hd hF hG hFl hGl HBX
                generalize hL : l' ++ be 2 M ++ (List.replicate M 0) = L at *
                clear hL
                obtain ⟨F, G, hW, ⟨ar, mr, cr, hm, hk1, hk2, hk3, hk4⟩, hd, hF, hG, hB⟩ := HTW2.out
                have hcq : w2'.cell? ⟨q, 0, none⟩ = some (.slice ar mr cr) := cell_of_block hk1 rfl
                have hne : ((L.length : Int) != (mr : Int)) = false := by simp; omega
                have hW' := hid hW
                clear hm hk1 hk2 hk3 hk4 hd hF hG hB hW
                go_wp2_with fail
                go_quiet ((go_at_call 22; refine quiet_pure (oLen_any _ _ _ _ (hW'.out.keep (Chg.drewN (Chg.refl [] _) _) (fun _ _ => by simp)))))
                go_wp2_with fail
                go_roundw
                case rel =>
                  first
                    | exact ⟨k + 1, L, by omega, by omega, by go_num, HTW2.out.keep ((Chg.refl [] _).drewN _), HBE2.out.trans ((Chg.drewN (Chg.refl [] _) _).below (by simp) HBE2.out.size), HLL.out⟩
                    | exact ⟨_, ⟨k + 1, L, by omega, by omega, by go_num, HTW2.out.keep ((Chg.refl [] _).drewN _), HBE2.out.trans ((Chg.drewN (Chg.refl [] _) _).below (by simp) HBE2.out.size), HLL.out⟩, rfl⟩
                case measure => simp [intOf]; omega
              · refine (oShort_long _ M _ _ _ (by omega)).mono ?_
                rintro e w1' ⟨rfl, rfl⟩
                go_wp2_with fail
                refine (rShort_long _ M _ _ _ (by omega)).mono ?_
                rintro e w2' ⟨rfl, rfl⟩
                have HTW2 := hid (show Two w.heap.size ((wr.alloc (.cells #[.int .i64 x.what, .int .u64 x.n, .slice ab kb cb] 32)).alloc (.cells C 5)) w.heap.size q l' from ⟨F, G, hW.out, hR.out, hd.out, hF.out, hG.out, hB⟩)
                have HBE2 := HBX
                have HLL := hid (show l'.length ≤ (k + 1) * 1200000 from Nat.le_trans hlen (Nat.mul_le_mul_right _ (Nat.le_succ k)))
                clear hW hR HTW HBE hd hF hG hFl hGl HBX
                obtain ⟨F, G, hW, ⟨ar, mr, cr, hm, hk1, hk2, hk3, hk4⟩, hd, hF, hG, hB⟩ := HTW2.out
                have hcq : ((wr.alloc (.cells #[.int .i64 x.what, .int .u64 x.n, .slice ab kb cb] 32)).alloc (.cells C 5)).cell? ⟨q, 0, none⟩ = some (.slice ar mr cr) := cell_of_block hk1 rfl
                have hne : ((l'.length : Int) != (mr : Int)) = false := by simp; omega
                have hW' := hid hW
                clear hm hk1 hk2 hk3 hk4 hd hF hG hB hW
                go_wp2_with fail
                go_quiet ((go_at_call 22; refine quiet_pure (oLen_any _ _ _ _ (hW'.out.keep (Chg.drewN (Chg.refl [] _) _) (fun _ _ => by simp)))))
                go_wp2_with fail
                go_roundw
                case rel =>
                  first
                    | exact ⟨k + 1, l', by omega, by omega, by go_num, HTW2.out.keep ((Chg.refl [] _).drewN _), HBE2.out.trans ((Chg.drewN (Chg.refl [] _) _).below (by simp) HBE2.out.size), HLL.out⟩
                    | exact ⟨_, ⟨k + 1, l', by omega, by omega, by go_num, HTW2.out.keep ((Chg.refl [] _).drewN _), HBE2.out.trans ((Chg.drewN (Chg.refl [] _) _).below (by simp) HBE2.out.size), HLL.out⟩, rfl⟩
                case measure => simp [intOf]; omega
            · have hk5 : ((k : Int) == 5) = false := by simp; omega
              go_wp2_with fail
              by_cases h65 : kb ≤ 65535
              · refine (oShort_any _ _ F _ kb _ x.b _ hW.out (HAB.out _ (Chg.refl _ _)) HNB.out HAB.out h65 hl6).mono ?_
                rintro e w1' ⟨F1, rfl, h1', hc1', hf1'⟩
                have h1 := hid h1'; have hc1 := hid hc1'; have hf1 := hid hf1'; clear h1' hc1' hf1'
                have hR1 := hid (hR.out.keep hc1.out hd.out.symm)
                go_wp2_with fail
                refine (rShort_any _ _ G _ kb _ x.b _ hR1.out (HAB.out _ hc1.out) HNB.out (fun w1 hc => HAR.out _ hc1.out _ hc) h65 hl6).mono ?_
                rintro e w2' ⟨G1, rfl, h2', hc2', hf2'⟩
                have h2 := hid h2'; have hc2 := hid hc2'; have hf2 := hid hf2'; clear h2' hc2' hf2' hR1
                obtain ⟨htwo2, hbel2⟩ := Two.step hR.out hd.out hF.out hG.out hB hc1.out h1.out hf1.out hc2.out h2.out hf2.out
                have HBE2 := hid (HBX.out.trans hbel2)
                have HTW2 := hid htwo2
                have HLL := hid (show (l' ++ be 2 kb ++ x.b).length ≤ (k + 1) * 1200000 by have := (HAB.out _ (Chg.refl _ _)).len; simp [be_len]; omega)
                clear hW hR hc1 h1 hf1 hc2 h2 hf2 htwo2 hbel2 HTW HBE hd hF hG hFl hGl HBX
                generalize hL : l' ++ be 2 kb ++ x.b = L at *
                clear hL
                obtain ⟨F, G, hW, ⟨ar, mr, cr, hm, hk1, hk2, hk3, hk4⟩, hd, hF, hG, hB⟩ := HTW2.out
                have hcq : w2'.cell? ⟨q, 0, none⟩ = some (.slice ar mr cr) := cell_of_block hk1 rfl
                have hne : ((L.length : Int) != (mr : Int)) = false := by simp; omega
                have hW' := hid hW
                clear hm hk1 hk2 hk3 hk4 hd hF hG hB hW
                go_wp2_with fail
                go_quiet ((go_at_call 22; refine quiet_pure (oLen_any _ _ _ _ (hW'.out.keep (Chg.drewN (Chg.refl [] _) _) (fun _ _ => by simp)))))
                go_wp2_with fail
                go_roundw
                case rel =>
                  first
                    | exact ⟨k + 1, L, by omega, by omega, by go_num, HTW2.out.keep ((Chg.refl [] _).drewN _), HBE2.out.trans ((Chg.drewN (Chg.refl [] _) _).below (by simp) HBE2.out.size), HLL.out⟩
                    | exact ⟨_, ⟨k + 1, L, by omega, by omega, by go_num, HTW2.out.keep ((Chg.refl [] _).drewN _), HBE2.out.trans ((Chg.drewN (Chg.refl [] _) _).below (by simp) HBE2.out.size), HLL.out⟩, rfl⟩
                case measure => simp [intOf]; omega
              · refine (oShort_long _ kb _ _ _ (by omega)).mono ?_
                rintro e w1' ⟨rfl, rfl⟩
                go_wp2_with fail
                refine (rShort_long _ kb _ _ _ (by omega)).mono ?_
                rintro e w2' ⟨rfl, rfl⟩
                have HTW2 := hid (show Two w.heap.size (wr.alloc (.cells #[.int .i64 x.what, .int .u64 x.n, .slice ab kb cb] 32)) w.heap.size q l' from ⟨F, G, hW.out, hR.out, hd.out, hF.out, hG.out, hB⟩)
                have HBE2 := HBX
                have HLL := hid (show l'.length ≤ (k + 1) * 1200000 from Nat.le_trans hlen (Nat.mul_le_mul_right _ (Nat.le_succ k)))
                clear hW hR HTW HBE hd hF hG hFl hGl HBX
                obtain ⟨F, G, hW, ⟨ar, mr, cr, hm, hk1, hk2, hk3, hk4⟩, hd, hF, hG, hB⟩ := HTW2.out
                have hcq : (wr.alloc (.cells #[.int .i64 x.what, .int .u64 x.n, .slice ab kb cb] 32)).cell? ⟨q, 0, none⟩ = some (.slice ar mr cr) := cell_of_block hk1 rfl
                have hne : ((l'.length : Int) != (mr : Int)) = false := by simp; omega
                have hW' := hid hW
                clear hm hk1 hk2 hk3 hk4 hd hF hG hB hW
                go_wp2_with fail
                go_quiet ((go_at_call 22; refine quiet_pure (oLen_any _ _ _ _ (hW'.out.keep (Chg.drewN (Chg.refl [] _) _) (fun _ _ => by simp)))))
                go_wp2_with fail
                go_roundw
                case rel =>
                  first
                    | exact ⟨k + 1, l', by omega, by omega, by go_num, HTW2.out.keep ((Chg.refl [] _).drewN _), HBE2.out.trans ((Chg.drewN (Chg.refl [] _) _).below (by simp) HBE2.out.size), HLL.out⟩
                    | exact ⟨_, ⟨k + 1, l', by omega, by omega, by go_num, HTW2.out.keep ((Chg.refl [] _).drewN _), HBE2.out.trans ((Chg.drewN (Chg.refl [] _) _).below (by simp) HBE2.out.size), HLL.out⟩, rfl⟩
                case measure => simp [intOf]; omega
      · go_wp2_with fail
        obtain ⟨wo, rfl⟩ : ∃ wo : World, wo = wr := ⟨_, rfl⟩
        obtain ⟨F, G, hW, hR, hd, hF, hG, hB⟩ := HTW.out
        have hll : l'.length ≤ 140737488355328 := by omega
        refine (oBytes_any _ _ F _ hW hll).mono ?_
        rintro e w3 ⟨a', n', c', rfl, ho, hb3⟩
        have HBE3 := hid (HBE.out.trans (hb3.mono HBE.out.size))
        have hbr := HBE.out.size
        have hFl := hid hW.lt
        have hGl := hid hR.lt
        have HW3 := hid (hW.keep (Chg.of_below hb3 []) (fun _ _ => by simp))
        have HR3 := hid (hR.keep (Chg.of_below hb3 []) (fun _ _ => by simp))
        obtain ⟨ar, mr, cr, hm, hk1, hk2, hk3, hk4⟩ := HR3.out
        have hcq : w3.cell? ⟨q, 0, none⟩ = some (.slice ar mr cr) := cell_of_block hk1 rfl
        have hcv1 := fun n => run_bytes_str (P := Try.prog) ((RdB.of_own ho).same (w' := w3.drewN n) (fun _ => rfl)) c' 27 9 5 Try.underlying27 Try.underlying5 Try.underlying9
        have hcv2 := fun n => run_bytes_str (P := Try.prog) ((RdB.of_own hk2).same (w' := w3.drewN n) (fun _ => rfl)) cr 27 9 5 Try.underlying27 Try.underlying5 Try.underlying9
        have HO := hid ho
        have hn' : n' ≤ 140737488355328 := by have := ownB_len ho; omega
        clear ho hb3 hm hk1 hk2 hk3 hk4 hd hF hG hB hW hR HTW HBE
        go_wp2_with fail
        go_quiet (fail)
        go_wp2_with fail
        clear hcv1 hcv2 hcq
        go_loopw [11] (fun x wq => ∃ (k : Nat) (lb : List UInt8), k ≤ n' ∧ x = .int .i64 k ∧ wq.ownsRow wo.heap.size 5 1 (.slice a' n' c') n' (lb.map B8) ∧ Wr 54 wq w.heap.size l' F ∧ Wr 29 wq q l' G ∧ Below w.heap.size w wq) (fun x _ => n' - (intOf x).toNat)
        case atStart => exact ⟨0, l', Nat.zero_le _, rfl, HO.out, HW3.out.keep ((Chg.refl [] _).drewN _) (fun _ _ => by simp), HR3.out.keep ((Chg.refl [] _).drewN _) (fun _ _ => by simp), HBE3.out.trans ((Chg.drewN (Chg.refl [] _) _).below (by simp) HBE3.out.size)⟩
        case round =>
          obtain ⟨j, lb, hj, rfl, ho, hW, hR, hbw⟩ := hrel
          by_cases hlt' : j < n'
          · obtain ⟨g, rfl, hg1, hg2⟩ := (own_slice ho).2.2 (by omega)
            have hcell := ownB_cell ho j hlt'
            have hfz := ho.frozenAt j
            unfold B8 at hcell
            have hxo : bits .xor .u8 ((lb.getD j 0).toNat : Int) 1 = ((lb.getD j 0 ^^^ 1).toNat : Int) := bits_xor8 (lb.getD j 0) 1
            have HS := hid (ownB_set ho j (lb.getD j 0 ^^^ 1))
            have HWj := hid hW; have HRj := hid hR; have HBj := hid hbw
            clear ho hW hR hbw HO HW3 HR3 HBE3
            generalize lb.getD j 0 = y at *
            go_wp2_with fail
            go_roundw
            case rel =>
              have hc := (Chg.refl [g] wr).setCell (p := ⟨g, j, none⟩) (.inl (by simp)) (.int .u8 ((y ^^^ 1).toNat : Int))
              exact ⟨j + 1, _, by omega, by go_num, HS.out, HWj.out.keep hc (fun k h1 h2 => by have := hFl.out k h1; simp at h2; omega), HRj.out.keep hc (fun k h1 h2 => by have := hGl.out k h1; simp at h2; omega), HBj.out.trans (hc.below (by simp; omega) HBj.out.size)⟩
            case measure => simp [intOf]; omega
          · have HWj := hid hW; have HRj := hid hR; have HBj := hid hbw
            obtain ⟨ar, mr, cr, hm, hk1, hk2, hk3, hk4⟩ := hR
            have hcq : wr.cell? ⟨q, 0, none⟩ = some (.slice ar mr cr) := cell_of_block hk1 rfl
            have hcv2 := run_bytes_str (P := Try.prog) ((RdB.of_own hk2).same (w' := wr.drew) (fun _ => rfl)) cr 27 9 5 Try.underlying27 Try.underlying5 Try.underlying9
            have HK1 := hid hk1; have HRB := hid (RdB.of_own hk2)
            clear hm hk1 hk2 hk3 hk4 ho hW hbw
            go_wp2_with fail
            go_region_with (go_at_call 23; refine (oBytes_any _ _ F _ (HWj.out.keep ((Chg.refl [] _).drew) (fun _ _ => by simp)) hll).mono ?_; rintro e w6 ⟨a6, n6, c6, rfl, ho6, hb6⟩; have hcv6 := run_bytes_str (P := Try.prog) (RdB.of_own ho6) c6 27 9 5 Try.underlying27 Try.underlying5 Try.underlying9; have hcq6 : w6.cell? ⟨q, 0, none⟩ = some (.slice ar mr cr) := cell_of_block ((hb6.block q (block_lt HK1.out)).trans HK1.out) rfl; have hcv7 := run_bytes_str (P := Try.prog) (HRB.out.drew.below hb6) cr 27 9 5 Try.underlying27 Try.underlying5 Try.underlying9; have HB6 := hid hb6; clear ho6 hb6)
            all_goals
              go_wp2_with fail
              go_ret
              exact ⟨rfl, HBj.out.drew.trans (HB6.out.mono HBj.out.size)⟩
    · go_wp2_with fail
      obtain ⟨wo, rfl⟩ : ∃ wo : World, wo = wr := ⟨_, rfl⟩
      obtain ⟨F, G, hW, hR, hd, hF, hG, hB⟩ := HTW.out
      have hll : l'.length ≤ 140737488355328 := by omega
      refine (oBytes_any _ _ F _ hW hll).mono ?_
      rintro e w3 ⟨a', n', c', rfl, ho, hb3⟩
      have HBE3 := hid (HBE.out.trans (hb3.mono HBE.out.size))
      have hbr := HBE.out.size
      have hFl := hid hW.lt
      have hGl := hid hR.lt
      have HW3 := hid (hW.keep (Chg.of_below hb3 []) (fun _ _ => by simp))
      have HR3 := hid (hR.keep (Chg.of_below hb3 []) (fun _ _ => by simp))
      obtain ⟨ar, mr, cr, hm, hk1, hk2, hk3, hk4⟩ := HR3.out
      have hcq : w3.cell? ⟨q, 0, none⟩ = some (.slice ar mr cr) := cell_of_block hk1 rfl
      have hcv1 := fun n => run_bytes_str (P := Try.prog) ((RdB.of_own ho).same (w' := w3.drewN n) (fun _ => rfl)) c' 27 9 5 Try.underlying27 Try.underlying5 Try.underlying9
      have hcv2 := fun n => run_bytes_str (P := Try.prog) ((RdB.of_own hk2).same (w' := w3.drewN n) (fun _ => rfl)) cr 27 9 5 Try.underlying27 Try.underlying5 Try.underlying9
      have HO := hid ho
      have hn' : n' ≤ 140737488355328 := by have := ownB_len ho; omega
      clear ho hb3 hm hk1 hk2 hk3 hk4 hd hF hG hB hW hR HTW HBE
      go_wp2_with fail
      go_quiet (fail)
      go_wp2_with fail
      clear hcv1 hcv2 hcq
      go_loopw [11] (fun x wq => ∃ (k : Nat) (lb : List UInt8), k ≤ n' ∧ x = .int .i64 k ∧ wq.ownsRow wo.heap.size 5 1 (.slice a' n' c') n' (lb.map B8) ∧ Wr 54 wq w.heap.size l' F ∧ Wr 29 wq q l' G ∧ Below w.heap.size w wq) (fun x _ => n' - (intOf x).toNat)
      case atStart => exact ⟨0, l', Nat.zero_le _, rfl, HO.out, HW3.out.keep ((Chg.refl [] _).drewN _) (fun _ _ => by simp), HR3.out.keep ((Chg.refl [] _).drewN _) (fun _ _ => by simp), HBE3.out.trans ((Chg.drewN (Chg.refl [] _) _).below (by simp) HBE3.out.size)⟩
      case round =>
        obtain ⟨j, lb, hj, rfl, ho, hW, hR, hbw⟩ := hrel
        by_cases hlt' : j < n'
        · obtain ⟨g, rfl, hg1, hg2⟩ := (own_slice ho).2.2 (by omega)
          have hcell := ownB_cell ho j hlt'
          have hfz := ho.frozenAt j
          unfold B8 at hcell
          have hxo : bits .xor .u8 ((lb.getD j 0).toNat : Int) 1 = ((lb.getD j 0 ^^^ 1).toNat : Int) := bits_xor8 (lb.getD j 0) 1
          have HS := hid (ownB_set ho j (lb.getD j 0 ^^^ 1))
          have HWj := hid hW; have HRj := hid hR; have HBj := hid hbw
          clear ho hW hR hbw HO HW3 HR3 HBE3
          generalize lb.getD j 0 = y at *
          go_wp2_with fail
          go_roundw
          case rel =>
            have hc := (Chg.refl [g] wr).setCell (p := ⟨g, j, none⟩) (.inl (by simp)) (.int .u8 ((y ^^^ 1).toNat : Int))
            exact ⟨j + 1, _, by omega, by go_num, HS.out, HWj.out.keep hc (fun k h1 h2 => by have := hFl.out k h1; simp at h2; omega), HRj.out.keep hc (fun k h1 h2 => by have := hGl.out k h1; simp at h2; omega), HBj.out.trans (hc.below (by simp; omega) HBj.out.size)⟩
          case measure => simp [intOf]; omega
        · have HWj := hid hW; have HRj := hid hR; have HBj := hid hbw
          obtain ⟨ar, mr, cr, hm, hk1, hk2, hk3, hk4⟩ := hR
          have hcq : wr.cell? ⟨q, 0, none⟩ = some (.slice ar mr cr) := cell_of_block hk1 rfl
          have hcv2 := run_bytes_str (P := Try.prog) ((RdB.of_own hk2).same (w' := wr.drew) (fun _ => rfl)) cr 27 9 5 Try.underlying27 Try.underlying5 Try.underlying9
          have HK1 := hid hk1; have HRB := hid (RdB.of_own hk2)
          clear hm hk1 hk2 hk3 hk4 ho hW hbw
          go_wp2_with fail
          go_region_with (go_at_call 23; refine (oBytes_any _ _ F _ (HWj.out.keep ((Chg.refl [] _).drew) (fun _ _ => by simp)) hll).mono ?_; rintro e w6 ⟨a6, n6, c6, rfl, ho6, hb6⟩; have hcv6 := run_bytes_str (P := Try.prog) (RdB.of_own ho6) c6 27 9 5 Try.underlying27 Try.underlying5 Try.underlying9; have hcq6 : w6.cell? ⟨q, 0, none⟩ = some (.slice ar mr cr) := cell_of_block ((hb6.block q (block_lt HK1.out)).trans HK1.out) rfl; have hcv7 := run_bytes_str (P := Try.prog) (HRB.out.drew.below hb6) cr 27 9 5 Try.underlying27 Try.underlying5 Try.underlying9; have HB6 := hid hb6; clear ho6 hb6)
          all_goals
            go_wp2_with fail
            go_ret
            exact ⟨rfl, HBj.out.drew.trans (HB6.out.mono HBj.out.size)⟩
end Go.Proofs.Ytlamooiocmhikaa
