/- object.parts: text, time, date, link, custom, limits. -/
import Derived.Test.YtdlkobmlnpijgaaDoorObjEq
import Derived.Test.YtdlkobmlnpijgaaDoorRdX
namespace Go.Proofs.YtdlkobmlnpijgaaDoor
open Go.RowKit
set_option linter.unusedVariables false
set_option linter.unusedSimpArgs false
set_option maxRecDepth 1000000
set_option maxHeartbeats 3200000
theorem nin1 {p q : Nat} (h : q ≠ p) : q ∉ [p] := by simpa using h
theorem oZrM : (Tryd.prog.info? 33).map (·.zero) = some (some (.agg #[.bool false, .int .i64 0, .int .i64 0, .int .i64 0])) := by kernel_rfl
theorem oneM (h : Bool) (t c u : Int) : (#[.bool h, .int .i64 t, .int .i64 c, .int .i64 u] : Array Value).all (·.oneCell') = true := by simp [Value.oneCell']
theorem ptext_any (p : Nat) (s : PS) (F : List Nat) (w : World) (h : RdS 121 w p s F) :
    Calls Tryd.prog 37 #[.agg #[.pointer (some ⟨p, 0, none⟩)]] w fun e w' => e = .returned (.string (pT s).1) ∧ Chg [p] w w' ∧ RdS 121 w' p (pT s).2 F := by
  have H := hid h
  clear h
  go_enter Tryd.func37, Tryd.ntmps37
  go_upto_region 1 with (fail)
  have hbw : Below w.heap.size w (w.alloc (.cells #[.pointer (some ⟨p, 0, none⟩)] 72)) := (Below.refl _ w).alloc (Nat.le_refl _) _
  have d0 : (w.alloc (.cells #[.pointer (some ⟨p, 0, none⟩)] 72)).cell? ⟨w.heap.size, 0, none⟩ = some (.pointer (some ⟨p, 0, none⟩)) := cell_of_block (j := 0) (block_new w _) rfl
  have H1 := hid (H.out.below hbw)
  have HBW := hid hbw
  clear hbw
  go_wp2_with fail
  refine (soShort_any p s F _ H1.out).mono ?_
  rintro e W2 ⟨a', n', c', rfl, how, hc, hr⟩
  dsimp only
  have HR := hid hr; have HC := hid hc
  have kc := run_bytes_str (P := Tryd.prog) (RdB.of_own how) c' 22 9 5 Tryd.underlying22 Tryd.underlying5 Tryd.underlying9
  clear how hr hc d0
  go_wp2_with fail
  go_ret
  exact ⟨rfl, (Chg.of_below HBW.out [p]).trans HC.out (fun q hq => .inl hq), HR.out⟩
theorem ptime_any (p : Nat) (s : PS) (F : List Nat) (w : World) (h : RdS 121 w p s F) :
    Calls Tryd.prog 85 #[.agg #[.pointer (some ⟨p, 0, none⟩)]] w fun e w' => e = .returned (.int .i64 (pI 8 s).1) ∧ Chg [p] w w' ∧ RdS 121 w' p (pI 8 s).2 F := by
  have H := hid h
  clear h
  go_enter Tryd.func85, Tryd.ntmps85
  go_upto_region 1 with (fail)
  have hbw : Below w.heap.size w (w.alloc (.cells #[.pointer (some ⟨p, 0, none⟩)] 72)) := (Below.refl _ w).alloc (Nat.le_refl _) _
  have d0 : (w.alloc (.cells #[.pointer (some ⟨p, 0, none⟩)] 72)).cell? ⟨w.heap.size, 0, none⟩ = some (.pointer (some ⟨p, 0, none⟩)) := cell_of_block (j := 0) (block_new w _) rfl
  have H1 := hid (H.out.below hbw)
  have HBW := hid hbw
  clear hbw
  go_wp2_with fail
  refine (soU64_any p s F _ H1.out).mono ?_
  rintro e W2 ⟨rfl, hc, hr⟩
  dsimp only
  have HR := hid hr; have HC := hid hc
  clear hr hc d0
  go_wp2_with fail
  go_ret
  refine ⟨?_, (Chg.of_below HBW.out [p]).trans HC.out (fun q hq => .inl hq), HR.out⟩
  show Ending.returned (Value.int .i64 _) = Ending.returned (Value.int .i64 (asInt (num (taken s.1 s.2 8))))
  first | rfl | exact i64_ret' (asInt_eq _)
theorem pdate_any (p : Nat) (s : PS) (F : List Nat) (w : World) (h : RdS 121 w p s F) (hF : ∀ k ∈ F, k < w.heap.size) :
    Calls Tryd.prog 41 #[.agg #[.pointer (some ⟨p, 0, none⟩)]] w fun e w' => e = .returned (.agg #[.bool (dateP false s).1.1, .int .i64 (dateP false s).1.2]) ∧ Chg [p] w w' ∧ RdS 121 w' p (dateP false s).2 F := by
  have H := hid h
  have hp := h.lt
  generalize hbe : w.heap.size = b
  rw [hbe] at hp hF
  have HBE := hid hbe; have HP := hid hp; have HF := hid hF
  clear h hp hF hbe
  go_enter Tryd.func41, Tryd.ntmps41
  go_upto_region 1 with (refine wpList_alloc_obj rfl 27 rfl _ oZrD ?_)
  go_simp
  have h1 : ((w.alloc (.cells #[.pointer (some ⟨p, 0, none⟩)] 72)).alloc (.cells #[.bool false, .int .i64 0] 27)).heap[w.heap.size]? = some (.cells #[.pointer (some ⟨p, 0, none⟩)] 72 (0, 0)) := heap_alloc2_old _ _ _
  have h2 : ((w.alloc (.cells #[.pointer (some ⟨p, 0, none⟩)] 72)).alloc (.cells #[.bool false, .int .i64 0] 27)).heap[w.heap.size + 1]? = some (.cells #[.bool false, .int .i64 0] 27 (0, 0)) := heap_alloc2_new _ _ _
  have h3 : Below w.heap.size w ((w.alloc (.cells #[.pointer (some ⟨p, 0, none⟩)] 72)).alloc (.cells #[.bool false, .int .i64 0] 27)) := ((Below.refl _ _).alloc (Nat.le_refl _) _).alloc (by simp) _
  have h4 : ((w.alloc (.cells #[.pointer (some ⟨p, 0, none⟩)] 72)).alloc (.cells #[.bool false, .int .i64 0] 27)).heap.size = w.heap.size + 2 := by simp
  have H1 := hid (H.out.below h3)
  have HC1 := hid (Chg.of_below h3 [p])
  rw [HBE.out] at h1 h2 h4 ⊢
  generalize ((w.alloc (.cells #[.pointer (some ⟨p, 0, none⟩)] 72)).alloc (.cells #[.bool false, .int .i64 0] 27)) = W at *
  have HV := hid h1; have HRS := hid h2; have HSZ := hid h4
  have NV := hid (nin1 (show b ≠ p by have := HP.out; omega))
  have NR := hid (nin1 (show b + 1 ≠ p by have := HP.out; omega))
  clear h1 h2 h3 h4 H
  have d0 : W.cell? ⟨b, 0, none⟩ = some (.pointer (some ⟨p, 0, none⟩)) := cell_of_block (j := 0) HV.out rfl
  go_wp2_with fail
  clear d0
  refine (soU8_any p s F _ H1.out).mono ?_
  rintro e W2 ⟨rfl, hc, hr⟩
  dsimp only
  have HRX := hid hr; have HC2 := hid (HC1.out.trans hc (fun q hq => .inl hq))
  have HV2 := hid ((hc.block _ (block_lt HV.out) NV.out).trans HV.out)
  have HRS2 := hid ((hc.block _ (block_lt HRS.out) NR.out).trans HRS.out)
  clear hr hc HV HRS HC1 H1
  obtain ⟨kk, hkk⟩ : ∃ k, k = (pI 1 s).1 := ⟨_, rfl⟩
  rw [← hkk]
  have HKK := hid hkk
  clear hkk
  by_cases h0 : kk = 0
  · subst h0
    have HDP : Hid (dateP false s = ((false, 0), (pI 1 s).2)) := by show _ = _; unfold dateP isHas; simp only [← HKK.out]; rfl
    go_wp2_with (refine wpList_store_obj rfl 27 _ _ rfl (b + 1) rfl #[.bool false, .int .i64 0] rfl _ _ HRS2.out rfl oSzD (oneD _ _) ?_; intro w10 hb10 hc10 hs10; have HB10 := hid hb10; have HC10 := hid hc10; clear hb10 hc10 hs10)
    refine bodyPost_ret (results_cell_row rfl _ _ (b + 1) _ _ _ _ rfl HB10.out Tryd.underlying27 rfl oSzD) rfl ?_
    rw [HDP.out]
    exact ⟨rfl, HC2.out.trans HC10.out (fun q hq => by rw [List.mem_singleton.1 hq]; exact .inr (by rw [HBE.out]; omega)), HRX.out.keep HC10.out (fun q hq hm => by have h1 := HF.out q hq; have h2 := List.mem_singleton.1 hm; omega)⟩
  · have hne : (kk == 0) = false := by simp [h0]
    have hdp : dateP false s = ((true, (pI 8 (pI 1 s).2).1), (pI 8 (pI 1 s).2).2) := by
      unfold dateP isHas
      rw [show (pI 1 s).1 = kk from HKK.out.symm, hne]
      rfl
    have HDP := hid hdp
    clear hdp
    have d0 : W2.cell? ⟨b, 0, none⟩ = some (.pointer (some ⟨p, 0, none⟩)) := cell_of_block (j := 0) HV2.out rfl
    go_wp2_with fail
    clear d0
    refine (ptime_any p _ F _ HRX.out).mono ?_
    rintro e W3 ⟨rfl, hc, hr⟩
    dsimp only
    have HR3 := hid hr; have HC3 := hid (HC2.out.trans hc (fun q hq => .inl hq))
    have HRS3 := hid ((hc.block _ (block_lt HRS2.out) NR.out).trans HRS2.out)
    clear hr hc HV2 HRS2 HC2 HRX
    generalize (pI 8 (pI 1 s).2).1 = tv at *
    go_wp2_with (refine wpList_store_obj rfl 27 _ _ rfl (b + 1) rfl #[.bool true, .int .i64 tv] rfl _ _ HRS3.out rfl oSzD (oneD _ _) ?_; intro w10 hb10 hc10 hs10; have HB10 := hid hb10; have HC10 := hid hc10; clear hb10 hc10 hs10)
    refine bodyPost_ret (results_cell_row rfl _ _ (b + 1) _ _ _ _ rfl HB10.out Tryd.underlying27 rfl oSzD) rfl ?_
    rw [HDP.out]
    exact ⟨rfl, HC3.out.trans HC10.out (fun q hq => by rw [List.mem_singleton.1 hq]; exact .inr (by rw [HBE.out]; omega)), HR3.out.keep HC10.out (fun q hq hm => by have h1 := HF.out q hq; have h2 := List.mem_singleton.1 hm; omega)⟩
theorem plink_any (p : Nat) (s : PS) (F : List Nat) (w : World) (h : RdS 121 w p s F) (hF : ∀ k ∈ F, k < w.heap.size) :
    Calls Tryd.prog 44 #[.agg #[.pointer (some ⟨p, 0, none⟩)]] w fun e w' => e = .returned (.agg #[.int .i64 (linkP s).1.1, .string (linkP s).1.2]) ∧ Chg [p] w w' ∧ RdS 121 w' p (linkP s).2 F := by
  have H := hid h
  have hp := h.lt
  generalize hbe : w.heap.size = b
  rw [hbe] at hp hF
  have HBE := hid hbe; have HP := hid hp; have HF := hid hF
  clear h hp hF hbe
  go_enter Tryd.func44, Tryd.ntmps44
  go_upto_region 1 with (refine wpList_alloc_obj rfl 56 rfl _ oZrL ?_)
  go_simp
  have h1 : ((w.alloc (.cells #[.pointer (some ⟨p, 0, none⟩)] 72)).alloc (.cells #[.int .i64 0, .string ⟨#[]⟩] 56)).heap[w.heap.size]? = some (.cells #[.pointer (some ⟨p, 0, none⟩)] 72 (0, 0)) := heap_alloc2_old _ _ _
  have h2 : ((w.alloc (.cells #[.pointer (some ⟨p, 0, none⟩)] 72)).alloc (.cells #[.int .i64 0, .string ⟨#[]⟩] 56)).heap[w.heap.size + 1]? = some (.cells #[.int .i64 0, .string ⟨#[]⟩] 56 (0, 0)) := heap_alloc2_new _ _ _
  have h3 : Below w.heap.size w ((w.alloc (.cells #[.pointer (some ⟨p, 0, none⟩)] 72)).alloc (.cells #[.int .i64 0, .string ⟨#[]⟩] 56)) := ((Below.refl _ _).alloc (Nat.le_refl _) _).alloc (by simp) _
  have h4 : ((w.alloc (.cells #[.pointer (some ⟨p, 0, none⟩)] 72)).alloc (.cells #[.int .i64 0, .string ⟨#[]⟩] 56)).heap.size = w.heap.size + 2 := by simp
  have H1 := hid (H.out.below h3)
  have HC1 := hid (Chg.of_below h3 [p])
  rw [HBE.out] at h1 h2 h4 ⊢
  generalize ((w.alloc (.cells #[.pointer (some ⟨p, 0, none⟩)] 72)).alloc (.cells #[.int .i64 0, .string ⟨#[]⟩] 56)) = W at *
  have HV := hid h1; have HRS := hid h2; have HSZ := hid h4
  have NV := hid (nin1 (show b ≠ p by have := HP.out; omega))
  have NR := hid (nin1 (show b + 1 ≠ p by have := HP.out; omega))
  clear h1 h2 h3 h4 H
  refine wp_region_eachX (m := 6) (Chg [p]) [.eq (.pointer (some ⟨b, 0, none⟩)), .eq (.pointer (some ⟨p, 0, none⟩)), .eq (.int .i64 (pI 1 s).1), .eq (.agg #[.pointer (some ⟨p, 0, none⟩)]), .eq (.string (linkP s).1.2), .eq (.agg #[.int .i64 (linkP s).1.1, .string (linkP s).1.2])] (RdX 121 p F s [(2, (pI 1 s).2), (4, (linkP s).2)]) (by kernel_rfl) (by kernel_rfl) (by kernel_rfl) (by kernel_rfl) (Chg.same1) (by exact (Chg.refl _ _).drew) (by exact RdX.start H1.out _) ?_ ?_
  · all_goals
      refine each_5 ?_ ?_ ?_ ?_ ?_ (each_c ?_ (each_n))
      · intro w1 hg listed up hx Ar seen
        have s1 := seen.sl 1 (.pointer (some ⟨b, 0, none⟩))
        refine doesY_plain rfl fun K Q' hK => ?_
        go_simp; exact hK _ _ (Chg.refl _ _) (hx.same (by kernel_rfl)) rfl
      · intro w1 hg listed up hx Ar seen
        have e0 := seen.de 0 3
        refine doesY_plain rfl fun K Q' hK => ?_
        have hc := cell_of_block (j := 0) ((hg.block _ (block_lt HV.out) NV.out).trans HV.out) rfl
        go_simp; exact hK _ _ (Chg.refl _ _) (hx.same (by kernel_rfl)) rfl
      · intro w1 hg listed up hx Ar seen
        have e1 := seen.de 1 4
        refine doesY_plain rfl fun K Q' hK => ?_
        have hs := hx.at0 rfl up.self
        go_simp
        refine (soU8_any p s F _ hs).mono ?_
        rintro e u ⟨rfl, hc, hr⟩
        exact hK _ _ hc (hx.step 0 rfl up.self (.inl rfl) (by simp) up.lt' hr) rfl
      · intro w1 hg listed up hx Ar seen
        have s1 := seen.sl 1 (.pointer (some ⟨b, 0, none⟩))
        refine doesY_plain rfl fun K Q' hK => ?_
        have hc := cell_of_block (j := 0) ((hg.block _ (block_lt HV.out) NV.out).trans HV.out) rfl
        go_simp; exact hK _ _ (Chg.refl _ _) (hx.same (by kernel_rfl)) rfl
      · intro w1 hg listed up hx Ar seen
        have e3 := seen.de 3 6
        refine doesY_plain rfl fun K Q' hK => ?_
        have hs := hx.at1 0 rfl rfl up.self (up.did 2 (by decide))
        go_simp
        refine (ptext_any p (pI 1 s).2 F _ hs).mono ?_
        rintro e u ⟨rfl, hc, hr⟩
        exact hK _ _ hc (hx.step 1 rfl up.self (.inr ⟨_, rfl, up.did 2 (by decide)⟩) (by simp) up.lt' hr) rfl
      · intro w1 hg listed up hx Ar seen
        have e2 := seen.de 2 5
        have e4 := seen.de 4 7
        refine doesY_plain rfl fun K Q' hK => ?_
        go_simp; exact hK _ _ (Chg.refl _ _) (hx.same (by kernel_rfl)) rfl
  intro w1 hg listed hl hx
  refine upon_w' (js := [0, 1, 2, 3, 4, 5]) (by rfl) ?_
  refine upon_e (some 3) (upon_e (some 4) (upon_e (some 5) (upon_e (some 6) (upon_e (some 7) (upon_e (some 8) (upon_n ?_))))))
  have HS1 := hid (hx.end1 hl (by kernel_rfl) rfl)
  have HRS1 := hid ((hg.block _ (block_lt HRS.out) NR.out).trans HRS.out)
  have HC2 := hid (HC1.out.trans hg (fun q hq => .inl hq))
  clear hg hx hl HV HRS HC1 H1
  go_simp
  go_wp2_with (refine wpList_store_obj rfl 56 _ _ rfl (b + 1) rfl #[.int .i64 (linkP s).1.1, .string (linkP s).1.2] rfl _ _ HRS1.out rfl oSzL (oneL _) ?_; intro w10 hb10 hc10 hs10; have HB10 := hid hb10; have HC10 := hid hc10; clear hb10 hc10 hs10)
  refine bodyPost_ret (results_cell_row rfl _ _ (b + 1) _ _ _ _ rfl HB10.out Tryd.underlying56 rfl oSzL) rfl ?_
  exact ⟨rfl, HC2.out.trans HC10.out (fun q hq => by rw [List.mem_singleton.1 hq]; exact .inr (by rw [HBE.out]; omega)), HS1.out.keep HC10.out (fun q hq hm => by have h1 := HF.out q hq; have h2 := List.mem_singleton.1 hm; omega)⟩
theorem pcustom_any (p : Nat) (s : PS) (F : List Nat) (w : World) (h : RdS 121 w p s F) (hF : ∀ k ∈ F, k < w.heap.size) :
    Calls Tryd.prog 46 #[.agg #[.pointer (some ⟨p, 0, none⟩)]] w fun e w' => e = .returned (.agg #[.string (custP s).1.1, .string (custP s).1.2]) ∧ Chg [p] w w' ∧ RdS 121 w' p (custP s).2 F := by
  have H := hid h
  have hp := h.lt
  generalize hbe : w.heap.size = b
  rw [hbe] at hp hF
  have HBE := hid hbe; have HP := hid hp; have HF := hid hF
  clear h hp hF hbe
  go_enter Tryd.func46, Tryd.ntmps46
  go_upto_region 1 with (refine wpList_alloc_obj rfl 58 rfl _ oZrC ?_)
  go_simp
  have h1 : ((w.alloc (.cells #[.pointer (some ⟨p, 0, none⟩)] 72)).alloc (.cells #[.string ⟨#[]⟩, .string ⟨#[]⟩] 58)).heap[w.heap.size]? = some (.cells #[.pointer (some ⟨p, 0, none⟩)] 72 (0, 0)) := heap_alloc2_old _ _ _
  have h2 : ((w.alloc (.cells #[.pointer (some ⟨p, 0, none⟩)] 72)).alloc (.cells #[.string ⟨#[]⟩, .string ⟨#[]⟩] 58)).heap[w.heap.size + 1]? = some (.cells #[.string ⟨#[]⟩, .string ⟨#[]⟩] 58 (0, 0)) := heap_alloc2_new _ _ _
  have h3 : Below w.heap.size w ((w.alloc (.cells #[.pointer (some ⟨p, 0, none⟩)] 72)).alloc (.cells #[.string ⟨#[]⟩, .string ⟨#[]⟩] 58)) := ((Below.refl _ _).alloc (Nat.le_refl _) _).alloc (by simp) _
  have h4 : ((w.alloc (.cells #[.pointer (some ⟨p, 0, none⟩)] 72)).alloc (.cells #[.string ⟨#[]⟩, .string ⟨#[]⟩] 58)).heap.size = w.heap.size + 2 := by simp
  have H1 := hid (H.out.below h3)
  have HC1 := hid (Chg.of_below h3 [p])
  rw [HBE.out] at h1 h2 h4 ⊢
  generalize ((w.alloc (.cells #[.pointer (some ⟨p, 0, none⟩)] 72)).alloc (.cells #[.string ⟨#[]⟩, .string ⟨#[]⟩] 58)) = W at *
  have HV := hid h1; have HRS := hid h2; have HSZ := hid h4
  have NV := hid (nin1 (show b ≠ p by have := HP.out; omega))
  have NR := hid (nin1 (show b + 1 ≠ p by have := HP.out; omega))
  clear h1 h2 h3 h4 H
  refine wp_region_eachX (m := 5) (Chg [p]) [.eq (.agg #[.pointer (some ⟨p, 0, none⟩)]), .eq (.string (pT s).1), .eq (.agg #[.pointer (some ⟨p, 0, none⟩)]), .eq (.string (custP s).1.2), .eq (.agg #[.string (custP s).1.1, .string (custP s).1.2])] (RdX 121 p F s [(1, (pT s).2), (3, (custP s).2)]) (by kernel_rfl) (by kernel_rfl) (by kernel_rfl) (by kernel_rfl) (Chg.same1) (by exact (Chg.refl _ _).drew) (by exact RdX.start H1.out _) ?_ ?_
  · all_goals
      refine each_5 ?_ ?_ ?_ ?_ ?_ (each_n)
      · intro w1 hg listed up hx Ar seen
        have s1 := seen.sl 1 (.pointer (some ⟨b, 0, none⟩))
        refine doesY_plain rfl fun K Q' hK => ?_
        have hc := cell_of_block (j := 0) ((hg.block _ (block_lt HV.out) NV.out).trans HV.out) rfl
        go_simp; exact hK _ _ (Chg.refl _ _) (hx.same (by kernel_rfl)) rfl
      · intro w1 hg listed up hx Ar seen
        have e0 := seen.de 0 3
        refine doesY_plain rfl fun K Q' hK => ?_
        have hs := hx.at0 rfl up.self
        go_simp
        refine (ptext_any p s F _ hs).mono ?_
        rintro e u ⟨rfl, hc, hr⟩
        exact hK _ _ hc (hx.step 0 rfl up.self (.inl rfl) (by simp) up.lt' hr) rfl
      · intro w1 hg listed up hx Ar seen
        have s1 := seen.sl 1 (.pointer (some ⟨b, 0, none⟩))
        refine doesY_plain rfl fun K Q' hK => ?_
        have hc := cell_of_block (j := 0) ((hg.block _ (block_lt HV.out) NV.out).trans HV.out) rfl
        go_simp; exact hK _ _ (Chg.refl _ _) (hx.same (by kernel_rfl)) rfl
      · intro w1 hg listed up hx Ar seen
        have e2 := seen.de 2 5
        refine doesY_plain rfl fun K Q' hK => ?_
        have hs := hx.at1 0 rfl rfl up.self (up.did 1 (by decide))
        go_simp
        refine (ptext_any p (pT s).2 F _ hs).mono ?_
        rintro e u ⟨rfl, hc, hr⟩
        exact hK _ _ hc (hx.step 1 rfl up.self (.inr ⟨_, rfl, up.did 1 (by decide)⟩) (by simp) up.lt' hr) rfl
      · intro w1 hg listed up hx Ar seen
        have e1 := seen.de 1 4
        have e3 := seen.de 3 6
        refine doesY_plain rfl fun K Q' hK => ?_
        go_simp; exact hK _ _ (Chg.refl _ _) (hx.same (by kernel_rfl)) rfl
  intro w1 hg listed hl hx
  refine upon_w' (js := [0, 1, 2, 3, 4]) (by rfl) ?_
  refine upon_e (some 3) (upon_e (some 4) (upon_e (some 5) (upon_e (some 6) (upon_e (some 7) (upon_n ?_)))))
  have HS1 := hid (hx.end1 hl (by kernel_rfl) rfl)
  have HRS1 := hid ((hg.block _ (block_lt HRS.out) NR.out).trans HRS.out)
  have HC2 := hid (HC1.out.trans hg (fun q hq => .inl hq))
  clear hg hx hl HV HRS HC1 H1
  go_simp
  go_wp2_with (refine wpList_store_obj rfl 58 _ _ rfl (b + 1) rfl #[.string (custP s).1.1, .string (custP s).1.2] rfl _ _ HRS1.out rfl oSzC (oneC _) ?_; intro w10 hb10 hc10 hs10; have HB10 := hid hb10; have HC10 := hid hc10; clear hb10 hc10 hs10)
  refine bodyPost_ret (results_cell_row rfl _ _ (b + 1) _ _ _ _ rfl HB10.out Tryd.underlying58 rfl oSzC) rfl ?_
  exact ⟨rfl, HC2.out.trans HC10.out (fun q hq => by rw [List.mem_singleton.1 hq]; exact .inr (by rw [HBE.out]; omega)), HS1.out.keep HC10.out (fun q hq hm => by have h1 := HF.out q hq; have h2 := List.mem_singleton.1 hm; omega)⟩
theorem plimits_any (p : Nat) (s : PS) (F : List Nat) (w : World) (h : RdS 121 w p s F) (hF : ∀ k ∈ F, k < w.heap.size) :
    Calls Tryd.prog 47 #[.agg #[.pointer (some ⟨p, 0, none⟩)]] w fun e w' => e = .returned (.agg #[.bool (limP false s).1.has, .int .i64 (limP false s).1.total, .int .i64 (limP false s).1.count, .int .i64 (limP false s).1.unit]) ∧ Chg [p] w w' ∧ RdS 121 w' p (limP false s).2 F := by
  have H := hid h
  have hp := h.lt
  generalize hbe : w.heap.size = b
  rw [hbe] at hp hF
  have HBE := hid hbe; have HP := hid hp; have HF := hid hF
  clear h hp hF hbe
  go_enter Tryd.func47, Tryd.ntmps47
  go_upto_region 1 with (refine wpList_alloc_obj rfl 33 rfl _ oZrM ?_)
  go_simp
  have h1 : ((w.alloc (.cells #[.pointer (some ⟨p, 0, none⟩)] 72)).alloc (.cells #[.bool false, .int .i64 0, .int .i64 0, .int .i64 0] 33)).heap[w.heap.size]? = some (.cells #[.pointer (some ⟨p, 0, none⟩)] 72 (0, 0)) := heap_alloc2_old _ _ _
  have h2 : ((w.alloc (.cells #[.pointer (some ⟨p, 0, none⟩)] 72)).alloc (.cells #[.bool false, .int .i64 0, .int .i64 0, .int .i64 0] 33)).heap[w.heap.size + 1]? = some (.cells #[.bool false, .int .i64 0, .int .i64 0, .int .i64 0] 33 (0, 0)) := heap_alloc2_new _ _ _
  have h3 : Below w.heap.size w ((w.alloc (.cells #[.pointer (some ⟨p, 0, none⟩)] 72)).alloc (.cells #[.bool false, .int .i64 0, .int .i64 0, .int .i64 0] 33)) := ((Below.refl _ _).alloc (Nat.le_refl _) _).alloc (by simp) _
  have h4 : ((w.alloc (.cells #[.pointer (some ⟨p, 0, none⟩)] 72)).alloc (.cells #[.bool false, .int .i64 0, .int .i64 0, .int .i64 0] 33)).heap.size = w.heap.size + 2 := by simp
  have H1 := hid (H.out.below h3)
  have HC1 := hid (Chg.of_below h3 [p])
  rw [HBE.out] at h1 h2 h4 ⊢
  generalize ((w.alloc (.cells #[.pointer (some ⟨p, 0, none⟩)] 72)).alloc (.cells #[.bool false, .int .i64 0, .int .i64 0, .int .i64 0] 33)) = W at *
  have HV := hid h1; have HRS := hid h2; have HSZ := hid h4
  have NV := hid (nin1 (show b ≠ p by have := HP.out; omega))
  have NR := hid (nin1 (show b + 1 ≠ p by have := HP.out; omega))
  clear h1 h2 h3 h4 H
  have d0 : W.cell? ⟨b, 0, none⟩ = some (.pointer (some ⟨p, 0, none⟩)) := cell_of_block (j := 0) HV.out rfl
  go_wp2_with fail
  clear d0
  refine (soU8_any p s F _ H1.out).mono ?_
  rintro e W2 ⟨rfl, hc, hr⟩
  dsimp only
  have HRX := hid hr; have HC2 := hid (HC1.out.trans hc (fun q hq => .inl hq))
  have HV2 := hid ((hc.block _ (block_lt HV.out) NV.out).trans HV.out)
  have HRS2 := hid ((hc.block _ (block_lt HRS.out) NR.out).trans HRS.out)
  clear hr hc HV HRS HC1 H1
  obtain ⟨kk, hkk⟩ : ∃ k, k = (pI 1 s).1 := ⟨_, rfl⟩
  rw [← hkk]
  have HKK := hid hkk
  clear hkk
  by_cases h0 : kk = 0
  · subst h0
    have HDP : Hid (limP false s = ({}, (pI 1 s).2)) := by show _ = _; unfold limP isHas; simp only [← HKK.out]; rfl
    go_wp2_with (refine wpList_store_obj rfl 33 _ _ rfl (b + 1) rfl #[.bool false, .int .i64 0, .int .i64 0, .int .i64 0] rfl _ _ HRS2.out rfl oSizeL (oneM _ _ _ _) ?_; intro w10 hb10 hc10 hs10; have HB10 := hid hb10; have HC10 := hid hc10; clear hb10 hc10 hs10)
    refine bodyPost_ret (results_cell_row rfl _ _ (b + 1) _ _ _ _ rfl HB10.out Tryd.underlying33 rfl oSizeL) rfl ?_
    rw [HDP.out]
    exact ⟨rfl, HC2.out.trans HC10.out (fun q hq => by rw [List.mem_singleton.1 hq]; exact .inr (by rw [HBE.out]; omega)), HRX.out.keep HC10.out (fun q hq hm => by have h1 := HF.out q hq; have h2 := List.mem_singleton.1 hm; omega)⟩
  · have hne : (kk == 0) = false := by simp [h0]
    have hdp : limP false s = (⟨true, (pI 8 (pI 1 s).2).1, (pI 8 (pI 8 (pI 1 s).2).2).1, (pI 1 (pI 8 (pI 8 (pI 1 s).2).2).2).1⟩, (pI 1 (pI 8 (pI 8 (pI 1 s).2).2).2).2) := by
      unfold limP isHas
      rw [show (pI 1 s).1 = kk from HKK.out.symm, hne]
      rfl
    have HDP := hid hdp
    clear hdp HKK
    generalize (pI 1 s).2 = s1 at *
    go_upto_region 3 with (fail)
    refine wp_region_eachX (m := 8) (Chg [p]) [.eq (.agg #[.pointer (some ⟨p, 0, none⟩)]), .eq (.int .i64 (pI 8 s1).1), .eq (.agg #[.pointer (some ⟨p, 0, none⟩)]), .eq (.int .i64 (pI 8 (pI 8 s1).2).1), .eq (.pointer (some ⟨b, 0, none⟩)), .eq (.pointer (some ⟨p, 0, none⟩)), .eq (.int .i64 (pI 1 (pI 8 (pI 8 s1).2).2).1), .eq (.agg #[.bool true, .int .i64 (pI 8 s1).1, .int .i64 (pI 8 (pI 8 s1).2).1, .int .i64 (pI 1 (pI 8 (pI 8 s1).2).2).1])] (RdX 121 p F s1 [(1, (pI 8 s1).2), (3, (pI 8 (pI 8 s1).2).2), (6, (pI 1 (pI 8 (pI 8 s1).2).2).2)]) (by kernel_rfl) (by kernel_rfl) (by kernel_rfl) (by kernel_rfl) (Chg.same1) (by exact (Chg.refl _ _).drew) (by exact RdX.start HRX.out _) ?_ ?_
    · all_goals
        refine each_5 ?_ ?_ ?_ ?_ ?_ (each_c ?_ (each_c ?_ (each_c ?_ (each_n))))
        · intro w1 hg listed up hx Ar seen
          have s1 := seen.sl 1 (.pointer (some ⟨b, 0, none⟩))
          refine doesY_plain rfl fun K Q' hK => ?_
          have hc := cell_of_block (j := 0) ((hg.block _ (block_lt HV2.out) NV.out).trans HV2.out) rfl
          go_simp; exact hK _ _ (Chg.refl _ _) (hx.same (by kernel_rfl)) rfl
        · intro w1 hg listed up hx Ar seen
          have e0 := seen.de 0 8
          refine doesY_plain rfl fun K Q' hK => ?_
          have hs := hx.at0 rfl up.self
          go_simp
          refine (ptime_any p s1 F _ hs).mono ?_
          rintro e u ⟨rfl, hc, hr⟩
          exact hK _ _ hc (hx.step 0 rfl up.self (.inl rfl) (by simp) up.lt' hr) rfl
        · intro w1 hg listed up hx Ar seen
          have s1 := seen.sl 1 (.pointer (some ⟨b, 0, none⟩))
          refine doesY_plain rfl fun K Q' hK => ?_
          have hc := cell_of_block (j := 0) ((hg.block _ (block_lt HV2.out) NV.out).trans HV2.out) rfl
          go_simp; exact hK _ _ (Chg.refl _ _) (hx.same (by kernel_rfl)) rfl
        · intro w1 hg listed up hx Ar seen
          have e2 := seen.de 2 10
          refine doesY_plain rfl fun K Q' hK => ?_
          have hs := hx.at1 0 rfl rfl up.self (up.did 1 (by decide))
          go_simp
          refine (ptime_any p (pI 8 s1).2 F _ hs).mono ?_
          rintro e u ⟨rfl, hc, hr⟩
          exact hK _ _ hc (hx.step 1 rfl up.self (.inr ⟨_, rfl, up.did 1 (by decide)⟩) (by simp) up.lt' hr) rfl
        · intro w1 hg listed up hx Ar seen
          have s1 := seen.sl 1 (.pointer (some ⟨b, 0, none⟩))
          refine doesY_plain rfl fun K Q' hK => ?_
          go_simp; exact hK _ _ (Chg.refl _ _) (hx.same (by kernel_rfl)) rfl
        · intro w1 hg listed up hx Ar seen
          have e4 := seen.de 4 12
          refine doesY_plain rfl fun K Q' hK => ?_
          have hc := cell_of_block (j := 0) ((hg.block _ (block_lt HV2.out) NV.out).trans HV2.out) rfl
          go_simp; exact hK _ _ (Chg.refl _ _) (hx.same (by kernel_rfl)) rfl
        · intro w1 hg listed up hx Ar seen
          have e5 := seen.de 5 13
          refine doesY_plain rfl fun K Q' hK => ?_
          have hs := hx.at1 1 rfl rfl up.self (up.did 3 (by decide))
          go_simp
          refine (soU8_any p (pI 8 (pI 8 s1).2).2 F _ hs).mono ?_
          rintro e u ⟨rfl, hc, hr⟩
          exact hK _ _ hc (hx.step 2 rfl up.self (.inr ⟨_, rfl, up.did 3 (by decide)⟩) (by simp) up.lt' hr) rfl
        · intro w1 hg listed up hx Ar seen
          have e1 := seen.de 1 9
          have e3 := seen.de 3 11
          have e6 := seen.de 6 14
          refine doesY_plain rfl fun K Q' hK => ?_
          go_simp; exact hK _ _ (Chg.refl _ _) (hx.same (by kernel_rfl)) rfl
    intro w1 hg listed hl hx
    refine upon_w' (js := [0, 1, 2, 3, 4, 5, 6, 7]) (by rfl) ?_
    refine upon_e (some 8) (upon_e (some 9) (upon_e (some 10) (upon_e (some 11) (upon_e (some 12) (upon_e (some 13) (upon_e (some 14) (upon_e (some 15) (upon_n ?_))))))))
    have HS1 := hid (hx.end1 hl (by kernel_rfl) rfl)
    have HRS1 := hid ((hg.block _ (block_lt HRS2.out) NR.out).trans HRS2.out)
    have HC3 := hid (HC2.out.trans hg (fun q hq => .inl hq))
    clear hg hx hl HV2 HRS2 HC2 HRX
    go_simp
    go_wp2_with (refine wpList_store_obj rfl 33 _ _ rfl (b + 1) rfl #[.bool true, .int .i64 (pI 8 s1).1, .int .i64 (pI 8 (pI 8 s1).2).1, .int .i64 (pI 1 (pI 8 (pI 8 s1).2).2).1] rfl _ _ HRS1.out rfl oSizeL (oneM _ _ _ _) ?_; intro w10 hb10 hc10 hs10; have HB10 := hid hb10; have HC10 := hid hc10; clear hb10 hc10 hs10)
    refine bodyPost_ret (results_cell_row rfl _ _ (b + 1) _ _ _ _ rfl HB10.out Tryd.underlying33 rfl oSizeL) rfl ?_
    rw [HDP.out]
    exact ⟨rfl, HC3.out.trans HC10.out (fun q hq => by rw [List.mem_singleton.1 hq]; exact .inr (by rw [HBE.out]; omega)), HS1.out.keep HC10.out (fun q hq hm => by have h1 := HF.out q hq; have h2 := List.mem_singleton.1 hm; omega)⟩
end Go.Proofs.YtdlkobmlnpijgaaDoor
