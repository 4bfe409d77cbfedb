/- object.Lay: the walk. -/
import Derived.Test.YtdlkobmlnpijgaaDoorObjLay
import Derived.Deep.DeepCutAuto
import Derived.Deep.CutBlock
namespace Go.Proofs.YtdlkobmlnpijgaaDoor
open Go.RowKit
set_option linter.unusedVariables false
set_option linter.unusedSimpArgs false
set_option maxRecDepth 1000000
set_option maxHeartbeats 6400000
def LayRes (O : ObjD) (w : World) (e : Ending) (w' : World) : Prop :=
  Below w.heap.size w w' ∧ ((rightO O = false ∧ e = .returned (.tuple #[.slice none 0 0, .int .i64 1])) ∨ (rightO O = true ∧ ∃ a n c, e = .returned (.tuple #[.slice a n c, .int .i64 0]) ∧ w'.ownsRow w.heap.size 5 1 (.slice a n c) n ((layO O).map B8)))
/-- What sizes a right object has. -/
theorem right_sizes {O : ObjD} (h : rightO O = true) : O.id.size ≤ 120 ∧ O.mat.length ≤ 128 ∧ O.msg.size ≤ 120 ∧ (∀ x ∈ O.names, x.size ≤ 120) ∧ O.names.length ≤ 6 ∧ (∀ x ∈ O.links, x.2.size ≤ 120) ∧ O.links.length ≤ 8 ∧ (∀ x ∈ O.custom, x.1.size ≤ 120 ∧ x.2.size ≤ 120) ∧ O.custom.length ≤ 6 := by
  unfold rightO at h
  simp only [Bool.and_eq_true, inB_iff, allO_iff, decide_eq_true_eq, List.all_eq_true] at h
  obtain ⟨-, -, hid, -, -, -, hmt, -, -, hms, ⟨hn1, hn2, hn3⟩, ⟨hl1, hl2, hl3⟩, ⟨hc1, hc2, hc3⟩, -⟩ := h
  refine ⟨(isT_size hid).2, hmt, ?_, fun x hx => (isT_size (hn1 x hx)).2, hn3, fun x hx => ?_, hl3, fun x hx => ?_, hc3⟩
  · rw [Bool.or_eq_true, decide_eq_true_eq, Bool.and_eq_true] at hms
    rcases hms with h | h
    · omega
    · exact (isT_size h.2).2
  · have h := hl1 x hx
    unfold linkOk at h
    rw [Bool.and_eq_true] at h
    exact (isT_size h.2).2
  · have h := hc1 x hx
    unfold custOk isC at h
    simp only [Bool.and_eq_true] at h
    exact ⟨(isT_size h.1.1).2, (isT_size h.2).2⟩
theorem own_low {w : World} {B B' size n : Nat} {e : TypeId} {v : Value} {xs : List Value} (h : w.ownsRow B e size v n xs) (hb : B' ≤ B) : w.ownsRow B' e size v n xs :=
  ⟨h.1, h.2.imp id (fun ⟨g, cap, cur, hv, hg, r⟩ => ⟨g, cap, cur, hv, Nat.le_trans hb hg, r⟩)⟩
theorem lay10_any (O : ObjD) (s : ObjV) (w : World) (h : ObjM w O s) (hT : UT w) : Calls Tryd.prog 10 #[.agg (objCells O s)] w (LayRes O w) := by
  have hft : ∀ k ∈ s.foot, k < w.heap.size := h.lt
  have HM0 := hid h; have HT0 := hid hT
  have hmf : ∀ (fn : Fn) (first cap : Array Value) (w : World), (Instr.makeFunc fn first cap).run Tryd.prog w = .ok (.func fn first cap) w := fun _ _ _ _ => rfl
  clear h hT
  generalize hbe : w.heap.size = b
  rw [hbe] at hft
  have HFT := hid hft
  have HBE := hid hbe; clear hbe hft
  go_enter Tryd.func10, Tryd.ntmps10
  go_upto_region 1 with (fail)
  have hbw : Below w.heap.size w (w.alloc (.cells (objCells O s) 35)) := (Below.refl _ w).alloc (Nat.le_refl _) _
  have BX := hid (block_new w (.cells (objCells O s) 35))
  have HM := hid (HM0.out.below hbw); have HT := hid (HT0.out.below hbw)
  have HSZ : Hid (b + 1 ≤ (w.alloc (.cells (objCells O s) 35)).heap.size) := by show _ ≤ _; simp [HBE.out]
  rw [HBE.out] at hbw BX ⊢
  have HB := hid hbw
  clear hbw HM0 HT0
  generalize w.alloc (.cells (objCells O s) 35) = W at *
  go_wp2_with (refine wpList_load_row rfl 35 _ rfl b rfl _ _ _ _ BX.out Tryd.underlying35 rfl oSizeO ?_)
  refine (right10_any O s W HM.out HT.out).mono ?_
  rintro e W1 ⟨rfl, hb1⟩
  dsimp only
  have HB1 := hid (HB.out.trans (hb1.mono (by have := HSZ.out; omega)))
  have BX1 := hid ((hb1.block _ (block_lt BX.out)).trans BX.out)
  have HM1 := hid (HM.out.below hb1)
  have HSZ1 : Hid (b + 1 ≤ W1.heap.size) := Nat.le_trans HSZ.out hb1.size
  clear hb1 HB BX HM HSZ HT
  cases hr : rightO O with
  | false =>
    have HR := hid hr
    clear hr
    go_wp2_with fail
    go_ret2
    exact ⟨by rw [HBE.out]; exact HB1.out, .inl ⟨HR.out, rfl⟩⟩
  | true =>
    have HR := hid hr
    clear hr
    go_wp2_with fail
    refine (oNew_any W1).mono ?_
    rintro e W2 ⟨rfl, hw2, hb2, hs2⟩
    dsimp only
    have HW2 := hid hw2
    have HB2 := hid (HB1.out.trans (hb2.mono (by have := HSZ1.out; omega)))
    have BX2 := hid ((hb2.block _ (block_lt BX1.out)).trans BX1.out)
    have HM2 := hid (HM1.out.below hb2)
    have HP : Hid (b < W1.heap.size ∧ W1.heap.size < W2.heap.size) := ⟨by have := HSZ1.out; omega, hs2⟩
    clear hw2 hb2 hs2 HB1 BX1 HM1 HSZ1
    generalize W1.heap.size = p at *
    go_upto_region 5 with fail
    have hbel : Below W2.heap.size W2 (W2.alloc (.cells #[.pointer (some ⟨p, 0, none⟩)] 59)) := (Below.refl _ W2).alloc (Nat.le_refl _) _
    have hst : LaySt 35 59 117 O s w (W2.alloc (.cells #[.pointer (some ⟨p, 0, none⟩)] 59)) b W2.heap.size p [] 0 :=
      ⟨(hbel.block _ (block_lt BX2.out)).trans BX2.out, block_new W2 _, ⟨[p], HW2.out.keep (Chg.of_below hbel []) (fun _ _ hm => by cases hm), fun k hk => by have h1 := List.mem_singleton.1 hk; have h2 := HP.out; omega⟩, HM2.out.below hbel, HFT.out, HB2.out.trans (hbel.mono (by have := HP.out; omega)), by simp⟩
    have S := hid hst
    have RS := hid (right_sizes HR.out)
    clear hbel hst HB2 BX2 HM2 HW2 HFT
    generalize W2.heap.size = pw at *
    generalize W2.alloc (.cells #[.pointer (some ⟨p, 0, none⟩)] 59) = W3 at *
    have d0 := cell_of_block (j := 0) S.out.box (oc0 O s)
    go_wp2_with fail
    clear d0
    obtain ⟨F, hwr, hF⟩ := S.out.wr
    have HF := hid hF
    refine (text1_any O.id pw p _ F 59 _ (by have := RS.out.1; omega) hwr S.out.var (by have := S.out.len; omega)).mono ?_
    rintro e W9 ⟨F', rfl, h1, h2, h3⟩
    dsimp only
    have S' := hid (S.out.write HF.out h1 h2 h3 122 (by rw [List.length_append]; have := S.out.len; have := textB_len (s := O.id) RS.out.1; omega))
    clear hwr hF h1 h2 h3 HF S
    have S := S'
    clear S'
    have dp := cell_of_block (j := 0) S.out.var rfl
    have d1 := cell_of_block (j := 1) S.out.box (oc1 O s)
    go_wp2_with fail
    clear d1 dp
    obtain ⟨F, hwr, hF⟩ := S.out.wr
    have HF := hid hF
    refine (oU8_any p _ F (O.typ) _ hwr (by have := S.out.len; omega)).mono ?_
    rintro e W9 ⟨F', rfl, h1, h2, h3⟩
    dsimp only
    have S' := hid (S.out.write HF.out h1 h2 h3 123 (by rw [List.length_append, be_len]; have := S.out.len; omega))
    clear hwr hF h1 h2 h3 HF S
    have S := S'
    clear S'
    have dp := cell_of_block (j := 0) S.out.var rfl
    have d2 := cell_of_block (j := 2) S.out.box (oc2 O s)
    go_wp2_with fail
    clear d2 dp
    obtain ⟨F, hwr, hF⟩ := S.out.wr
    have HF := hid hF
    refine (oU8_any p _ F (O.alg) _ hwr (by have := S.out.len; omega)).mono ?_
    rintro e W9 ⟨F', rfl, h1, h2, h3⟩
    dsimp only
    have S' := hid (S.out.write HF.out h1 h2 h3 124 (by rw [List.length_append, be_len]; have := S.out.len; omega))
    clear hwr hF h1 h2 h3 HF S
    have S := S'
    clear S'
    have dp := cell_of_block (j := 0) S.out.var rfl
    have d3 := cell_of_block (j := 3) S.out.box (oc3 O s)
    go_wp2_with fail
    clear d3 dp
    obtain ⟨F, hwr, hF⟩ := S.out.wr
    have HF := hid hF
    refine (oU32_any p _ F (O.len) _ hwr (by have := S.out.len; omega)).mono ?_
    rintro e W9 ⟨F', rfl, h1, h2, h3⟩
    dsimp only
    have S' := hid (S.out.write HF.out h1 h2 h3 128 (by rw [List.length_append, be_len]; have := S.out.len; omega))
    clear hwr hF h1 h2 h3 HF S
    have S := S'
    clear S'
    have dp := cell_of_block (j := 0) S.out.var rfl
    have d4 := cell_of_block (j := 4) S.out.box (oc4 O s)
    go_wp2_with fail
    clear d4 dp
    obtain ⟨F, hwr, hF⟩ := S.out.wr
    have HF := hid hF
    refine (oU32_any p _ F (O.mask) _ hwr (by have := S.out.len; omega)).mono ?_
    rintro e W9 ⟨F', rfl, h1, h2, h3⟩
    dsimp only
    have S' := hid (S.out.write HF.out h1 h2 h3 132 (by rw [List.length_append, be_len]; have := S.out.len; omega))
    clear hwr hF h1 h2 h3 HF S
    have S := S'
    clear S'
    have dp := cell_of_block (j := 0) S.out.var rfl
    have d5 := cell_of_block (j := 5) S.out.box (oc5 O s)
    go_wp2_with fail
    clear d5 dp
    obtain ⟨F, hwr, hF⟩ := S.out.wr
    have HF := hid hF
    have hml : O.mat.length = s.mat.n := by have := S.out.m.mat.rd.len; simpa using this
    have h128 : s.mat.n ≤ 128 := by have := RS.out.2.1; omega
    refine (oShort_any p _ F s.mat.a s.mat.n s.mat.c O.mat _ hwr (RdC.toB (by have h := S.out.m.mat.rd; rwa [Nat.mul_one] at h)) S.out.m.mat.no (fun w1 hc => RdC.toB (by have h := (S.out.m.keep hc (fun k hk hm => by have h1 := S.out.foot k hk; have h2 := (hF k hm).1; omega)).mat.rd; rwa [Nat.mul_one] at h)) (by omega) (by have := S.out.len; omega)).mono ?_
    rintro e W9 ⟨F', rfl, h1, h2, h3⟩
    dsimp only
    have S' := hid (S.out.write HF.out h1 h2 h3 262 (by rw [List.length_append, List.length_append, be_len]; have := S.out.len; omega))
    clear hwr hF h1 h2 h3 HF S
    have S := S'
    clear S'
    have dp := cell_of_block (j := 0) S.out.var rfl
    have d6 := cell_of_block (j := 6) S.out.box (oc6 O s)
    go_wp2_with fail
    clear d6 dp
    obtain ⟨F, hwr, hF⟩ := S.out.wr
    have HF := hid hF
    refine (oU8_any p _ F (O.st) _ hwr (by have := S.out.len; omega)).mono ?_
    rintro e W9 ⟨F', rfl, h1, h2, h3⟩
    dsimp only
    have S' := hid (S.out.write HF.out h1 h2 h3 263 (by rw [List.length_append, be_len]; have := S.out.len; omega))
    clear hwr hF h1 h2 h3 HF S
    have S := S'
    clear S'
    obtain ⟨l0, hl0⟩ : ∃ l, l = [] ++ textB O.id ++ be 1 (u64nat O.typ) ++ be 1 (u64nat O.alg) ++ be 4 (u64nat O.len) ++ be 4 (u64nat O.mask) ++ be 2 s.mat.n ++ O.mat ++ be 1 (u64nat O.st) := ⟨_, rfl⟩
    rw [← hl0] at S
    have HL0 := hid hl0
    clear hl0
    have hdt := date_range S.out.box
    go_wp2_with (refine wpList_load_mid rfl 28 _ rfl b 7 rfl (dateL O) _ hdt Tryd.underlying28 rfl oSizeD ?_)
    clear hdt
    go_loopw [49] (fun y wr => ∃ k : Nat, k ≤ 10 ∧ y = .int .i64 k ∧ LaySt 35 59 117 O s w wr b pw p (l0 ++ (O.dates.take k).flatMap dateB) (263 + k * 9)) (fun y _ => 10 - (intOf y).toNat)
    case atStart => exact ⟨0, by omega, rfl, by simpa using S.out⟩
    case round =>
      obtain ⟨k, hk, rfl, hs⟩ := hrel
      clear S
      have S := hid hs
      clear hs
      by_cases hlt : k < 10
      · obtain ⟨hh, tt, hdk⟩ : ∃ hh tt, O.dat k = (hh, tt) := ⟨_, _, rfl⟩
        have hix : ∀ w, (Instr.index 28 (.agg (dateL O).toArray) (.int .i64 (k : Int))).run Tryd.prog w = .ok (.agg #[.bool hh, .int .i64 tt]) w := fun w => by rw [idxDate O w k hlt, hdk]
        have hgk : O.dates[k]? = some (hh, tt) := by
          have h10 := S.out.m.dl
          unfold ObjD.dat at hdk
          rw [List.getD_eq_getElem?_getD, List.getElem?_eq_getElem (by omega), Option.getD_some] at hdk
          rw [List.getElem?_eq_getElem (by omega), hdk]
        have HTK : Hid ((O.dates.take (k + 1)).flatMap dateB = (O.dates.take k).flatMap dateB ++ dateB (hh, tt)) := by show _ = _; rw [List.take_add_one, hgk]; simp
        clear hdk hgk
        go_upto_region 15 with (first | (refine wpList_alloc_obj rfl 27 rfl _ oZrD ?_) | (refine wpList_store_obj rfl 27 _ _ rfl wr.heap.size rfl #[.bool hh, .int .i64 tt] rfl _ _ (block_new wr _) rfl oSzD (oneD _ _) ?_; intro w2 hb2 hc2 hs2; have HB_w2 := hid hb2; have HC_w2 := hid hc2; clear hb2 hc2 hs2))
        have hbel2 : Below wr.heap.size wr w2 := ((Below.refl _ wr).alloc (Nat.le_refl _) _).trans (HC_w2.out.below (fun k hk => by rw [List.mem_singleton.1 hk]; exact Nat.le_refl _) (by simp))
        obtain ⟨F, hwr, hF⟩ := S.out.wr
        have HFL := hid hwr.lt
        have HF := hid hF
        have HW := hid (hwr.keep (Chg.of_below hbel2 []) (fun _ _ hm => by cases hm))
        have S2 := hid (S.out.below hbel2)
        clear hbel2 HC_w2 S hix hwr hF
        obtain ⟨pd, hpd⟩ : ∃ q, q = wr.heap.size := ⟨_, rfl⟩
        rw [← hpd] at HB_w2 HFL ⊢
        clear hpd
        have HPF : Hid (pd ∉ F) := fun hm => by have := HFL.out pd hm; omega
        cases hh with
        | false =>
          refine wp_region_each 4 [.eq (.pointer (some ⟨p, 0, none⟩)), .eq (.pointer (some ⟨pd, 0, none⟩)), .eq (.bool false), .eq (.int .i64 0)] (by kernel_rfl) (by kernel_rfl) (by kernel_rfl) (by kernel_rfl) ?_ ?_
          · all_goals
              refine each_c ?_ (each_c ?_ (each_c ?_ (each_c ?_ (each_n))))
              · intro w1 hg Ar seen
                have s4 := seen.sl 4 (.pointer (some ⟨pw, 0, none⟩))
                refine does_plain rfl fun K Q' hK => ?_
                have hc := cell_of_block (j := 0) ((hg.block _ (block_lt S2.out.var)).trans S2.out.var) rfl
                go_simp; exact hK _ _ (Grow.refl _) rfl
              · intro w1 hg Ar seen
                have s7 := seen.sl 7 (.pointer (some ⟨pd, 0, none⟩))
                refine does_plain rfl fun K Q' hK => ?_
                go_simp; exact hK _ _ (Grow.refl _) rfl
              · intro w1 hg Ar seen
                have e1 := seen.de 1 53
                refine does_plain rfl fun K Q' hK => ?_
                have hc := cell_of_block (j := 0) ((hg.block _ (block_lt HB_w2.out)).trans HB_w2.out) rfl
                go_simp; exact hK _ _ (Grow.refl _) rfl
              · intro w1 hg Ar seen
                have e2 := seen.de 2 54
                refine does_plain rfl fun K Q' hK => ?_
                go_simp
                refine (flag_any false _).mono ?_
                rintro e u ⟨rfl, rfl⟩
                exact hK _ _ (Grow.refl _) rfl
          intro w1 hg
          refine upon_w' (js := [0, 1, 2, 3]) (by rfl) ?_
          refine upon_e (some 52) (upon_e (some 53) (upon_e (some 54) (upon_e (some 55) (upon_n ?_))))
          have HW3 := hid (HW.out.keep (Chg.of_below hg []) (fun _ _ hm => by cases hm))
          have S3 := hid (S2.out.below hg)
          have HD3 := hid ((hg.block _ (block_lt HB_w2.out)).trans HB_w2.out)
          clear hg HW S2 HB_w2
          go_simp
          go_wp2_with fail
          refine (oU8_any p _ F 0 _ HW3.out (by have := S3.out.len; omega)).mono ?_
          rintro e W8 ⟨F', rfl, h1, h2, h3⟩
          dsimp only
          have S4 := hid (S3.out.write HF.out h1 h2 h3 (263 + k * 9 + 1) (by rw [List.length_append, be_len]; have := S3.out.len; omega))
          have HD4 := hid ((h2.block _ (block_lt HD3.out) HPF.out).trans HD3.out)
          have HF4 : Hid (∀ k ∈ F', b < k ∧ k ≠ pw) := fun k hk => by
            rcases h3 k hk with h' | h'
            · exact HF.out k h'
            · have h4 := block_lt S3.out.box; have h5 := block_lt S3.out.var; exact ⟨by omega, by omega⟩
          have HW4 := hid h1
          clear h1 h2 h3 HW3 S3 HD3
          have dd0 := cell_of_block (j := 0) HD4.out (show (#[Value.bool false, .int .i64 tt] : Array Value)[0]? = some (.bool false) from rfl)
          have S5 := S4
          have HE : Hid (l0 ++ (O.dates.take k).flatMap dateB ++ be 1 (u64nat 0) = l0 ++ (O.dates.take (k + 1)).flatMap dateB) := by show _ = _; rw [HTK.out]; simp [dateB, flagN, List.append_assoc]; rfl
          have S6 := hid (show LaySt 35 59 117 O s w _ b pw p (l0 ++ (O.dates.take (k + 1)).flatMap dateB) (263 + (k + 1) * 9) from by
            have h := S5.out
            rw [HE.out] at h
            exact ⟨h.box, h.var, h.wr, h.m, h.foot, h.bel, by have := h.len; omega⟩)
          clear S5 S4 HE HW4 HD4 HF4
          go_wp2_with fail
          go_roundw
          case rel =>
            first
              | exact ⟨k + 1, by omega, by go_num, S6.out⟩
              | ((repeat apply Exists.intro); exact ⟨⟨k + 1, by omega, by go_num, S6.out⟩, rfl⟩)
          case measure => simp [intOf]; omega
        | true =>
          refine wp_region_each 4 [.eq (.pointer (some ⟨p, 0, none⟩)), .eq (.pointer (some ⟨pd, 0, none⟩)), .eq (.bool true), .eq (.int .i64 1)] (by kernel_rfl) (by kernel_rfl) (by kernel_rfl) (by kernel_rfl) ?_ ?_
          · all_goals
              refine each_c ?_ (each_c ?_ (each_c ?_ (each_c ?_ (each_n))))
              · intro w1 hg Ar seen
                have s4 := seen.sl 4 (.pointer (some ⟨pw, 0, none⟩))
                refine does_plain rfl fun K Q' hK => ?_
                have hc := cell_of_block (j := 0) ((hg.block _ (block_lt S2.out.var)).trans S2.out.var) rfl
                go_simp; exact hK _ _ (Grow.refl _) rfl
              · intro w1 hg Ar seen
                have s7 := seen.sl 7 (.pointer (some ⟨pd, 0, none⟩))
                refine does_plain rfl fun K Q' hK => ?_
                go_simp; exact hK _ _ (Grow.refl _) rfl
              · intro w1 hg Ar seen
                have e1 := seen.de 1 53
                refine does_plain rfl fun K Q' hK => ?_
                have hc := cell_of_block (j := 0) ((hg.block _ (block_lt HB_w2.out)).trans HB_w2.out) rfl
                go_simp; exact hK _ _ (Grow.refl _) rfl
              · intro w1 hg Ar seen
                have e2 := seen.de 2 54
                refine does_plain rfl fun K Q' hK => ?_
                go_simp
                refine (flag_any true _).mono ?_
                rintro e u ⟨rfl, rfl⟩
                exact hK _ _ (Grow.refl _) rfl
          intro w1 hg
          refine upon_w' (js := [0, 1, 2, 3]) (by rfl) ?_
          refine upon_e (some 52) (upon_e (some 53) (upon_e (some 54) (upon_e (some 55) (upon_n ?_))))
          have HW3 := hid (HW.out.keep (Chg.of_below hg []) (fun _ _ hm => by cases hm))
          have S3 := hid (S2.out.below hg)
          have HD3 := hid ((hg.block _ (block_lt HB_w2.out)).trans HB_w2.out)
          clear hg HW S2 HB_w2
          go_simp
          go_wp2_with fail
          refine (oU8_any p _ F 1 _ HW3.out (by have := S3.out.len; omega)).mono ?_
          rintro e W8 ⟨F', rfl, h1, h2, h3⟩
          dsimp only
          have S4 := hid (S3.out.write HF.out h1 h2 h3 (263 + k * 9 + 1) (by rw [List.length_append, be_len]; have := S3.out.len; omega))
          have HD4 := hid ((h2.block _ (block_lt HD3.out) HPF.out).trans HD3.out)
          have HF4 : Hid (∀ k ∈ F', b < k ∧ k ≠ pw) := fun k hk => by
            rcases h3 k hk with h' | h'
            · exact HF.out k h'
            · have h4 := block_lt S3.out.box; have h5 := block_lt S3.out.var; exact ⟨by omega, by omega⟩
          have HW4 := hid h1
          clear h1 h2 h3 HW3 S3 HD3
          have dd0 := cell_of_block (j := 0) HD4.out (show (#[Value.bool true, .int .i64 tt] : Array Value)[0]? = some (.bool true) from rfl)
          have dd1 := cell_of_block (j := 1) HD4.out (show (#[Value.bool true, .int .i64 tt] : Array Value)[1]? = some (.int .i64 tt) from rfl)
          have dp := cell_of_block (j := 0) S4.out.var rfl
          go_wp2_with fail
          clear dd0 dd1 dp
          rw [u64nat_eq tt]
          refine (oU64_any p _ F' (u64nat tt) _ HW4.out (u64nat_lt tt) (by have := S4.out.len; omega)).mono ?_
          rintro e W9 ⟨F9, rfl, h1, h2, h3⟩
          dsimp only
          have S5 := hid (S4.out.write HF4.out h1 h2 h3 (263 + k * 9 + 9) (by rw [List.length_append, be_len]; have := S4.out.len; omega))
          have HE : Hid (l0 ++ (O.dates.take k).flatMap dateB ++ be 1 (u64nat 1) ++ be 8 (u64nat tt) = l0 ++ (O.dates.take (k + 1)).flatMap dateB) := by show _ = _; rw [HTK.out]; simp [dateB, flagN, List.append_assoc]; rfl
          clear h1 h2 h3
          have S6 := hid (show LaySt 35 59 117 O s w _ b pw p (l0 ++ (O.dates.take (k + 1)).flatMap dateB) (263 + (k + 1) * 9) from by
            have h := S5.out
            rw [HE.out] at h
            exact ⟨h.box, h.var, h.wr, h.m, h.foot, h.bel, by have := h.len; omega⟩)
          clear S5 S4 HE HW4 HD4 HF4
          go_wp2_with fail
          go_roundw
          case rel =>
            first
              | exact ⟨k + 1, by omega, by go_num, S6.out⟩
              | ((repeat apply Exists.intro); exact ⟨⟨k + 1, by omega, by go_num, S6.out⟩, rfl⟩)
          case measure => simp [intOf]; omega
      · obtain rfl : k = 10 := by omega
        have hd := S.out.m.dl
        have S' := hid (show LaySt 35 59 117 O s w _ b pw p (l0 ++ O.dates.flatMap dateB) (263 + 90) from by
          have h := S.out
          rw [List.take_of_length_le (by rw [hd]; exact Nat.le_refl _)] at h
          exact h)
        clear S hd
        have S := S'
        clear S'
        have dp := cell_of_block (j := 0) S.out.var rfl
        have d27 := cell_of_block (j := 27) S.out.box (oc27 O s)
        go_wp2_with fail
        clear d27 dp
        obtain ⟨F, hwr, hF⟩ := S.out.wr
        have HF := hid hF
        refine (oU8_any p _ F (O.reason) _ hwr (by have := S.out.len; omega)).mono ?_
        rintro e W9 ⟨F', rfl, h1, h2, h3⟩
        dsimp only
        have S' := hid (S.out.write HF.out h1 h2 h3 354 (by rw [List.length_append, be_len]; have := S.out.len; omega))
        clear hwr hF h1 h2 h3 HF S
        have S := S'
        clear S'
        have d28 := cell_of_block (j := 28) S.out.box (oc28 O s)
        go_wp2_with fail
        clear d28
        obtain ⟨F, hwr, hF⟩ := S.out.wr
        have HF := hid hF
        refine (text1_any O.msg pw p _ F 59 _ (by have := RS.out.2.2.1; omega) hwr S.out.var (by have := S.out.len; omega)).mono ?_
        rintro e W9 ⟨F', rfl, h1, h2, h3⟩
        dsimp only
        have S' := hid (S.out.write HF.out h1 h2 h3 476 (by rw [List.length_append]; have := S.out.len; have := textB_len (s := O.msg) RS.out.2.2.1; omega))
        clear hwr hF h1 h2 h3 HF S
        have S := S'
        clear S'
        have dp := cell_of_block (j := 0) S.out.var rfl
        have d29 := cell_of_block (j := 29) S.out.box (oc29 O s)
        go_wp2_with fail
        clear d29 dp
        obtain ⟨F, hwr, hF⟩ := S.out.wr
        have HF := hid hF
        refine (oU8_any p _ F (s.names.n) _ hwr (by have := S.out.len; omega)).mono ?_
        rintro e W9 ⟨F', rfl, h1, h2, h3⟩
        dsimp only
        have S' := hid (S.out.write HF.out h1 h2 h3 477 (by rw [List.length_append, be_len]; have := S.out.len; omega))
        clear hwr hF h1 h2 h3 HF S
        have S := S'
        clear S'
        obtain ⟨l1, hl⟩ : ∃ l, l = l0 ++ O.dates.flatMap dateB ++ be 1 (u64nat (O.reason)) ++ textB O.msg ++ be 1 (u64nat (s.names.n)) := ⟨_, rfl⟩
        rw [← hl] at S
        have Hl1 := hid hl
        clear hl
        have d29 := cell_of_block (j := 29) S.out.box (oc29 O s)
        go_wp2_with fail
        clear d29
        have hnl : O.names.length = s.names.n := by have := S.out.m.names.rd.len; simpa using this
        have HNL := hid hnl
        have N1L := hid hnl
        have hsm : s.names.n ≤ 6 := by rw [← hnl]; exact RS.out.2.2.2.2.1
        have NSA := hid hsm
        clear hnl
        go_loopw [81] (fun y wr => ∃ k : Nat, k ≤ s.names.n ∧ y = .int .i64 k ∧ LaySt 35 59 117 O s w wr b pw p (l1 ++ (O.names.take k).flatMap textB) (477 + k * 122)) (fun y _ => s.names.n - (intOf y).toNat)
        case atStart => exact ⟨0, Nat.zero_le _, rfl, by simpa using S.out⟩
        case round =>
          obtain ⟨k, hk, rfl, hs⟩ := hrel
          clear S
          have S := hid hs
          clear hs
          by_cases hlt : k < s.names.n
          · obtain ⟨b1, o1, x, ha1, hx, hd1⟩ := S.out.m.names.one hlt
            rw [ha1]
            clear ha1
            have HTK : Hid ((O.names.take (k + 1)).flatMap textB = (O.names.take k).flatMap textB ++ textB x) := by show _ = _; rw [List.take_add_one, hx]; simp
            have HXM : Hid (x ∈ O.names) := List.mem_of_getElem? hx
            clear hx
            go_wp2_with fail
            clear hd1
            obtain ⟨F, hwr, hF⟩ := S.out.wr
            have HF := hid hF
            refine (text1_any x pw p _ F 59 _ (by have := (RS.out.2.2.2.1 x HXM.out); omega) hwr S.out.var (by have := S.out.len; omega)).mono ?_
            rintro e W9 ⟨F', rfl, h1, h2, h3⟩
            dsimp only
            have S' := hid (S.out.write HF.out h1 h2 h3 (477 + k * 122 + 122) (by rw [List.length_append]; have := S.out.len; have := textB_len (s := x) (RS.out.2.2.2.1 x HXM.out); omega))
            clear hwr hF h1 h2 h3 HF S
            have S := S'
            clear S'
            have HE : Hid (l1 ++ (O.names.take k).flatMap textB ++ textB x = l1 ++ (O.names.take (k + 1)).flatMap textB) := by show _ = _; rw [HTK.out, List.append_assoc]
            clear HTK HXM
            have S6 := hid (show LaySt 35 59 117 O s w _ b pw p (l1 ++ (O.names.take (k + 1)).flatMap textB) (477 + (k + 1) * 122) from by
              have h := S.out
              rw [HE.out] at h
              exact ⟨h.box, h.var, h.wr, h.m, h.foot, h.bel, by have := h.len; omega⟩)
            clear S HE
            go_wp2_with fail
            go_roundw
            case rel =>
              first
                | exact ⟨k + 1, by omega, by go_num, S6.out⟩
                | ((repeat apply Exists.intro); exact ⟨⟨k + 1, by omega, by go_num, S6.out⟩, rfl⟩)
            case measure => simp [intOf]; omega
          · obtain hkn : k = s.names.n := by omega
            have S' := hid (show LaySt 35 59 117 O s w _ b pw p (l1 ++ O.names.flatMap textB) (477 + 732) from by
              have h := S.out
              rw [List.take_of_length_le (by rw [HNL.out, hkn]; exact Nat.le_refl _)] at h
              exact ⟨h.box, h.var, h.wr, h.m, h.foot, h.bel, by have := h.len; omega⟩)
            subst hkn
            clear S
            have S := S'
            clear S'
            have dp := cell_of_block (j := 0) S.out.var rfl
            have d30 := cell_of_block (j := 30) S.out.box (oc30 O s)
            go_wp2_with fail
            clear d30 dp
            obtain ⟨F, hwr, hF⟩ := S.out.wr
            have HF := hid hF
            refine (oU8_any p _ F (s.links.n) _ hwr (by have := S.out.len; omega)).mono ?_
            rintro e W9 ⟨F', rfl, h1, h2, h3⟩
            dsimp only
            have S' := hid (S.out.write HF.out h1 h2 h3 1210 (by rw [List.length_append, be_len]; have := S.out.len; omega))
            clear hwr hF h1 h2 h3 HF S
            have S := S'
            clear S'
            obtain ⟨l2, hl⟩ : ∃ l, l = l1 ++ O.names.flatMap textB ++ be 1 (u64nat (s.links.n)) := ⟨_, rfl⟩
            rw [← hl] at S
            have Hl2 := hid hl
            clear hl
            have d30 := cell_of_block (j := 30) S.out.box (oc30 O s)
            go_wp2_with fail
            clear d30
            have hnl : O.links.length = s.links.n := by have := S.out.m.links.rd.len; unfold linkCells at this; rw [flat_len] at this; omega
            have HNL := hid hnl
            have N2L := hid hnl
            have hsm : s.links.n ≤ 8 := by rw [← hnl]; exact RS.out.2.2.2.2.2.2.1
            have NSB := hid hsm
            clear hnl
            go_loopw [97] (fun y wr => ∃ k : Nat, k ≤ s.links.n ∧ y = .int .i64 k ∧ LaySt 35 59 117 O s w wr b pw p (l2 ++ (O.links.take k).flatMap linkB) (1210 + k * 123)) (fun y _ => s.links.n - (intOf y).toNat)
            case atStart => exact ⟨0, Nat.zero_le _, rfl, by simpa using S.out⟩
            case round =>
              obtain ⟨k, hk, rfl, hs⟩ := hrel
              clear S
              have S := hid hs
              clear hs
              by_cases hlt : k < s.links.n
              · obtain ⟨b1, o1, x, ha1, hx, hd1⟩ := SlR.pairR S.out.m.links hlt
                rw [ha1]
                clear ha1
                have HTK : Hid ((O.links.take (k + 1)).flatMap linkB = (O.links.take k).flatMap linkB ++ linkB x) := by show _ = _; rw [List.take_add_one, hx]; simp
                have HXM : Hid (x ∈ O.links) := List.mem_of_getElem? hx
                clear hx
                go_upto_region 31 with (first | (refine wpList_load_mid rfl 56 _ rfl b1 _ rfl (#[.int .i64 x.1, .string x.2] : Array Value).toList _ hd1 Tryd.underlying56 rfl oSzL ?_; simp only [Array.toArray_toList]) | (refine wpList_alloc_obj rfl 56 rfl _ oZrL ?_) | (refine wpList_store_obj rfl 56 _ _ rfl wr.heap.size rfl #[.int .i64 x.1, .string x.2] rfl _ _ (block_new wr _) rfl oSzL (oneL _) ?_; intro w2 hb2 hc2 hs2; have HB_w2 := hid hb2; have HC_w2 := hid hc2; clear hb2 hc2 hs2))
                have hbel2 : Below wr.heap.size wr w2 := ((Below.refl _ wr).alloc (Nat.le_refl _) _).trans (HC_w2.out.below (fun k hk => by rw [List.mem_singleton.1 hk]; exact Nat.le_refl _) (by simp))
                obtain ⟨F, hwr, hF⟩ := S.out.wr
                have HFL := hid hwr.lt
                have HF := hid hF
                have HW := hid (hwr.keep (Chg.of_below hbel2 []) (fun _ _ hm => by cases hm))
                have S2 := hid (S.out.below hbel2)
                clear hbel2 HC_w2 S hwr hF hd1
                obtain ⟨pd, hpd⟩ : ∃ q, q = wr.heap.size := ⟨_, rfl⟩
                rw [← hpd] at HB_w2 HFL ⊢
                clear hpd
                have HPF : Hid (pd ∉ F) := fun hm => by have := HFL.out pd hm; omega
                have dd0 := cell_of_block (j := 0) HB_w2.out (show (#[.int .i64 x.1, .string x.2] : Array Value)[0]? = some (.int .i64 x.1) from rfl)
                have dp := cell_of_block (j := 0) S2.out.var rfl
                go_wp2_with fail
                clear dd0 dp
                refine (oU8_any p _ F x.1 _ HW.out (by have := S2.out.len; omega)).mono ?_
                rintro e W8 ⟨F', rfl, h1, h2, h3⟩
                dsimp only
                have S4 := hid (S2.out.write HF.out h1 h2 h3 (1210 + k * 123 + 1) (by rw [List.length_append, be_len]; have := S2.out.len; omega))
                have HD4 := hid ((h2.block _ (block_lt HB_w2.out) HPF.out).trans HB_w2.out)
                have HF4 : Hid (∀ k ∈ F', b < k ∧ k ≠ pw) := fun k hk => by
                  rcases h3 k hk with h' | h'
                  · exact HF.out k h'
                  · have h4 := block_lt S2.out.box; have h5 := block_lt S2.out.var; exact ⟨by omega, by omega⟩
                have HW4 := hid h1
                clear h1 h2 h3 HW S2 HB_w2
                have dd1 := cell_of_block (j := 1) HD4.out (show (#[.int .i64 x.1, .string x.2] : Array Value)[1]? = some (.string x.2) from rfl)
                go_wp2_with fail
                clear dd1
                refine (text1_any x.2 pw p _ F' 59 _ (by have := (RS.out.2.2.2.2.2.1 x HXM.out); omega) HW4.out S4.out.var (by have := S4.out.len; omega)).mono ?_
                rintro e W9 ⟨F9, rfl, h1, h2, h3⟩
                dsimp only
                have S := hid (S4.out.write HF4.out h1 h2 h3 (1210 + k * 123 + 1 + 122) (by rw [List.length_append]; have := S4.out.len; have := textB_len (s := x.2) (RS.out.2.2.2.2.2.1 x HXM.out); omega))
                have HE : Hid (l2 ++ (O.links.take k).flatMap linkB ++ be 1 (u64nat x.1) ++ textB x.2 = l2 ++ (O.links.take (k + 1)).flatMap linkB) := by show _ = _; rw [HTK.out]; unfold linkB; simp only [List.append_assoc]
                clear h1 h2 h3 S4 HW4 HF4 HD4 HF HFL HPF HTK HXM
                have S6 := hid (show LaySt 35 59 117 O s w _ b pw p (l2 ++ (O.links.take (k + 1)).flatMap linkB) (1210 + (k + 1) * 123) from by
                  have h := S.out
                  rw [HE.out] at h
                  exact ⟨h.box, h.var, h.wr, h.m, h.foot, h.bel, by have := h.len; omega⟩)
                clear S HE
                go_wp2_with fail
                go_roundw
                case rel =>
                  first
                    | exact ⟨k + 1, by omega, by go_num, S6.out⟩
                    | ((repeat apply Exists.intro); exact ⟨⟨k + 1, by omega, by go_num, S6.out⟩, rfl⟩)
                case measure => simp [intOf]; omega
              · obtain hkn : k = s.links.n := by omega
                have S' := hid (show LaySt 35 59 117 O s w _ b pw p (l2 ++ O.links.flatMap linkB) (1210 + 984) from by
                  have h := S.out
                  rw [List.take_of_length_le (by rw [HNL.out, hkn]; exact Nat.le_refl _)] at h
                  exact ⟨h.box, h.var, h.wr, h.m, h.foot, h.bel, by have := h.len; omega⟩)
                subst hkn
                clear S
                have S := S'
                clear S'
                have dp := cell_of_block (j := 0) S.out.var rfl
                have d31 := cell_of_block (j := 31) S.out.box (oc31 O s)
                go_wp2_with fail
                clear d31 dp
                obtain ⟨F, hwr, hF⟩ := S.out.wr
                have HF := hid hF
                refine (oU8_any p _ F (s.custom.n) _ hwr (by have := S.out.len; omega)).mono ?_
                rintro e W9 ⟨F', rfl, h1, h2, h3⟩
                dsimp only
                have S' := hid (S.out.write HF.out h1 h2 h3 2195 (by rw [List.length_append, be_len]; have := S.out.len; omega))
                clear hwr hF h1 h2 h3 HF S
                have S := S'
                clear S'
                obtain ⟨l3, hl⟩ : ∃ l, l = l2 ++ O.links.flatMap linkB ++ be 1 (u64nat (s.custom.n)) := ⟨_, rfl⟩
                rw [← hl] at S
                have Hl3 := hid hl
                clear hl
                have d31 := cell_of_block (j := 31) S.out.box (oc31 O s)
                go_wp2_with fail
                clear d31
                have hnl : O.custom.length = s.custom.n := by have := S.out.m.custom.rd.len; unfold custCells at this; rw [flat_len] at this; omega
                have HNL := hid hnl
                have N3L := hid hnl
                have hsm : s.custom.n ≤ 6 := by rw [← hnl]; exact RS.out.2.2.2.2.2.2.2.2
                have NSC := hid hsm
                clear hnl
                go_loopw [118] (fun y wr => ∃ k : Nat, k ≤ s.custom.n ∧ y = .int .i64 k ∧ LaySt 35 59 117 O s w wr b pw p (l3 ++ (O.custom.take k).flatMap custB) (2195 + k * 244)) (fun y _ => s.custom.n - (intOf y).toNat)
                case atStart => exact ⟨0, Nat.zero_le _, rfl, by simpa using S.out⟩
                case round =>
                  obtain ⟨k, hk, rfl, hs⟩ := hrel
                  clear S
                  have S := hid hs
                  clear hs
                  by_cases hlt : k < s.custom.n
                  · obtain ⟨b1, o1, x, ha1, hx, hd1⟩ := SlR.pairR S.out.m.custom hlt
                    rw [ha1]
                    clear ha1
                    have HTK : Hid ((O.custom.take (k + 1)).flatMap custB = (O.custom.take k).flatMap custB ++ custB x) := by show _ = _; rw [List.take_add_one, hx]; simp
                    have HXM : Hid (x ∈ O.custom) := List.mem_of_getElem? hx
                    clear hx
                    go_upto_region 38 with (first | (refine wpList_load_mid rfl 58 _ rfl b1 _ rfl (#[.string x.1, .string x.2] : Array Value).toList _ hd1 Tryd.underlying58 rfl oSzC ?_; simp only [Array.toArray_toList]) | (refine wpList_alloc_obj rfl 58 rfl _ oZrC ?_) | (refine wpList_store_obj rfl 58 _ _ rfl wr.heap.size rfl #[.string x.1, .string x.2] rfl _ _ (block_new wr _) rfl oSzC (oneC _) ?_; intro w2 hb2 hc2 hs2; have HB_w2 := hid hb2; have HC_w2 := hid hc2; clear hb2 hc2 hs2))
                    have hbel2 : Below wr.heap.size wr w2 := ((Below.refl _ wr).alloc (Nat.le_refl _) _).trans (HC_w2.out.below (fun k hk => by rw [List.mem_singleton.1 hk]; exact Nat.le_refl _) (by simp))
                    obtain ⟨F, hwr, hF⟩ := S.out.wr
                    have HFL := hid hwr.lt
                    have HF := hid hF
                    have HW := hid (hwr.keep (Chg.of_below hbel2 []) (fun _ _ hm => by cases hm))
                    have S2 := hid (S.out.below hbel2)
                    clear hbel2 HC_w2 S hwr hF hd1
                    obtain ⟨pd, hpd⟩ : ∃ q, q = wr.heap.size := ⟨_, rfl⟩
                    rw [← hpd] at HB_w2 HFL ⊢
                    clear hpd
                    have HPF : Hid (pd ∉ F) := fun hm => by have := HFL.out pd hm; omega
                    have dd0 := cell_of_block (j := 0) HB_w2.out (show (#[.string x.1, .string x.2] : Array Value)[0]? = some (.string x.1) from rfl)
                    have dp := cell_of_block (j := 0) S2.out.var rfl
                    go_wp2_with fail
                    clear dd0 dp
                    refine (text1_any x.1 pw p _ F 59 _ (by have := (RS.out.2.2.2.2.2.2.2.1 x HXM.out).1; omega) HW.out S2.out.var (by have := S2.out.len; omega)).mono ?_
                    rintro e W8 ⟨F', rfl, h1, h2, h3⟩
                    dsimp only
                    have S4 := hid (S2.out.write HF.out h1 h2 h3 (2195 + k * 244 + 122) (by rw [List.length_append]; have := S2.out.len; have := textB_len (s := x.1) (RS.out.2.2.2.2.2.2.2.1 x HXM.out).1; omega))
                    have HD4 := hid ((h2.block _ (block_lt HB_w2.out) HPF.out).trans HB_w2.out)
                    have HF4 : Hid (∀ k ∈ F', b < k ∧ k ≠ pw) := fun k hk => by
                      rcases h3 k hk with h' | h'
                      · exact HF.out k h'
                      · have h4 := block_lt S2.out.box; have h5 := block_lt S2.out.var; exact ⟨by omega, by omega⟩
                    have HW4 := hid h1
                    clear h1 h2 h3 HW S2 HB_w2
                    have dd1 := cell_of_block (j := 1) HD4.out (show (#[.string x.1, .string x.2] : Array Value)[1]? = some (.string x.2) from rfl)
                    go_wp2_with fail
                    clear dd1
                    refine (text1_any x.2 pw p _ F' 59 _ (by have := (RS.out.2.2.2.2.2.2.2.1 x HXM.out).2; omega) HW4.out S4.out.var (by have := S4.out.len; omega)).mono ?_
                    rintro e W9 ⟨F9, rfl, h1, h2, h3⟩
                    dsimp only
                    have S := hid (S4.out.write HF4.out h1 h2 h3 (2195 + k * 244 + 122 + 122) (by rw [List.length_append]; have := S4.out.len; have := textB_len (s := x.2) (RS.out.2.2.2.2.2.2.2.1 x HXM.out).2; omega))
                    have HE : Hid (l3 ++ (O.custom.take k).flatMap custB ++ textB x.1 ++ textB x.2 = l3 ++ (O.custom.take (k + 1)).flatMap custB) := by show _ = _; rw [HTK.out]; unfold custB; simp only [List.append_assoc]
                    clear h1 h2 h3 S4 HW4 HF4 HD4 HF HFL HPF HTK HXM
                    have S6 := hid (show LaySt 35 59 117 O s w _ b pw p (l3 ++ (O.custom.take (k + 1)).flatMap custB) (2195 + (k + 1) * 244) from by
                      have h := S.out
                      rw [HE.out] at h
                      exact ⟨h.box, h.var, h.wr, h.m, h.foot, h.bel, by have := h.len; omega⟩)
                    clear S HE
                    go_wp2_with fail
                    go_roundw
                    case rel =>
                      first
                        | exact ⟨k + 1, by omega, by go_num, S6.out⟩
                        | ((repeat apply Exists.intro); exact ⟨⟨k + 1, by omega, by go_num, S6.out⟩, rfl⟩)
                    case measure => simp [intOf]; omega
                  · obtain hkn : k = s.custom.n := by omega
                    have S' := hid (show LaySt 35 59 117 O s w _ b pw p (l3 ++ O.custom.flatMap custB) (2195 + 1464) from by
                      have h := S.out
                      rw [List.take_of_length_le (by rw [HNL.out, hkn]; exact Nat.le_refl _)] at h
                      exact ⟨h.box, h.var, h.wr, h.m, h.foot, h.bel, by have := h.len; omega⟩)
                    subst hkn
                    clear S
                    have S := S'
                    clear S'
                    go_upto_region 41 with (fail)
                    obtain ⟨lh, hlh⟩ : ∃ q, q = O.limHas := ⟨_, rfl⟩
                    have HLH := hid hlh
                    clear hlh
                    cases lh with
                    | false =>
                      have HBX := hid S.out.box
                      have HVX := hid S.out.var
                      refine wp_region_each 5 [.eq (.pointer (some ⟨p, 0, none⟩)), .eq (.pointer (some ⟨b, 32, none⟩)), .eq (.pointer (some ⟨b, 32, none⟩)), .eq (.bool (false)), .eq (.int .i64 (flagN (false) : Int))] (by kernel_rfl) (by kernel_rfl) (by kernel_rfl) (by kernel_rfl) ?_ ?_
                      · all_goals
                          refine each_5 ?_ ?_ ?_ ?_ ?_ (each_n)
                          · intro w1 hg Ar seen
                            have s4 := seen.sl 4 (.pointer (some ⟨pw, 0, none⟩))
                            refine does_plain rfl fun K Q' hK => ?_
                            have hc := cell_of_block (j := 0) ((hg.block _ (block_lt HVX.out)).trans HVX.out) rfl
                            go_simp; exact hK _ _ (Grow.refl _) rfl
                          · intro w1 hg Ar seen
                            have s1 := seen.sl 1 (.pointer (some ⟨b, 0, none⟩))
                            refine does_plain rfl fun K Q' hK => ?_
                            go_simp; exact hK _ _ (Grow.refl _) rfl
                          · intro w1 hg Ar seen
                            have e1 := seen.de 1 132
                            refine does_plain rfl fun K Q' hK => ?_
                            go_simp; exact hK _ _ (Grow.refl _) rfl
                          · intro w1 hg Ar seen
                            have e2 := seen.de 2 133
                            refine does_plain rfl fun K Q' hK => ?_
                            have hc := (show w1.cell? ⟨b, 32, none⟩ = some (.bool false) from by have h := cell_of_block (j := 32) ((hg.block _ (block_lt HBX.out)).trans HBX.out) (oc32 O s); rwa [← HLH.out] at h)
                            go_simp; exact hK _ _ (Grow.refl _) rfl
                          · intro w1 hg Ar seen
                            have e3 := seen.de 3 134
                            refine does_plain rfl fun K Q' hK => ?_
                            go_simp
                            refine (flag_any (false) _).mono ?_
                            rintro e u ⟨rfl, rfl⟩
                            exact hK _ _ (Grow.refl _) rfl
                      intro w1 hg
                      refine upon_w' (js := [0, 1, 2, 3, 4]) (by rfl) ?_
                      refine upon_e (some 131) (upon_e (some 132) (upon_e (some 133) (upon_e (some 134) (upon_e (some 135) (upon_n ?_)))))
                      have S' := hid (S.out.below hg)
                      clear hg S HBX HVX
                      have S := S'
                      clear S'
                      go_simp
                      go_wp2_with fail
                      obtain ⟨F, hwr, hF⟩ := S.out.wr
                      have HF := hid hF
                      refine (oU8_any p _ F (flagN (false) : Int) _ hwr (by have := S.out.len; omega)).mono ?_
                      rintro e W9 ⟨F', rfl, h1, h2, h3⟩
                      dsimp only
                      have S' := hid (S.out.write HF.out h1 h2 h3 3660 (by rw [List.length_append, be_len]; have := S.out.len; omega))
                      clear hwr hF h1 h2 h3 HF S
                      have S := S'
                      clear S'
                      have dh : W9.cell? ⟨b, 32, none⟩ = some (.bool false) := by have h := cell_of_block (j := 32) S.out.box (oc32 O s); rwa [← HLH.out] at h
                      go_upto_region 46 with (fail)
                      clear dh
                      have HBX := hid S.out.box
                      have HVX := hid S.out.var
                      refine wp_region_each 4 [.eq (.pointer (some ⟨p, 0, none⟩)), .eq (.pointer (some ⟨b, 36, none⟩)), .eq (.bool (O.arch)), .eq (.int .i64 (flagN (O.arch) : Int))] (by kernel_rfl) (by kernel_rfl) (by kernel_rfl) (by kernel_rfl) ?_ ?_
                      · all_goals
                          refine each_c ?_ (each_c ?_ (each_c ?_ (each_c ?_ (each_n))))
                          · intro w1 hg Ar seen
                            have s4 := seen.sl 4 (.pointer (some ⟨pw, 0, none⟩))
                            refine does_plain rfl fun K Q' hK => ?_
                            have hc := cell_of_block (j := 0) ((hg.block _ (block_lt HVX.out)).trans HVX.out) rfl
                            go_simp; exact hK _ _ (Grow.refl _) rfl
                          · intro w1 hg Ar seen
                            have s1 := seen.sl 1 (.pointer (some ⟨b, 0, none⟩))
                            refine does_plain rfl fun K Q' hK => ?_
                            go_simp; exact hK _ _ (Grow.refl _) rfl
                          · intro w1 hg Ar seen
                            have e1 := seen.de 1 158
                            refine does_plain rfl fun K Q' hK => ?_
                            have hc := cell_of_block (j := 36) ((hg.block _ (block_lt HBX.out)).trans HBX.out) (oc36 O s)
                            go_simp; exact hK _ _ (Grow.refl _) rfl
                          · intro w1 hg Ar seen
                            have e2 := seen.de 2 159
                            refine does_plain rfl fun K Q' hK => ?_
                            go_simp
                            refine (flag_any (O.arch) _).mono ?_
                            rintro e u ⟨rfl, rfl⟩
                            exact hK _ _ (Grow.refl _) rfl
                      intro w1 hg
                      refine upon_w' (js := [0, 1, 2, 3]) (by rfl) ?_
                      refine upon_e (some 157) (upon_e (some 158) (upon_e (some 159) (upon_e (some 160) (upon_n ?_))))
                      have S' := hid (S.out.below hg)
                      clear hg S HBX HVX
                      have S := S'
                      clear S'
                      go_simp
                      go_wp2_with fail
                      obtain ⟨F, hwr, hF⟩ := S.out.wr
                      have HF := hid hF
                      refine (oU8_any p _ F (flagN (O.arch) : Int) _ hwr (by have := S.out.len; omega)).mono ?_
                      rintro e W9 ⟨F', rfl, h1, h2, h3⟩
                      dsimp only
                      have S' := hid (S.out.write HF.out h1 h2 h3 3661 (by rw [List.length_append, be_len]; have := S.out.len; omega))
                      clear hwr hF h1 h2 h3 HF S
                      have S := S'
                      clear S'
                      have dp := cell_of_block (j := 0) S.out.var rfl
                      go_wp2_with fail
                      clear dp
                      obtain ⟨F, hwr, hF⟩ := S.out.wr
                      refine (oBytes_any p _ F _ hwr (by have := S.out.len; omega)).mono ?_
                      rintro e W7 ⟨a', n', c', rfl, how, hb7⟩
                      dsimp only
                      have hfin : l3 ++ O.custom.flatMap custB ++ be 1 (u64nat (flagN false : Int)) ++ be 1 (u64nat (flagN O.arch : Int)) = layO O := by
                        have hm0 : O.mat.length = s.mat.n := by have := S.out.m.mat.rd.len; simpa using this
                        have q1 : u64nat (s.names.n : Int) = O.names.length := by rw [u64nat_nat _ (by omega), N1L.out]
                        have q2 : u64nat (s.links.n : Int) = O.links.length := by rw [u64nat_nat _ (by omega), N2L.out]
                        have q3 : u64nat (s.custom.n : Int) = O.custom.length := by rw [u64nat_nat _ (by omega), N3L.out]
                        have q4 : ∀ q : Bool, u64nat (flagN q : Int) = flagN q := fun q => by cases q <;> rfl
                        rw [Hl3.out, Hl2.out, Hl1.out, HL0.out]
                        unfold layO limB
                        rw [← HLH.out, q1, q2, q3, q4, q4, show shortB O.mat = be 2 s.mat.n ++ O.mat by unfold shortB; rw [hm0]]
                        simp [List.append_assoc]
                      have HOW := hid how; have HB7 := hid hb7
                      have HWB := hid S.out.bel
                      have HSB : Hid (b ≤ W9.heap.size) := Nat.le_of_lt (block_lt S.out.box)
                      have HFI := hid hfin
                      clear how hb7 hfin hwr hF S
                      go_wp2_with fail
                      go_ret2
                      exact ⟨by rw [HBE.out]; exact HWB.out.trans (HB7.out.mono HSB.out), .inr ⟨HR.out, _, _, _, rfl, by rw [HBE.out, ← HFI.out]; exact own_low HOW.out HSB.out⟩⟩
                    | true =>
                      have HBX := hid S.out.box
                      have HVX := hid S.out.var
                      refine wp_region_each 5 [.eq (.pointer (some ⟨p, 0, none⟩)), .eq (.pointer (some ⟨b, 32, none⟩)), .eq (.pointer (some ⟨b, 32, none⟩)), .eq (.bool (true)), .eq (.int .i64 (flagN (true) : Int))] (by kernel_rfl) (by kernel_rfl) (by kernel_rfl) (by kernel_rfl) ?_ ?_
                      · all_goals
                          refine each_5 ?_ ?_ ?_ ?_ ?_ (each_n)
                          · intro w1 hg Ar seen
                            have s4 := seen.sl 4 (.pointer (some ⟨pw, 0, none⟩))
                            refine does_plain rfl fun K Q' hK => ?_
                            have hc := cell_of_block (j := 0) ((hg.block _ (block_lt HVX.out)).trans HVX.out) rfl
                            go_simp; exact hK _ _ (Grow.refl _) rfl
                          · intro w1 hg Ar seen
                            have s1 := seen.sl 1 (.pointer (some ⟨b, 0, none⟩))
                            refine does_plain rfl fun K Q' hK => ?_
                            go_simp; exact hK _ _ (Grow.refl _) rfl
                          · intro w1 hg Ar seen
                            have e1 := seen.de 1 132
                            refine does_plain rfl fun K Q' hK => ?_
                            go_simp; exact hK _ _ (Grow.refl _) rfl
                          · intro w1 hg Ar seen
                            have e2 := seen.de 2 133
                            refine does_plain rfl fun K Q' hK => ?_
                            have hc := (show w1.cell? ⟨b, 32, none⟩ = some (.bool true) from by have h := cell_of_block (j := 32) ((hg.block _ (block_lt HBX.out)).trans HBX.out) (oc32 O s); rwa [← HLH.out] at h)
                            go_simp; exact hK _ _ (Grow.refl _) rfl
                          · intro w1 hg Ar seen
                            have e3 := seen.de 3 134
                            refine does_plain rfl fun K Q' hK => ?_
                            go_simp
                            refine (flag_any (true) _).mono ?_
                            rintro e u ⟨rfl, rfl⟩
                            exact hK _ _ (Grow.refl _) rfl
                      intro w1 hg
                      refine upon_w' (js := [0, 1, 2, 3, 4]) (by rfl) ?_
                      refine upon_e (some 131) (upon_e (some 132) (upon_e (some 133) (upon_e (some 134) (upon_e (some 135) (upon_n ?_)))))
                      have S' := hid (S.out.below hg)
                      clear hg S HBX HVX
                      have S := S'
                      clear S'
                      go_simp
                      go_wp2_with fail
                      obtain ⟨F, hwr, hF⟩ := S.out.wr
                      have HF := hid hF
                      refine (oU8_any p _ F (flagN (true) : Int) _ hwr (by have := S.out.len; omega)).mono ?_
                      rintro e W9 ⟨F', rfl, h1, h2, h3⟩
                      dsimp only
                      have S' := hid (S.out.write HF.out h1 h2 h3 3660 (by rw [List.length_append, be_len]; have := S.out.len; omega))
                      clear hwr hF h1 h2 h3 HF S
                      have S := S'
                      clear S'
                      have dh : W9.cell? ⟨b, 32, none⟩ = some (.bool true) := by have h := cell_of_block (j := 32) S.out.box (oc32 O s); rwa [← HLH.out] at h
                      have dp := cell_of_block (j := 0) S.out.var rfl
                      have d33 := cell_of_block (j := 33) S.out.box (oc33 O s)
                      go_wp2_with fail
                      clear d33 dp
                      rw [u64nat_eq O.total]
                      obtain ⟨F, hwr, hF⟩ := S.out.wr
                      have HF := hid hF
                      refine (oU64_any p _ F (u64nat O.total) _ hwr (u64nat_lt _) (by have := S.out.len; omega)).mono ?_
                      rintro e W9 ⟨F', rfl, h1, h2, h3⟩
                      dsimp only
                      have S' := hid (S.out.write HF.out h1 h2 h3 3668 (by rw [List.length_append, be_len]; have := S.out.len; omega))
                      clear hwr hF h1 h2 h3 HF S
                      have S := S'
                      clear S'
                      have dp := cell_of_block (j := 0) S.out.var rfl
                      have d34 := cell_of_block (j := 34) S.out.box (oc34 O s)
                      go_wp2_with fail
                      clear d34 dp
                      rw [u64nat_eq O.count]
                      obtain ⟨F, hwr, hF⟩ := S.out.wr
                      have HF := hid hF
                      refine (oU64_any p _ F (u64nat O.count) _ hwr (u64nat_lt _) (by have := S.out.len; omega)).mono ?_
                      rintro e W9 ⟨F', rfl, h1, h2, h3⟩
                      dsimp only
                      have S' := hid (S.out.write HF.out h1 h2 h3 3676 (by rw [List.length_append, be_len]; have := S.out.len; omega))
                      clear hwr hF h1 h2 h3 HF S
                      have S := S'
                      clear S'
                      have dp := cell_of_block (j := 0) S.out.var rfl
                      have d35 := cell_of_block (j := 35) S.out.box (oc35 O s)
                      go_wp2_with fail
                      clear d35 dp
                      obtain ⟨F, hwr, hF⟩ := S.out.wr
                      have HF := hid hF
                      refine (oU8_any p _ F (O.unit) _ hwr (by have := S.out.len; omega)).mono ?_
                      rintro e W9 ⟨F', rfl, h1, h2, h3⟩
                      dsimp only
                      have S' := hid (S.out.write HF.out h1 h2 h3 3677 (by rw [List.length_append, be_len]; have := S.out.len; omega))
                      clear hwr hF h1 h2 h3 HF S
                      have S := S'
                      clear S'
                      go_upto_region 46 with (fail)
                      try clear dh
                      have HBX := hid S.out.box
                      have HVX := hid S.out.var
                      refine wp_region_each 4 [.eq (.pointer (some ⟨p, 0, none⟩)), .eq (.pointer (some ⟨b, 36, none⟩)), .eq (.bool (O.arch)), .eq (.int .i64 (flagN (O.arch) : Int))] (by kernel_rfl) (by kernel_rfl) (by kernel_rfl) (by kernel_rfl) ?_ ?_
                      · all_goals
                          refine each_c ?_ (each_c ?_ (each_c ?_ (each_c ?_ (each_n))))
                          · intro w1 hg Ar seen
                            have s4 := seen.sl 4 (.pointer (some ⟨pw, 0, none⟩))
                            refine does_plain rfl fun K Q' hK => ?_
                            have hc := cell_of_block (j := 0) ((hg.block _ (block_lt HVX.out)).trans HVX.out) rfl
                            go_simp; exact hK _ _ (Grow.refl _) rfl
                          · intro w1 hg Ar seen
                            have s1 := seen.sl 1 (.pointer (some ⟨b, 0, none⟩))
                            refine does_plain rfl fun K Q' hK => ?_
                            go_simp; exact hK _ _ (Grow.refl _) rfl
                          · intro w1 hg Ar seen
                            have e1 := seen.de 1 158
                            refine does_plain rfl fun K Q' hK => ?_
                            have hc := cell_of_block (j := 36) ((hg.block _ (block_lt HBX.out)).trans HBX.out) (oc36 O s)
                            go_simp; exact hK _ _ (Grow.refl _) rfl
                          · intro w1 hg Ar seen
                            have e2 := seen.de 2 159
                            refine does_plain rfl fun K Q' hK => ?_
                            go_simp
                            refine (flag_any (O.arch) _).mono ?_
                            rintro e u ⟨rfl, rfl⟩
                            exact hK _ _ (Grow.refl _) rfl
                      intro w1 hg
                      refine upon_w' (js := [0, 1, 2, 3]) (by rfl) ?_
                      refine upon_e (some 157) (upon_e (some 158) (upon_e (some 159) (upon_e (some 160) (upon_n ?_))))
                      have S' := hid (S.out.below hg)
                      clear hg S HBX HVX
                      have S := S'
                      clear S'
                      go_simp
                      go_wp2_with fail
                      obtain ⟨F, hwr, hF⟩ := S.out.wr
                      have HF := hid hF
                      refine (oU8_any p _ F (flagN (O.arch) : Int) _ hwr (by have := S.out.len; omega)).mono ?_
                      rintro e W9 ⟨F', rfl, h1, h2, h3⟩
                      dsimp only
                      have S' := hid (S.out.write HF.out h1 h2 h3 3678 (by rw [List.length_append, be_len]; have := S.out.len; omega))
                      clear hwr hF h1 h2 h3 HF S
                      have S := S'
                      clear S'
                      have dp := cell_of_block (j := 0) S.out.var rfl
                      go_wp2_with fail
                      clear dp
                      obtain ⟨F, hwr, hF⟩ := S.out.wr
                      refine (oBytes_any p _ F _ hwr (by have := S.out.len; omega)).mono ?_
                      rintro e W7 ⟨a', n', c', rfl, how, hb7⟩
                      dsimp only
                      have hfin : l3 ++ O.custom.flatMap custB ++ be 1 (u64nat (flagN true : Int)) ++ be 8 (u64nat O.total) ++ be 8 (u64nat O.count) ++ be 1 (u64nat O.unit) ++ be 1 (u64nat (flagN O.arch : Int)) = layO O := by
                        have hm0 : O.mat.length = s.mat.n := by have := S.out.m.mat.rd.len; simpa using this
                        have q1 : u64nat (s.names.n : Int) = O.names.length := by rw [u64nat_nat _ (by omega), N1L.out]
                        have q2 : u64nat (s.links.n : Int) = O.links.length := by rw [u64nat_nat _ (by omega), N2L.out]
                        have q3 : u64nat (s.custom.n : Int) = O.custom.length := by rw [u64nat_nat _ (by omega), N3L.out]
                        have q4 : ∀ q : Bool, u64nat (flagN q : Int) = flagN q := fun q => by cases q <;> rfl
                        rw [Hl3.out, Hl2.out, Hl1.out, HL0.out]
                        unfold layO limB
                        rw [← HLH.out, q1, q2, q3, q4, q4, show shortB O.mat = be 2 s.mat.n ++ O.mat by unfold shortB; rw [hm0]]
                        simp [List.append_assoc]
                      have HOW := hid how; have HB7 := hid hb7
                      have HWB := hid S.out.bel
                      have HSB : Hid (b ≤ W9.heap.size) := Nat.le_of_lt (block_lt S.out.box)
                      have HFI := hid hfin
                      clear how hb7 hfin hwr hF S
                      go_wp2_with fail
                      go_ret2
                      exact ⟨by rw [HBE.out]; exact HWB.out.trans (HB7.out.mono HSB.out), .inr ⟨HR.out, _, _, _, rfl, by rw [HBE.out, ← HFI.out]; exact own_low HOW.out HSB.out⟩⟩
end Go.Proofs.YtdlkobmlnpijgaaDoor
