/- The reference's Lay. -/
import Derived.Test.YtdlkobmlnpijgaaDoorRefRight
namespace Go.Proofs.YtdlkobmlnpijgaaDoor
open Go.RowKit
set_option linter.unusedVariables false
set_option linter.unusedSimpArgs false
set_option maxRecDepth 1000000
set_option maxHeartbeats 12800000
/-- Laying: the object in its block b, the writer in p: l is laid, at most n bytes. -/
structure RySt (O : ObjD) (s : ObjV) (w W : World) (b p : Nat) (l : List UInt8) (n : Nat) : Prop where
  box : W.heap[b]? = some (.cells (objCells O s) 35 (0, 0))
  wr : ∃ F, Wr 87 W p l F ∧ ∀ k ∈ F, b < k
  m : ObjM W O s
  foot : ∀ k ∈ s.foot, k < b
  bel : Below b w W
  len : l.length ≤ n
section
variable {O : ObjD} {s : ObjV} {w W W' : World} {b p n : Nat} {l l' : List UInt8} {F F' : List Nat}
theorem RySt.write (h : RySt O s w W b p l n) (hF : ∀ k ∈ F, b < k) (hw : Wr 87 W' p l' F') (hc : Chg F W W') (hf : Fresh F F' W) (m : Nat) (hl : l'.length ≤ m) : RySt O s w W' b p l' m :=
  ⟨(hc.block b (block_lt h.box) (fun hm => by have := hF b hm; omega)).trans h.box, ⟨F', hw, fun k hk => by
      rcases hf k hk with h' | h'
      · exact hF k h'
      · have h1 := block_lt h.box; omega⟩,
    h.m.keep hc (fun k hk hm => by have h1 := h.foot k hk; have h2 := hF k hm; omega), h.foot, h.bel.trans (hc.below (fun k hk => by have := hF k hk; omega) (Nat.le_of_lt (block_lt h.box))), hl⟩
theorem RySt.below (h : RySt O s w W b p l n) (hb : Below W.heap.size W W') : RySt O s w W' b p l n := by
  obtain ⟨F, h1, h2⟩ := h.wr
  exact ⟨(hb.block _ (block_lt h.box)).trans h.box, ⟨F, h1.keep (Chg.of_below hb []) (fun _ _ hm => by cases hm), h2⟩, h.m.below hb, h.foot, h.bel.trans (hb.mono (Nat.le_of_lt (block_lt h.box))), h.len⟩
theorem RySt.to (h : RySt O s w W b p l n) {l' : List UInt8} {n' : Nat} (e : l = l') (hn : n ≤ n') : RySt O s w W b p l' n' := ⟨h.box, e ▸ h.wr, h.m, h.foot, h.bel, by rw [← e]; have := h.len; omega⟩
theorem RySt.cell (h : RySt O s w W b p l n) {j : Nat} {v : Value} (hv : (objCells O s)[j]? = some v) : W.cell? ⟨b, j, none⟩ = some v := cell_of_block h.box hv
end
/-- A text, behind its turning into bytes. -/
theorem rtext_any (s : ByteArray) (p : Nat) (l : List UInt8) (F : List Nat) (w : World) (hs : s.size ≤ 65535) (h : Wr 87 w p l F) (hlen : l.length + 65600 ≤ 140737488355328) (c : Nat) :
    Calls Tryd.prog 52 #[.pointer (some ⟨p, 0, none⟩), .slice (some ⟨w.heap.size, 0, none⟩) s.size c] (Lib.bytesWorld w 5 s) fun e w' => ∃ F', e = .returned (.bool true) ∧ Wr 87 w' p (l ++ textB s) F' ∧ Chg F w w' ∧ Fresh F F' w := by
  have hb1 := bytesW_below w 5 s
  have hs2 := bytesW_slC w 5 s (by omega) c
  have hlt : ∀ k ∈ F, k < w.heap.size := h.lt
  have hrd : RdB (Lib.bytesWorld w 5 s) (some ⟨w.heap.size, 0, none⟩) s.size s.data.toList := RdC.toB hs2.rd
  have e : textB s = be 2 s.size ++ s.data.toList := by unfold textB shortB; simp
  refine (rShort_any p l F (some ⟨w.heap.size, 0, none⟩) s.size c s.data.toList _ (h.keep (Chg.of_below hb1 []) (fun k hk hm => by cases hm)) hrd (by simp) (fun w1 h1 => h1.rdB hrd (fun b off sp hb hm => by simp at hb; have := hlt _ hm; omega)) hs hlen).mono ?_
  rintro e w' ⟨F', rfl, h1, h2, h3⟩
  refine ⟨F', rfl, by rw [‹textB s = _›, ← List.append_assoc]; exact h1, (Chg.of_below hb1 F).trans h2 (fun q hq => .inl hq), fun q hq => ?_⟩
  rcases h3 q hq with h | h
  · exact .inl h
  · exact .inr (by have := hb1.size; omega)
theorem rlay_any (O : ObjD) (s : ObjV) (w : World) (h : ObjM w O s) (hT : UT w) : Calls Tryd.prog 16 #[.agg (objCells O s)] w (LayRes O w) := by
  have hft : ∀ k ∈ s.foot, k < w.heap.size := h.lt
  have HM0 := hid h; have HT0 := hid hT
  clear h hT
  generalize hbe : w.heap.size = b
  rw [hbe] at hft
  have HFT := hid hft
  have HBE := hid hbe; clear hbe hft
  have kc := fun (w : World) (x : ByteArray) => Lib.run_convert_string_bytes (P := Tryd.prog) w 9 22 5 x Tryd.underlying9 Tryd.underlying22 Tryd.underlying5
  go_enter Tryd.func16, Tryd.ntmps16
  go_upto_region 1 with (fail)
  have hbw : Below w.heap.size w (w.alloc (.cells (objCells O s) 35)) := (Below.refl _ w).alloc (Nat.le_refl _) _
  have BX := hid (block_new w (.cells (objCells O s) 35))
  have HM := hid (HM0.out.below hbw); have HT := hid (HT0.out.below hbw)
  have HSZ : Hid (b + 1 ≤ (w.alloc (.cells (objCells O s) 35)).heap.size) := by show _ ≤ _; simp [HBE.out]
  rw [HBE.out] at hbw BX ⊢
  have HB := hid hbw
  clear hbw HM0 HT0
  generalize w.alloc (.cells (objCells O s) 35) = W at *
  go_wp2_with (refine wpList_load_row rfl 35 _ rfl b rfl _ _ _ _ BX.out Tryd.underlying35 rfl (by rw [objCells_size]; exact oSizeO) ?_)
  refine (rright_any O s W HM.out HT.out).mono ?_
  rintro e W1 ⟨rfl, hb1⟩
  dsimp only
  have HB1 := hid (HB.out.trans (hb1.mono (by have := HSZ.out; omega)))
  have BX1 := hid ((hb1.block _ (block_lt BX.out)).trans BX.out)
  have HM1 := hid (HM.out.below hb1)
  clear hb1 HB BX HM HSZ HT
  cases hr : rightO O with
  | false =>
    have HR := hid hr
    clear hr
    go_wp2_with fail
    go_ret2
    exact ⟨by rw [HBE.out]; exact HB1.out, .inl ⟨HR.out, rfl⟩⟩
  | true =>
    have HR := hid hr
    clear hr
    have RS := hid (right_sizes HR.out)
    go_upto_region 4 with (fail)
    have hbw : Below W1.heap.size W1 (W1.alloc (.cells #[.slice none 0 0] 87)) := (Below.refl _ W1).alloc (Nat.le_refl _) _
    have S : Hid (RySt O s w (W1.alloc (.cells #[.slice none 0 0] 87)) b W1.heap.size [] 0) :=
      ⟨(hbw.block _ (block_lt BX1.out)).trans BX1.out, ⟨[W1.heap.size], ⟨none, 0, 0, rfl, block_new _ _, World.ownsRow_nil _ _ _ _, (fun g hg => by cases hg), rfl⟩, fun k hk => by have := List.mem_singleton.1 hk; have := block_lt BX1.out; omega⟩, HM1.out.below hbw, HFT.out, HB1.out.trans (hbw.mono (Nat.le_of_lt (block_lt BX1.out))), Nat.le_refl _⟩
    clear hbw HB1 BX1 HM1 HFT
    generalize hp : W1.heap.size = p at *
    clear hp
    generalize W1.alloc (.cells #[.slice none 0 0] 87) = W2 at *
    have d0 := S.out.cell (oc0 O s)
    go_wp2_with fail
    obtain ⟨F, hwr, hF⟩ := S.out.wr
    have HF := hid hF
    refine (rtext_any O.id p _ F _ (by have := RS.out.1; omega) hwr (by have := S.out.len; omega) _).mono ?_
    rintro e W9 ⟨F', rfl, h1, h2, h3⟩
    dsimp only
    clear d0
    have S' := hid (S.out.write HF.out h1 h2 h3 (122) (by rw [List.length_append]; have := S.out.len; have := textB_len (s := O.id) RS.out.1; omega))
    clear hwr hF h1 h2 h3 HF S
    have S := S'
    clear S'
    have d1 := S.out.cell (oc1 O s)
    go_wp2_with fail
    obtain ⟨F, hwr, hF⟩ := S.out.wr
    have HF := hid hF
    refine (rU8_any p _ F (O.typ) _ hwr (by have := S.out.len; omega)).mono ?_
    rintro e W9 ⟨F', rfl, h1, h2, h3⟩
    dsimp only
    clear d1
    have S' := hid (S.out.write HF.out h1 h2 h3 (123) (by rw [List.length_append, be_len]; have := S.out.len; omega))
    clear hwr hF h1 h2 h3 HF S
    have S := S'
    clear S'
    have d2 := S.out.cell (oc2 O s)
    go_wp2_with fail
    obtain ⟨F, hwr, hF⟩ := S.out.wr
    have HF := hid hF
    refine (rU8_any p _ F (O.alg) _ hwr (by have := S.out.len; omega)).mono ?_
    rintro e W9 ⟨F', rfl, h1, h2, h3⟩
    dsimp only
    clear d2
    have S' := hid (S.out.write HF.out h1 h2 h3 (124) (by rw [List.length_append, be_len]; have := S.out.len; omega))
    clear hwr hF h1 h2 h3 HF S
    have S := S'
    clear S'
    have d3 := S.out.cell (oc3 O s)
    go_wp2_with fail
    obtain ⟨F, hwr, hF⟩ := S.out.wr
    have HF := hid hF
    refine (rU32_any p _ F (O.len) _ hwr (by have := S.out.len; omega)).mono ?_
    rintro e W9 ⟨F', rfl, h1, h2, h3⟩
    dsimp only
    clear d3
    have S' := hid (S.out.write HF.out h1 h2 h3 (128) (by rw [List.length_append, be_len]; have := S.out.len; omega))
    clear hwr hF h1 h2 h3 HF S
    have S := S'
    clear S'
    have d4 := S.out.cell (oc4 O s)
    go_wp2_with fail
    obtain ⟨F, hwr, hF⟩ := S.out.wr
    have HF := hid hF
    refine (rU32_any p _ F (O.mask) _ hwr (by have := S.out.len; omega)).mono ?_
    rintro e W9 ⟨F', rfl, h1, h2, h3⟩
    dsimp only
    clear d4
    have S' := hid (S.out.write HF.out h1 h2 h3 (132) (by rw [List.length_append, be_len]; have := S.out.len; omega))
    clear hwr hF h1 h2 h3 HF S
    have S := S'
    clear S'
    have d5 := S.out.cell (oc5 O s)
    go_wp2_with fail
    clear d5
    obtain ⟨F, hwr, hF⟩ := S.out.wr
    have HF := hid hF
    have hml : O.mat.length = s.mat.n := by have := S.out.m.mat.rd.len; simpa using this
    have h128 : s.mat.n ≤ 128 := by have := RS.out.2.1; omega
    refine (rShort_any p _ F s.mat.a s.mat.n s.mat.c O.mat _ hwr (RdC.toB (by have h := S.out.m.mat.rd; rwa [Nat.mul_one] at h)) S.out.m.mat.no (fun w1 hc => RdC.toB (by have h := (S.out.m.keep hc (fun k hk hm => by have h1 := S.out.foot k hk; have h2 := hF k hm; omega)).mat.rd; rwa [Nat.mul_one] at h)) (by omega) (by have := S.out.len; omega)).mono ?_
    rintro e W9 ⟨F', rfl, h1, h2, h3⟩
    dsimp only
    have S' := hid (S.out.write HF.out h1 h2 h3 (262) (by rw [List.length_append, List.length_append, be_len]; have := S.out.len; omega))
    clear hwr hF h1 h2 h3 HF S
    have S := S'
    clear S'
    have d6 := S.out.cell (oc6 O s)
    go_wp2_with fail
    obtain ⟨F, hwr, hF⟩ := S.out.wr
    have HF := hid hF
    refine (rU8_any p _ F (O.st) _ hwr (by have := S.out.len; omega)).mono ?_
    rintro e W9 ⟨F', rfl, h1, h2, h3⟩
    dsimp only
    clear d6
    have S' := hid (S.out.write HF.out h1 h2 h3 (263) (by rw [List.length_append, be_len]; have := S.out.len; omega))
    clear hwr hF h1 h2 h3 HF S
    have S := S'
    clear S'
    obtain ⟨l0, hl0⟩ : ∃ l, l = [] ++ textB O.id ++ be 1 (u64nat (O.typ)) ++ be 1 (u64nat (O.alg)) ++ be 4 (u64nat (O.len)) ++ be 4 (u64nat (O.mask)) ++ be 2 s.mat.n ++ O.mat ++ be 1 (u64nat (O.st)) := ⟨_, rfl⟩
    have S' : Hid (RySt O s w _ b p l0 263) := S.out.to hl0.symm (Nat.le_refl _)
    clear S
    have S := S'
    clear S'
    have HL0 := hid hl0
    clear hl0
    go_upto_region 11 with (fail)
    go_wp2_with fail
    go_loopw [5] (fun y wr => ∃ k : Nat, k ≤ 10 ∧ y = .int .i64 k ∧ RySt O s w wr b p (l0 ++ (O.dates.take k).flatMap dateB) (263 + k * 9)) (fun y _ => 10 - (intOf y).toNat)
    case atStart => exact ⟨0, by omega, rfl, by simpa using S.out⟩
    case round =>
      obtain ⟨k, hk, rfl, hs⟩ := hrel
      clear S
      have S := hid hs
      clear hs
      by_cases hlt : k < 10
      · obtain ⟨hh, tt, hdk⟩ : ∃ hh tt, O.dat k = (hh, tt) := ⟨_, _, rfl⟩
        have hgk : O.dates[k]? = some (hh, tt) := by
          have h10 := S.out.m.dl
          unfold ObjD.dat at hdk
          rw [List.getD_eq_getElem?_getD, List.getElem?_eq_getElem (by omega), Option.getD_some] at hdk
          rw [List.getElem?_eq_getElem (by omega), hdk]
        have HTK : Hid ((O.dates.take (k + 1)).flatMap dateB = (O.dates.take k).flatMap dateB ++ dateB (hh, tt)) := by show _ = _; rw [List.take_add_one, hgk]; simp
        have c0 : ∀ W, RySt O s w W b p (l0 ++ (O.dates.take k).flatMap dateB) (263 + k * 9) → W.cell? ⟨b, 7 + k * 2, none⟩ = some (.bool hh) := fun W h => by have := h.cell (ocH O s k hlt); rw [hdk] at this; exact this
        have HDK := hid hdk
        clear hgk
        have dd0 := c0 _ S.out
        clear c0 hdk
        cases hh with
        | false =>
          go_wp2_with fail
          refine (rflag_any false _).mono ?_
          rintro e u ⟨rfl, rfl⟩
          dsimp only
          go_wp2_with fail
          obtain ⟨F, hwr, hF⟩ := S.out.wr
          have HF := hid hF
          refine (rU8_any p _ F ((flagN false : Int)) _ hwr (by have := S.out.len; omega)).mono ?_
          rintro e W9 ⟨F', rfl, h1, h2, h3⟩
          dsimp only
          clear dd0
          have S' := hid (S.out.write HF.out h1 h2 h3 (263 + k * 9 + 1) (by rw [List.length_append, be_len]; have := S.out.len; omega))
          clear hwr hF h1 h2 h3 HF S
          have S := S'
          clear S'
          have dd0 : W9.cell? ⟨b, 7 + k * 2, none⟩ = some (.bool false) := by have := S.out.cell (ocH O s k hlt); rw [HDK.out] at this; exact this
          have S6 := hid (S.out.to (l' := l0 ++ (O.dates.take (k + 1)).flatMap dateB) (n' := 263 + (k + 1) * 9) (by rw [HTK.out]; simp [dateB, flagN, List.append_assoc]; rfl) (by omega))
          clear S
          go_wp2_with fail
          go_roundw
          case rel =>
            first
              | exact ⟨k + 1, by omega, by go_num, S6.out⟩
              | ((repeat apply Exists.intro); exact ⟨⟨k + 1, by omega, by go_num, S6.out⟩, rfl⟩)
          case measure => simp [intOf]; omega
        | true =>
          go_wp2_with fail
          refine (rflag_any true _).mono ?_
          rintro e u ⟨rfl, rfl⟩
          dsimp only
          go_wp2_with fail
          obtain ⟨F, hwr, hF⟩ := S.out.wr
          have HF := hid hF
          refine (rU8_any p _ F ((flagN true : Int)) _ hwr (by have := S.out.len; omega)).mono ?_
          rintro e W9 ⟨F', rfl, h1, h2, h3⟩
          dsimp only
          clear dd0
          have S' := hid (S.out.write HF.out h1 h2 h3 (263 + k * 9 + 1) (by rw [List.length_append, be_len]; have := S.out.len; omega))
          clear hwr hF h1 h2 h3 HF S
          have S := S'
          clear S'
          have dd0 : W9.cell? ⟨b, 7 + k * 2, none⟩ = some (.bool true) := by have := S.out.cell (ocH O s k hlt); rw [HDK.out] at this; exact this
          have dd1 : W9.cell? ⟨b, 7 + k * 2 + 1, none⟩ = some (.int .i64 tt) := by have := S.out.cell (ocT O s k hlt); rw [HDK.out] at this; exact this
          go_wp2_with fail
          clear dd0 dd1
          rw [u64nat_eq tt]
          obtain ⟨F, hwr, hF⟩ := S.out.wr
          have HF := hid hF
          refine (rU64_any p _ F (u64nat tt) _ hwr (u64nat_lt _) (by have := S.out.len; omega)).mono ?_
          rintro e W9 ⟨F', rfl, h1, h2, h3⟩
          dsimp only
          have S' := hid (S.out.write HF.out h1 h2 h3 (263 + k * 9 + 9) (by rw [List.length_append, be_len]; have := S.out.len; omega))
          clear hwr hF h1 h2 h3 HF S
          have S := S'
          clear S'
          have S6 := hid (S.out.to (l' := l0 ++ (O.dates.take (k + 1)).flatMap dateB) (n' := 263 + (k + 1) * 9) (by rw [HTK.out]; simp [dateB, flagN, List.append_assoc]; rfl) (by omega))
          clear S
          go_wp2_with fail
          go_roundw
          case rel =>
            first
              | exact ⟨k + 1, by omega, by go_num, S6.out⟩
              | ((repeat apply Exists.intro); exact ⟨⟨k + 1, by omega, by go_num, S6.out⟩, rfl⟩)
          case measure => simp [intOf]; omega
      · obtain rfl : k = 10 := by omega
        have hd := S.out.m.dl
        have S' : Hid (RySt O s w _ b p (l0 ++ O.dates.flatMap dateB) (263 + 90)) := S.out.to (by rw [List.take_of_length_le (by rw [hd]; exact Nat.le_refl _)]) (Nat.le_refl _)
        clear S hd
        have S := S'
        clear S'
        have d27 := S.out.cell (oc27 O s)
        go_wp2_with fail
        obtain ⟨F, hwr, hF⟩ := S.out.wr
        have HF := hid hF
        refine (rU8_any p _ F (O.reason) _ hwr (by have := S.out.len; omega)).mono ?_
        rintro e W9 ⟨F', rfl, h1, h2, h3⟩
        dsimp only
        clear d27
        have S' := hid (S.out.write HF.out h1 h2 h3 (354) (by rw [List.length_append, be_len]; have := S.out.len; omega))
        clear hwr hF h1 h2 h3 HF S
        have S := S'
        clear S'
        have d28 := S.out.cell (oc28 O s)
        go_wp2_with fail
        obtain ⟨F, hwr, hF⟩ := S.out.wr
        have HF := hid hF
        refine (rtext_any O.msg p _ F _ (by have := RS.out.2.2.1; omega) hwr (by have := S.out.len; omega) _).mono ?_
        rintro e W9 ⟨F', rfl, h1, h2, h3⟩
        dsimp only
        clear d28
        have S' := hid (S.out.write HF.out h1 h2 h3 (476) (by rw [List.length_append]; have := S.out.len; have := textB_len (s := O.msg) RS.out.2.2.1; omega))
        clear hwr hF h1 h2 h3 HF S
        have S := S'
        clear S'
        have d29 := S.out.cell (oc29 O s)
        go_wp2_with fail
        obtain ⟨F, hwr, hF⟩ := S.out.wr
        have HF := hid hF
        refine (rU8_any p _ F (s.names.n) _ hwr (by have := S.out.len; omega)).mono ?_
        rintro e W9 ⟨F', rfl, h1, h2, h3⟩
        dsimp only
        clear d29
        have S' := hid (S.out.write HF.out h1 h2 h3 (477) (by rw [List.length_append, be_len]; have := S.out.len; omega))
        clear hwr hF h1 h2 h3 HF S
        have S := S'
        clear S'
        obtain ⟨l1, hl⟩ : ∃ l, l = l0 ++ O.dates.flatMap dateB ++ be 1 (u64nat (O.reason)) ++ textB O.msg ++ be 1 (u64nat (s.names.n)) := ⟨_, rfl⟩
        have S' : Hid (RySt O s w _ b p l1 477) := S.out.to hl.symm (Nat.le_refl _)
        clear S
        have S := S'
        clear S'
        have Hl1 := hid hl
        clear hl
        have hnl : O.names.length = s.names.n := by have := S.out.m.names.rd.len; simpa using this
        have HNLA := hid hnl
        have hsm : s.names.n ≤ 6 := by rw [← hnl]; exact RS.out.2.2.2.2.1
        have NSA := hid hsm
        clear hnl
        go_upto_region 21 with (fail)
        go_wp2_with fail
        go_loopw [6] (fun y wr => ∃ k : Nat, k ≤ s.names.n ∧ y = .int .i64 k ∧ RySt O s w wr b p (l1 ++ (O.names.take k).flatMap textB) (477 + k * 122)) (fun y _ => s.names.n - (intOf y).toNat)
        case atStart => exact ⟨0, Nat.zero_le _, rfl, by simpa using S.out⟩
        case round =>
          obtain ⟨k, hk, rfl, hs⟩ := hrel
          clear S
          have S := hid hs
          clear hs
          have d29 := S.out.cell (oc29 O s)
          by_cases hlt : k < s.names.n
          · obtain ⟨b1, o1, x, ha1, hx, hd1⟩ := S.out.m.names.one hlt
            rw [ha1] at d29
            have HXK := hid hx; have HA1 := hid ha1
            have HTK : Hid ((O.names.take (k + 1)).flatMap textB = (O.names.take k).flatMap textB ++ textB x) := by show _ = _; rw [List.take_add_one, hx]; simp
            have HXM : Hid (x ∈ O.names) := List.mem_of_getElem? hx
            clear hx ha1
            go_wp2_with fail
            obtain ⟨F, hwr, hF⟩ := S.out.wr
            have HF := hid hF
            refine (rtext_any x p _ F _ (by have := (RS.out.2.2.2.1 x HXM.out); omega) hwr (by have := S.out.len; omega) _).mono ?_
            rintro e W9 ⟨F', rfl, h1, h2, h3⟩
            dsimp only
            clear d29 hd1
            have S' := hid (S.out.write HF.out h1 h2 h3 (477 + k * 122 + 122) (by rw [List.length_append]; have := S.out.len; have := textB_len (s := x) (RS.out.2.2.2.1 x HXM.out); omega))
            clear hwr hF h1 h2 h3 HF S
            have S := S'
            clear S'
            have S6 := hid (S.out.to (l' := l1 ++ (O.names.take (k + 1)).flatMap textB) (n' := 477 + (k + 1) * 122) (by rw [HTK.out]; simp [textB, List.append_assoc]) (by omega))
            clear S
            go_wp2_with fail
            go_roundw
            case rel =>
              first
                | exact ⟨k + 1, by omega, by go_num, S6.out⟩
                | ((repeat apply Exists.intro); exact ⟨⟨k + 1, by omega, by go_num, S6.out⟩, rfl⟩)
            case measure => simp [intOf]; omega
          · obtain hkn : k = s.names.n := by omega
            have S' : Hid (RySt O s w _ b p (l1 ++ O.names.flatMap textB) (477 + 732)) := S.out.to (by rw [List.take_of_length_le (by rw [HNLA.out, hkn]; exact Nat.le_refl _)]) (by omega)
            subst hkn
            clear S
            have S := S'
            clear S'
            have d30 := S.out.cell (oc30 O s)
            go_wp2_with fail
            obtain ⟨F, hwr, hF⟩ := S.out.wr
            have HF := hid hF
            refine (rU8_any p _ F (s.links.n) _ hwr (by have := S.out.len; omega)).mono ?_
            rintro e W9 ⟨F', rfl, h1, h2, h3⟩
            dsimp only
            clear d30
            have S' := hid (S.out.write HF.out h1 h2 h3 (1210) (by rw [List.length_append, be_len]; have := S.out.len; omega))
            clear hwr hF h1 h2 h3 HF S
            have S := S'
            clear S'
            obtain ⟨l2, hl⟩ : ∃ l, l = l1 ++ O.names.flatMap textB ++ be 1 (u64nat (s.links.n)) := ⟨_, rfl⟩
            have S' : Hid (RySt O s w _ b p l2 1210) := S.out.to hl.symm (Nat.le_refl _)
            clear S
            have S := S'
            clear S'
            have Hl2 := hid hl
            clear hl
            have hnl : O.links.length = s.links.n := by have := S.out.m.links.rd.len; unfold linkCells at this; rw [flat_len] at this; omega
            have HNLB := hid hnl
            have hsm : s.links.n ≤ 8 := by rw [← hnl]; exact RS.out.2.2.2.2.2.2.1
            have NSB := hid hsm
            clear hnl
            go_upto_region 26 with (fail)
            go_wp2_with fail
            go_loopw [7] (fun y wr => ∃ k : Nat, k ≤ s.links.n ∧ y = .int .i64 k ∧ RySt O s w wr b p (l2 ++ (O.links.take k).flatMap linkB) (1210 + k * 123)) (fun y _ => s.links.n - (intOf y).toNat)
            case atStart => exact ⟨0, Nat.zero_le _, rfl, by simpa using S.out⟩
            case round =>
              obtain ⟨k, hk, rfl, hs⟩ := hrel
              clear S
              have S := hid hs
              clear hs
              have d30 := S.out.cell (oc30 O s)
              by_cases hlt : k < s.links.n
              · obtain ⟨b1, o1, x, ha1, hx, hd1⟩ := SlR.pairR S.out.m.links hlt
                rw [ha1] at d30
                have HXK := hid hx; have HA1 := hid ha1
                have HTK : Hid ((O.links.take (k + 1)).flatMap linkB = (O.links.take k).flatMap linkB ++ linkB x) := by show _ = _; rw [List.take_add_one, hx]; simp
                have HXM : Hid (x ∈ O.links) := List.mem_of_getElem? hx
                clear hx ha1
                have c0 := hd1 0 _ rfl
                have c1 := hd1 1 _ rfl
                rw [Nat.add_zero] at c0
                go_wp2_with fail
                obtain ⟨F, hwr, hF⟩ := S.out.wr
                have HF := hid hF
                refine (rU8_any p _ F (x.1) _ hwr (by have := S.out.len; omega)).mono ?_
                rintro e W9 ⟨F', rfl, h1, h2, h3⟩
                dsimp only
                clear c0 c1 hd1 d30
                have S' := hid (S.out.write HF.out h1 h2 h3 (1210 + k * 123 + 1) (by rw [List.length_append, be_len]; have := S.out.len; omega))
                clear hwr hF h1 h2 h3 HF S
                have S := S'
                clear S'
                have d30 := S.out.cell (oc30 O s)
                rw [HA1.out] at d30
                have hrd : W9.rangeAt b1 (o1 + k * 2) _ := (by
                  obtain ⟨b2, o2, x2, ha2, hx2, hd2⟩ := SlR.pairR S.out.m.links hlt
                  rw [HA1.out] at ha2
                  cases ha2
                  rw [HXK.out] at hx2
                  cases hx2
                  exact hd2)
                have c0 := hrd 0 _ rfl
                have c1 := hrd 1 _ rfl
                rw [Nat.add_zero] at c0
                clear hrd
                go_wp2_with fail
                obtain ⟨F, hwr, hF⟩ := S.out.wr
                have HF := hid hF
                refine (rtext_any x.2 p _ F _ (by have := (RS.out.2.2.2.2.2.1 x HXM.out); omega) hwr (by have := S.out.len; omega) _).mono ?_
                rintro e W9 ⟨F', rfl, h1, h2, h3⟩
                dsimp only
                clear c0 c1 d30
                have S' := hid (S.out.write HF.out h1 h2 h3 (1210 + k * 123 + 1 + 122) (by rw [List.length_append]; have := S.out.len; have := textB_len (s := x.2) (RS.out.2.2.2.2.2.1 x HXM.out); omega))
                clear hwr hF h1 h2 h3 HF S
                have S := S'
                clear S'
                have S6 := hid (S.out.to (l' := l2 ++ (O.links.take (k + 1)).flatMap linkB) (n' := 1210 + (k + 1) * 123) (by rw [HTK.out]; simp [linkB, List.append_assoc]) (by omega))
                clear S
                go_wp2_with fail
                go_roundw
                case rel =>
                  first
                    | exact ⟨k + 1, by omega, by go_num, S6.out⟩
                    | ((repeat apply Exists.intro); exact ⟨⟨k + 1, by omega, by go_num, S6.out⟩, rfl⟩)
                case measure => simp [intOf]; omega
              · obtain hkn : k = s.links.n := by omega
                have S' : Hid (RySt O s w _ b p (l2 ++ O.links.flatMap linkB) (1210 + 984)) := S.out.to (by rw [List.take_of_length_le (by rw [HNLB.out, hkn]; exact Nat.le_refl _)]) (by omega)
                subst hkn
                clear S
                have S := S'
                clear S'
                have d31 := S.out.cell (oc31 O s)
                go_wp2_with fail
                obtain ⟨F, hwr, hF⟩ := S.out.wr
                have HF := hid hF
                refine (rU8_any p _ F (s.custom.n) _ hwr (by have := S.out.len; omega)).mono ?_
                rintro e W9 ⟨F', rfl, h1, h2, h3⟩
                dsimp only
                clear d31
                have S' := hid (S.out.write HF.out h1 h2 h3 (2195) (by rw [List.length_append, be_len]; have := S.out.len; omega))
                clear hwr hF h1 h2 h3 HF S
                have S := S'
                clear S'
                obtain ⟨l3, hl⟩ : ∃ l, l = l2 ++ O.links.flatMap linkB ++ be 1 (u64nat (s.custom.n)) := ⟨_, rfl⟩
                have S' : Hid (RySt O s w _ b p l3 2195) := S.out.to hl.symm (Nat.le_refl _)
                clear S
                have S := S'
                clear S'
                have Hl3 := hid hl
                clear hl
                have hnl : O.custom.length = s.custom.n := by have := S.out.m.custom.rd.len; unfold custCells at this; rw [flat_len] at this; omega
                have HNLC := hid hnl
                have hsm : s.custom.n ≤ 6 := by rw [← hnl]; exact RS.out.2.2.2.2.2.2.2.2
                have NSC := hid hsm
                clear hnl
                go_upto_region 32 with (fail)
                go_wp2_with fail
                go_loopw [8] (fun y wr => ∃ k : Nat, k ≤ s.custom.n ∧ y = .int .i64 k ∧ RySt O s w wr b p (l3 ++ (O.custom.take k).flatMap custB) (2195 + k * 244)) (fun y _ => s.custom.n - (intOf y).toNat)
                case atStart => exact ⟨0, Nat.zero_le _, rfl, by simpa using S.out⟩
                case round =>
                  obtain ⟨k, hk, rfl, hs⟩ := hrel
                  clear S
                  have S := hid hs
                  clear hs
                  have d31 := S.out.cell (oc31 O s)
                  by_cases hlt : k < s.custom.n
                  · obtain ⟨b1, o1, x, ha1, hx, hd1⟩ := SlR.pairR S.out.m.custom hlt
                    rw [ha1] at d31
                    have HXK := hid hx; have HA1 := hid ha1
                    have HTK : Hid ((O.custom.take (k + 1)).flatMap custB = (O.custom.take k).flatMap custB ++ custB x) := by show _ = _; rw [List.take_add_one, hx]; simp
                    have HXM : Hid (x ∈ O.custom) := List.mem_of_getElem? hx
                    clear hx ha1
                    have c0 := hd1 0 _ rfl
                    have c1 := hd1 1 _ rfl
                    rw [Nat.add_zero] at c0
                    go_wp2_with fail
                    obtain ⟨F, hwr, hF⟩ := S.out.wr
                    have HF := hid hF
                    refine (rtext_any x.1 p _ F _ (by have := (RS.out.2.2.2.2.2.2.2.1 x HXM.out).1; omega) hwr (by have := S.out.len; omega) _).mono ?_
                    rintro e W9 ⟨F', rfl, h1, h2, h3⟩
                    dsimp only
                    clear c0 c1 hd1 d31
                    have S' := hid (S.out.write HF.out h1 h2 h3 (2195 + k * 244 + 122) (by rw [List.length_append]; have := S.out.len; have := textB_len (s := x.1) (RS.out.2.2.2.2.2.2.2.1 x HXM.out).1; omega))
                    clear hwr hF h1 h2 h3 HF S
                    have S := S'
                    clear S'
                    have d31 := S.out.cell (oc31 O s)
                    rw [HA1.out] at d31
                    have hrd : W9.rangeAt b1 (o1 + k * 2) _ := (by
                      obtain ⟨b2, o2, x2, ha2, hx2, hd2⟩ := SlR.pairR S.out.m.custom hlt
                      rw [HA1.out] at ha2
                      cases ha2
                      rw [HXK.out] at hx2
                      cases hx2
                      exact hd2)
                    have c0 := hrd 0 _ rfl
                    have c1 := hrd 1 _ rfl
                    rw [Nat.add_zero] at c0
                    clear hrd
                    go_wp2_with fail
                    obtain ⟨F, hwr, hF⟩ := S.out.wr
                    have HF := hid hF
                    refine (rtext_any x.2 p _ F _ (by have := (RS.out.2.2.2.2.2.2.2.1 x HXM.out).2; omega) hwr (by have := S.out.len; omega) _).mono ?_
                    rintro e W9 ⟨F', rfl, h1, h2, h3⟩
                    dsimp only
                    clear c0 c1 d31
                    have S' := hid (S.out.write HF.out h1 h2 h3 (2195 + k * 244 + 122 + 122) (by rw [List.length_append]; have := S.out.len; have := textB_len (s := x.2) (RS.out.2.2.2.2.2.2.2.1 x HXM.out).2; omega))
                    clear hwr hF h1 h2 h3 HF S
                    have S := S'
                    clear S'
                    have S6 := hid (S.out.to (l' := l3 ++ (O.custom.take (k + 1)).flatMap custB) (n' := 2195 + (k + 1) * 244) (by rw [HTK.out]; simp [custB, List.append_assoc]) (by omega))
                    clear S
                    go_wp2_with fail
                    go_roundw
                    case rel =>
                      first
                        | exact ⟨k + 1, by omega, by go_num, S6.out⟩
                        | ((repeat apply Exists.intro); exact ⟨⟨k + 1, by omega, by go_num, S6.out⟩, rfl⟩)
                    case measure => simp [intOf]; omega
                  · obtain hkn : k = s.custom.n := by omega
                    have S' : Hid (RySt O s w _ b p (l3 ++ O.custom.flatMap custB) (2195 + 1464)) := S.out.to (by rw [List.take_of_length_le (by rw [HNLC.out, hkn]; exact Nat.le_refl _)]) (by omega)
                    subst hkn
                    clear S
                    have S := S'
                    clear S'
                    go_upto_region 36 with (fail)
                    obtain ⟨lh, hlh⟩ : ∃ q, q = O.limHas := ⟨_, rfl⟩
                    have HLH := hid hlh
                    clear hlh
                    cases lh with
                    | false =>
                      have d32 := S.out.cell (oc32 O s)
                      rw [← HLH.out] at d32
                      go_wp2_with fail
                      refine (rflag_any false _).mono ?_
                      rintro e u ⟨rfl, rfl⟩
                      dsimp only
                      go_wp2_with fail
                      obtain ⟨F, hwr, hF⟩ := S.out.wr
                      have HF := hid hF
                      refine (rU8_any p _ F ((flagN false : Int)) _ hwr (by have := S.out.len; omega)).mono ?_
                      rintro e W9 ⟨F', rfl, h1, h2, h3⟩
                      dsimp only
                      have S' := hid (S.out.write HF.out h1 h2 h3 (3660) (by rw [List.length_append, be_len]; have := S.out.len; omega))
                      clear hwr hF h1 h2 h3 HF S
                      have S := S'
                      clear S'
                      clear d32
                      have d32 := S.out.cell (oc32 O s)
                      rw [← HLH.out] at d32
                      go_upto_region 41 with (fail)
                      try clear d32
                      have d36 := S.out.cell (oc36 O s)
                      go_wp2_with fail
                      refine (rflag_any O.arch _).mono ?_
                      rintro e u ⟨rfl, rfl⟩
                      dsimp only
                      go_wp2_with fail
                      obtain ⟨F, hwr, hF⟩ := S.out.wr
                      have HF := hid hF
                      refine (rU8_any p _ F ((flagN O.arch : Int)) _ hwr (by have := S.out.len; omega)).mono ?_
                      rintro e W9 ⟨F', rfl, h1, h2, h3⟩
                      dsimp only
                      have S' := hid (S.out.write HF.out h1 h2 h3 (3661) (by rw [List.length_append, be_len]; have := S.out.len; omega))
                      clear hwr hF h1 h2 h3 HF S
                      have S := S'
                      clear S'
                      clear d36
                      obtain ⟨F, ⟨a', n', c', hm, hpb, hown, hne, hFe⟩, hF⟩ := S.out.wr
                      have dp := cell_of_block (j := 0) hpb rfl
                      have hfin : l3 ++ O.custom.flatMap custB ++ be 1 (u64nat (flagN false : Int)) ++ be 1 (u64nat (flagN O.arch : Int)) = layO O := by
                        have hm0 : O.mat.length = s.mat.n := by have := S.out.m.mat.rd.len; simpa using this
                        have q1 : u64nat (s.names.n : Int) = O.names.length := by rw [u64nat_nat _ (by have := NSA.out; omega), HNLA.out]
                        have q2 : u64nat (s.links.n : Int) = O.links.length := by rw [u64nat_nat _ (by have := NSB.out; omega), HNLB.out]
                        have q3 : u64nat (s.custom.n : Int) = O.custom.length := by rw [u64nat_nat _ (by have := NSC.out; omega), HNLC.out]
                        have q4 : ∀ q : Bool, u64nat (flagN q : Int) = flagN q := fun q => by cases q <;> rfl
                        rw [Hl3.out, Hl2.out, Hl1.out, HL0.out]
                        unfold layO limB
                        rw [← HLH.out, q1, q2, q3, q4, q4, show shortB O.mat = be 2 s.mat.n ++ O.mat by unfold shortB; rw [hm0]]
                        simp [List.append_assoc]
                      have HWB := hid S.out.bel
                      have HOW : Hid (W9.ownsRow b 5 1 (.slice a' n' c') n' ((layO O).map B8)) := by
                        rw [hfin] at hown
                        exact ownsRow_base hown (fun k hk => Nat.le_of_lt (hF k (by rw [hFe]; simp [hk])))
                      clear hm hpb hown hne hFe hF hfin S
                      go_wp2_with fail
                      go_ret2
                      exact ⟨by rw [HBE.out]; exact HWB.out, .inr ⟨HR.out, _, _, _, rfl, by rw [HBE.out]; exact HOW.out⟩⟩
                    | true =>
                      have d32 := S.out.cell (oc32 O s)
                      rw [← HLH.out] at d32
                      go_wp2_with fail
                      refine (rflag_any true _).mono ?_
                      rintro e u ⟨rfl, rfl⟩
                      dsimp only
                      go_wp2_with fail
                      obtain ⟨F, hwr, hF⟩ := S.out.wr
                      have HF := hid hF
                      refine (rU8_any p _ F ((flagN true : Int)) _ hwr (by have := S.out.len; omega)).mono ?_
                      rintro e W9 ⟨F', rfl, h1, h2, h3⟩
                      dsimp only
                      have S' := hid (S.out.write HF.out h1 h2 h3 (3660) (by rw [List.length_append, be_len]; have := S.out.len; omega))
                      clear hwr hF h1 h2 h3 HF S
                      have S := S'
                      clear S'
                      clear d32
                      have d32 := S.out.cell (oc32 O s)
                      rw [← HLH.out] at d32
                      have d33 := S.out.cell (oc33 O s)
                      go_wp2_with fail
                      clear d33
                      rw [u64nat_eq O.total]
                      obtain ⟨F, hwr, hF⟩ := S.out.wr
                      have HF := hid hF
                      refine (rU64_any p _ F (u64nat O.total) _ hwr (u64nat_lt _) (by have := S.out.len; omega)).mono ?_
                      rintro e W9 ⟨F', rfl, h1, h2, h3⟩
                      dsimp only
                      have S' := hid (S.out.write HF.out h1 h2 h3 (3668) (by rw [List.length_append, be_len]; have := S.out.len; omega))
                      clear hwr hF h1 h2 h3 HF S
                      have S := S'
                      clear S'
                      have d34 := S.out.cell (oc34 O s)
                      go_wp2_with fail
                      clear d34
                      rw [u64nat_eq O.count]
                      obtain ⟨F, hwr, hF⟩ := S.out.wr
                      have HF := hid hF
                      refine (rU64_any p _ F (u64nat O.count) _ hwr (u64nat_lt _) (by have := S.out.len; omega)).mono ?_
                      rintro e W9 ⟨F', rfl, h1, h2, h3⟩
                      dsimp only
                      have S' := hid (S.out.write HF.out h1 h2 h3 (3676) (by rw [List.length_append, be_len]; have := S.out.len; omega))
                      clear hwr hF h1 h2 h3 HF S
                      have S := S'
                      clear S'
                      have d35 := S.out.cell (oc35 O s)
                      go_wp2_with fail
                      obtain ⟨F, hwr, hF⟩ := S.out.wr
                      have HF := hid hF
                      refine (rU8_any p _ F (O.unit) _ hwr (by have := S.out.len; omega)).mono ?_
                      rintro e W9 ⟨F', rfl, h1, h2, h3⟩
                      dsimp only
                      clear d35
                      have S' := hid (S.out.write HF.out h1 h2 h3 (3677) (by rw [List.length_append, be_len]; have := S.out.len; omega))
                      clear hwr hF h1 h2 h3 HF S
                      have S := S'
                      clear S'
                      go_upto_region 41 with (fail)
                      try clear d32
                      have d36 := S.out.cell (oc36 O s)
                      go_wp2_with fail
                      refine (rflag_any O.arch _).mono ?_
                      rintro e u ⟨rfl, rfl⟩
                      dsimp only
                      go_wp2_with fail
                      obtain ⟨F, hwr, hF⟩ := S.out.wr
                      have HF := hid hF
                      refine (rU8_any p _ F ((flagN O.arch : Int)) _ hwr (by have := S.out.len; omega)).mono ?_
                      rintro e W9 ⟨F', rfl, h1, h2, h3⟩
                      dsimp only
                      have S' := hid (S.out.write HF.out h1 h2 h3 (3678) (by rw [List.length_append, be_len]; have := S.out.len; omega))
                      clear hwr hF h1 h2 h3 HF S
                      have S := S'
                      clear S'
                      clear d36
                      obtain ⟨F, ⟨a', n', c', hm, hpb, hown, hne, hFe⟩, hF⟩ := S.out.wr
                      have dp := cell_of_block (j := 0) hpb rfl
                      have hfin : l3 ++ O.custom.flatMap custB ++ be 1 (u64nat (flagN true : Int)) ++ be 8 (u64nat O.total) ++ be 8 (u64nat O.count) ++ be 1 (u64nat (O.unit)) ++ be 1 (u64nat (flagN O.arch : Int)) = layO O := by
                        have hm0 : O.mat.length = s.mat.n := by have := S.out.m.mat.rd.len; simpa using this
                        have q1 : u64nat (s.names.n : Int) = O.names.length := by rw [u64nat_nat _ (by have := NSA.out; omega), HNLA.out]
                        have q2 : u64nat (s.links.n : Int) = O.links.length := by rw [u64nat_nat _ (by have := NSB.out; omega), HNLB.out]
                        have q3 : u64nat (s.custom.n : Int) = O.custom.length := by rw [u64nat_nat _ (by have := NSC.out; omega), HNLC.out]
                        have q4 : ∀ q : Bool, u64nat (flagN q : Int) = flagN q := fun q => by cases q <;> rfl
                        rw [Hl3.out, Hl2.out, Hl1.out, HL0.out]
                        unfold layO limB
                        rw [← HLH.out, q1, q2, q3, q4, q4, show shortB O.mat = be 2 s.mat.n ++ O.mat by unfold shortB; rw [hm0]]
                        simp [List.append_assoc]
                      have HWB := hid S.out.bel
                      have HOW : Hid (W9.ownsRow b 5 1 (.slice a' n' c') n' ((layO O).map B8)) := by
                        rw [hfin] at hown
                        exact ownsRow_base hown (fun k hk => Nat.le_of_lt (hF k (by rw [hFe]; simp [hk])))
                      clear hm hpb hown hne hFe hF hfin S
                      go_wp2_with fail
                      go_ret2
                      exact ⟨by rw [HBE.out]; exact HWB.out, .inr ⟨HR.out, _, _, _, rfl, by rw [HBE.out]; exact HOW.out⟩⟩
end Go.Proofs.YtdlkobmlnpijgaaDoor
