/- object.limits, link, custom, all[..]. -/
import Derived.Test.YtdlkobmlnpijgaaDoorObjTxt
namespace Go.Proofs.YtdlkobmlnpijgaaDoor
open Go.RowKit
set_option linter.unusedVariables false
set_option linter.unusedSimpArgs false
set_option maxRecDepth 1000000
set_option maxHeartbeats 3200000
theorem SlR.takeG {w : World} {s : Sl} {size : Nat} {xs : List Value} (h : SlR w s size xs) {k : Nat} (hk : k ≤ s.n) : SlR w ⟨s.a, k, s.c⟩ size (xs.take (k * size)) := by
  have hl : k * size ≤ s.n * size := Nat.mul_le_mul_right _ hk
  refine ⟨⟨by show _ = k * size; rw [List.length_take, h.rd.len]; omega, fun j hj => ?_⟩, h.no, Nat.le_trans hk h.sm, h.lt, Nat.le_trans hk h.nc⟩
  have hj' : j < k * size := hj
  obtain ⟨b, off, ha, hc⟩ := h.rd.cell j (by omega)
  refine ⟨b, off, ha, fun i u hu => hc i u ?_⟩
  rw [List.getElem?_take] at hu
  split at hu
  · exact hu
  · cases hu
theorem flat_take {α : Type} (f g : α → Value) (l : List α) (k : Nat) : (l.flatMap fun x => [f x, g x]).take (k * 2) = (l.take k).flatMap fun x => [f x, g x] := by
  induction l generalizing k with
  | nil => simp
  | cons x l ih =>
    cases k with
    | zero => simp
    | succ k =>
      rw [List.flatMap_cons, List.take_succ_cons, List.flatMap_cons, ← ih k, show (k + 1) * 2 = k * 2 + 2 by omega]
      simp [List.take_append]
/-- As far as the first k. -/
def AllTo {α : Type} (f : α → Bool) (l : List α) (k : Nat) : Prop := (∀ x ∈ l.take k, f x = true) ∧ (l.take k).Nodup
theorem AllTo.zero {α : Type} {f : α → Bool} {l : List α} : AllTo f l 0 := by unfold AllTo; simp
section
variable {α : Type} [DecidableEq α] {f : α → Bool} {l : List α} {k m : Nat} {x : α}
theorem AllTo.step (h : AllTo f l k) (hx : l[k]? = some x) (hf : f x = true) (hm : memB x (l.take k) = false) : AllTo f l (k + 1) := by
  have hn : x ∉ l.take k := fun h' => by rw [memB_iff.2 h'] at hm; cases hm
  unfold AllTo
  rw [List.take_add_one, hx]
  refine ⟨fun y hy => ?_, ?_⟩
  · rcases List.mem_append.1 hy with h' | h'
    · exact h.1 y h'
    · simp at h'; rw [h']; exact hf
  · rw [List.nodup_append]
    exact ⟨h.2, by simp, fun a ha b hb e => by simp at hb; subst hb; subst e; exact hn ha⟩
theorem all_bad (hx : l[k]? = some x) (hf : f x = false) : allO f m l = false := by
  cases hb : allO f m l with
  | false => rfl
  | true => have := (allO_iff.1 hb).1 x (List.mem_of_getElem? hx); rw [hf] at this; cases this
theorem all_twice (hx : l[k]? = some x) (hm : memB x (l.take k) = true) : allO f m l = false := by
  cases hb : allO f m l with
  | false => rfl
  | true =>
    have hn := (allO_iff.1 hb).2.1
    obtain ⟨j, hj⟩ := List.mem_iff_getElem?.1 (memB_iff.1 hm)
    rw [List.getElem?_take] at hj
    split at hj
    · rename_i hlt
      have hl : j < l.length := (List.getElem?_eq_some_iff.1 hj).1
      have := (List.getElem?_inj hl hn).1 (hj.trans hx.symm)
      omega
    · cases hj
theorem AllTo.done (h : AllTo f l k) (hk : l.length = k) : allO f m l = decide (k ≤ m) := by
  unfold AllTo at h
  rw [List.take_of_length_le (by omega)] at h
  by_cases hm : k ≤ m
  · rw [allO_iff.2 ⟨h.1, h.2, by omega⟩]; simp [hm]
  · cases hb : allO f m l with
    | false => simp [hm]
    | true => have := (allO_iff.1 hb).2.2; omega
end
theorem limits_any (O : ObjD) (w : World) : Calls Tryd.prog 64 #[.agg #[.bool O.limHas, .int .i64 O.total, .int .i64 O.count, .int .i64 O.unit]] w fun e w' => e = .returned (.bool (limOk O)) ∧ Below w.heap.size w w' := by
  obtain ⟨h, hh⟩ : ∃ h, O.limHas = h := ⟨_, rfl⟩
  obtain ⟨t, ht⟩ : ∃ h, O.total = h := ⟨_, rfl⟩
  obtain ⟨c, hc⟩ : ∃ h, O.count = h := ⟨_, rfl⟩
  obtain ⟨n, hn⟩ : ∃ h, O.unit = h := ⟨_, rfl⟩
  obtain ⟨r, hre⟩ : ∃ r, r = limOk O := ⟨_, rfl⟩
  rw [← hre]
  have hr : r = if h then inB t 1 1099511627776 && (inB c 0 t && inB n 1 2) else t == 0 && (c == 0 && n == 0) := by rw [hre]; unfold limOk; rw [hh, ht, hc, hn]
  rw [hh, ht, hc, hn]
  have HRE := hid hr
  clear hr hre hh ht hc hn
  have HB := hid ((Below.refl _ w).alloc (Nat.le_refl _) (.cells #[.bool h, .int .i64 t, .int .i64 c, .int .i64 n] 33))
  have c0 : (w.alloc (.cells #[.bool h, .int .i64 t, .int .i64 c, .int .i64 n] 33)).cell? ⟨w.heap.size, 0, none⟩ = some (.bool h) := cell_of_block (j := 0) (block_new w _) rfl
  have c1 : (w.alloc (.cells #[.bool h, .int .i64 t, .int .i64 c, .int .i64 n] 33)).cell? ⟨w.heap.size, 1, none⟩ = some (.int .i64 t) := cell_of_block (j := 1) (block_new w _) rfl
  have c2 : (w.alloc (.cells #[.bool h, .int .i64 t, .int .i64 c, .int .i64 n] 33)).cell? ⟨w.heap.size, 2, none⟩ = some (.int .i64 c) := cell_of_block (j := 2) (block_new w _) rfl
  have c3 : (w.alloc (.cells #[.bool h, .int .i64 t, .int .i64 c, .int .i64 n] 33)).cell? ⟨w.heap.size, 3, none⟩ = some (.int .i64 n) := cell_of_block (j := 3) (block_new w _) rfl
  cases h with
  | true =>
    have e0 : ((true : Bool) == false) = false := rfl
    by_cases q1 : ¬ (1 ≤ t)
    · have HR : Hid (r = false) := by show _ = _; rw [HRE.out]; unfold inB; simp [q1]
      go_enter Tryd.func64, Tryd.ntmps64
      go_wp2_with fail
      go_ret
      exact ⟨by rw [HR.out]; rfl, HB.out⟩
    have q1 := Decidable.not_not.1 q1
    by_cases q2 : ¬ (t ≤ 1099511627776)
    · have HR : Hid (r = false) := by show _ = _; rw [HRE.out]; unfold inB; simp [q2]
      go_enter Tryd.func64, Tryd.ntmps64
      go_wp2_with fail
      go_ret
      exact ⟨by rw [HR.out]; rfl, HB.out⟩
    have q2 := Decidable.not_not.1 q2
    by_cases q3 : ¬ (0 ≤ c)
    · have HR : Hid (r = false) := by show _ = _; rw [HRE.out]; unfold inB; simp [q3]
      go_enter Tryd.func64, Tryd.ntmps64
      go_wp2_with fail
      go_ret
      exact ⟨by rw [HR.out]; rfl, HB.out⟩
    have q3 := Decidable.not_not.1 q3
    by_cases q4 : ¬ (c ≤ t)
    · have HR : Hid (r = false) := by show _ = _; rw [HRE.out]; unfold inB; simp [q4]
      go_enter Tryd.func64, Tryd.ntmps64
      go_wp2_with fail
      go_ret
      exact ⟨by rw [HR.out]; rfl, HB.out⟩
    have q4 := Decidable.not_not.1 q4
    cases q5 : inB n 1 2 with
    | false =>
      have HR : Hid (r = false) := by show _ = _; rw [HRE.out]; simp [q5]
      have HQ := hid q5
      clear q5
      go_enter Tryd.func64, Tryd.ntmps64
      go_wp2_with fail
      refine (in3_any n 1 2 _).mono ?_
      rintro e u ⟨rfl, rfl⟩
      dsimp only
      rw [HQ.out]
      go_wp2_with fail
      go_ret
      exact ⟨by rw [HR.out]; rfl, HB.out⟩
    | true =>
      have HR : Hid (r = true) := by show _ = _; rw [HRE.out]; simp [q5]; unfold inB; simp [q1, q2, q3, q4]
      have HQ := hid q5
      clear q5
      go_enter Tryd.func64, Tryd.ntmps64
      go_wp2_with fail
      refine (in3_any n 1 2 _).mono ?_
      rintro e u ⟨rfl, rfl⟩
      dsimp only
      rw [HQ.out]
      go_wp2_with fail
      go_ret
      exact ⟨by rw [HR.out]; rfl, HB.out⟩
  | false =>
    by_cases q1 : ¬ (t = 0)
    · have hz : (t == 0) = false := by simp [q1]
      have HR : Hid (r = false) := by show _ = _; rw [HRE.out]; simp [q1]
      go_enter Tryd.func64, Tryd.ntmps64
      go_wp2_with fail
      go_ret
      exact ⟨by rw [HR.out]; rfl, HB.out⟩
    have q1 := Decidable.not_not.1 q1
    subst q1
    by_cases q2 : ¬ (c = 0)
    · have hz : (c == 0) = false := by simp [q2]
      have HR : Hid (r = false) := by show _ = _; rw [HRE.out]; simp [q2]
      go_enter Tryd.func64, Tryd.ntmps64
      go_wp2_with fail
      go_ret
      exact ⟨by rw [HR.out]; rfl, HB.out⟩
    have q2 := Decidable.not_not.1 q2
    subst q2
    by_cases q3 : ¬ (n = 0)
    · have hz : (n == 0) = false := by simp [q3]
      have HR : Hid (r = false) := by show _ = _; rw [HRE.out]; simp [q3]
      go_enter Tryd.func64, Tryd.ntmps64
      go_wp2_with fail
      go_ret
      exact ⟨by rw [HR.out]; rfl, HB.out⟩
    have q3 := Decidable.not_not.1 q3
    subst q3
    have HR : Hid (r = true) := by show _ = _; rw [HRE.out]; rfl
    go_enter Tryd.func64, Tryd.ntmps64
    go_wp2_with fail
    go_ret
    exact ⟨by rw [HR.out]; rfl, HB.out⟩
theorem link_any (x : Int × ByteArray) (w : World) (hT : UT w) : Calls Tryd.prog 61 #[.agg #[.int .i64 x.1, .string x.2]] w fun e w' => e = .returned (.bool (linkOk x)) ∧ Below w.heap.size w w' := by
  have hbw := (Below.refl _ w).alloc (Nat.le_refl _) (.cells #[.int .i64 x.1, .string x.2] 56)
  have HT1 := hid (hT.below hbw)
  have HB := hid hbw
  have HBK := hid (block_new w (.cells #[.int .i64 x.1, .string x.2] 56))
  have HSZ : Hid (w.heap.size ≤ (w.alloc (.cells #[.int .i64 x.1, .string x.2] 56)).heap.size) := by show _ ≤ _; simp
  clear hT hbw
  go_enter Tryd.func61, Tryd.ntmps61
  go_upto_region 1 with (fail)
  generalize w.alloc (.cells #[.int .i64 x.1, .string x.2] 56) = W at *
  have d0 := cell_of_block (j := 0) (v := .int .i64 x.1) HBK.out rfl
  have d1 := cell_of_block (j := 1) (v := .string x.2) HBK.out rfl
  cases q : inB x.1 101 110 with
  | false =>
    have HR : Hid (linkOk x = false) := by show _ = _; unfold linkOk; rw [q]; rfl
    have HQ := hid q
    clear q
    go_wp2_with fail
    refine (in3_any x.1 101 110 _).mono ?_
    rintro e u ⟨rfl, rfl⟩
    dsimp only
    rw [HQ.out]
    go_wp2_with fail
    go_ret
    exact ⟨by rw [HR.out]; rfl, HB.out⟩
  | true =>
    have HR : Hid (linkOk x = isT x.2) := by show _ = _; unfold linkOk; rw [q]; rfl
    have HQ := hid q
    clear q
    go_wp2_with fail
    refine (in3_any x.1 101 110 _).mono ?_
    rintro e u ⟨rfl, rfl⟩
    dsimp only
    rw [HQ.out]
    go_wp2_with fail
    refine (isText_any x.2 _ HT1.out).mono ?_
    rintro e W3 ⟨rfl, hb3⟩
    have HB3 := hid hb3
    clear hb3
    dsimp only
    go_wp2_with fail
    go_ret
    exact ⟨by rw [HR.out]; rfl, HB.out.trans (HB3.out.mono HSZ.out)⟩
theorem custom_any (x : ByteArray × ByteArray) (w : World) (hT : UT w) : Calls Tryd.prog 63 #[.agg #[.string x.1, .string x.2]] w fun e w' => e = .returned (.bool (custOk x)) ∧ Below w.heap.size w w' := by
  have hbw := (Below.refl _ w).alloc (Nat.le_refl _) (.cells #[.string x.1, .string x.2] 58)
  have HT1 := hid (hT.below hbw)
  have HB := hid hbw
  have HBK := hid (block_new w (.cells #[.string x.1, .string x.2] 58))
  have HSZ : Hid (w.heap.size ≤ (w.alloc (.cells #[.string x.1, .string x.2] 58)).heap.size) := by show _ ≤ _; simp
  clear hT hbw
  go_enter Tryd.func63, Tryd.ntmps63
  go_upto_region 1 with (fail)
  generalize w.alloc (.cells #[.string x.1, .string x.2] 58) = W at *
  have d0 := cell_of_block (j := 0) (v := .string x.1) HBK.out rfl
  have d1 := cell_of_block (j := 1) (v := .string x.2) HBK.out rfl
  cases q : isC x.1 with
  | false =>
    have HR : Hid (custOk x = false) := by show _ = _; unfold custOk; rw [q]; rfl
    have HQ := hid q
    clear q
    go_wp2_with fail
    refine (isCustom_any x.1 _ HT1.out).mono ?_
    rintro e W2 ⟨rfl, hb2⟩
    dsimp only
    rw [HQ.out]
    go_wp2_with fail
    go_ret
    exact ⟨by rw [HR.out]; rfl, HB.out.trans (hb2.mono HSZ.out)⟩
  | true =>
    have HR : Hid (custOk x = isT x.2) := by show _ = _; unfold custOk; rw [q]; rfl
    have HQ := hid q
    clear q
    go_wp2_with fail
    refine (isCustom_any x.1 _ HT1.out).mono ?_
    rintro e W2 ⟨rfl, hb2⟩
    dsimp only
    rw [HQ.out]
    have HT2 := hid (HT1.out.below hb2)
    have HB2 := hid (HB.out.trans (hb2.mono HSZ.out))
    have HSZ2 : Hid (w.heap.size ≤ W2.heap.size) := Nat.le_trans HSZ.out hb2.size
    have d1' := cellLater hb2 d1
    clear hb2 d0 d1
    go_wp2_with fail
    refine (isText_any x.2 _ HT2.out).mono ?_
    rintro e W3 ⟨rfl, hb3⟩
    have HB3 := hid hb3
    clear hb3
    dsimp only
    go_wp2_with fail
    go_ret
    exact ⟨by rw [HR.out]; rfl, HB2.out.trans (HB3.out.mono HSZ2.out)⟩
theorem allS_any (s : Sl) (l : List ByteArray) (most : Nat) (w : World) (hT : UT w) (h : SlR w s 1 (l.map Value.string)) :
    Calls Tryd.prog 59 #[.slice s.a s.n s.c, .int .i64 (most : Int), .func (.func 13) #[] #[]] w fun e w' => e = .returned (.bool (allO isT most l)) ∧ Below w.heap.size w w' := by
  have hsm := h.sm
  have HNC0 := hid h.nc
  have hl1 : l.length = s.n := by have := h.rd.len; simpa using this
  have HR := hid h; have HL := hid hl1; have HT0 := hid hT
  clear h hl1 hT
  obtain ⟨n1, hn1⟩ : ∃ n, n = s.n := ⟨_, rfl⟩
  have HN1 := hid hn1
  have HNC : Hid (n1 ≤ s.c) := by show _ ≤ _; rw [hn1]; exact HNC0.out
  rw [← hn1]
  rw [← hn1] at hsm
  clear hn1 HNC0
  generalize hbe : w.heap.size = b
  have HBE := hid hbe; clear hbe
  go_enter Tryd.func59, Tryd.ntmps59
  go_wp2_with fail
  go_loopw [11] (fun y wr => ∃ k : Nat, k ≤ n1 ∧ y = .int .i64 k ∧ Below b w wr ∧ UT wr ∧ AllTo isT l k) (fun y _ => n1 - (intOf y).toNat)
  case atStart => exact ⟨0, Nat.zero_le _, rfl, Below.refl _ _, HT0.out, AllTo.zero⟩
  case round =>
    obtain ⟨k, hk, rfl, hb, ht, ha⟩ := hrel
    have B := hid hb; have T := hid ht; have HA := hid ha
    clear hb ht ha
    by_cases hlt : k < n1
    · have hlt1 : k < s.n := by rw [← HN1.out]; exact hlt
      have hbel : Below w.heap.size w wr := by rw [HBE.out]; exact B.out
      obtain ⟨b1, o1, x, ha1, hx1, hd1⟩ := HR.out.one hlt1
      have C1 := hid (cellLater hbel hd1)
      have HX := hid hx1
      have HTK : Hid (SlR w ⟨s.a, k, s.c⟩ 1 ((l.take k).map Value.string)) := by have h := HR.out.takeG (k := k) (by rw [← HN1.out]; omega); rw [Nat.mul_one, ← List.map_take] at h; exact h
      have HBW : Hid (b ≤ wr.heap.size) := by show _ ≤ _; rw [← HBE.out]; exact hbel.size
      rw [ha1] at HTK ⊢
      clear hd1 hx1 hbel hlt1 ha1
      have hcc : wr.cell? ⟨b1, o1 + k, none⟩ = some (.string x) := C1.out
      have hli : (k : Int) < (n1 : Int) := by omega
      cases hf : isT x with
      | false =>
        have HF := hid hf
        have HR0 : Hid (allO isT most l = false) := all_bad HX.out hf
        clear hf
        go_wp2_with (first | (go_at_call 13; refine (isText_any x _ T.out).mono ?_; rintro e W3 ⟨rfl, hb3⟩; rw [HF.out]; have HB3 := hid hb3; clear hb3))
        go_ret
        exact ⟨by rw [HR0.out]; rfl, B.out.trans (HB3.out.mono HBW.out)⟩
      | true =>
        have HF := hid hf
        clear hf
        go_wp2_with fail
        refine (isText_any x _ T.out).mono ?_
        rintro e W3 ⟨rfl, hb3⟩
        rw [HF.out]
        have HB3 := hid (B.out.trans (hb3.mono HBW.out))
        have HT3 := hid (T.out.below hb3)
        have HTK3 := hid (HTK.out.below (show Below w.heap.size w W3 by rw [HBE.out]; exact HB3.out))
        have HSZ3 : Hid (b ≤ W3.heap.size) := Nat.le_trans HBW.out hb3.size
        have hsl : ∀ w, (Instr.slice 29 (.slice (some ⟨b1, o1, none⟩) n1 s.c) none (some (.int .i64 k)) none).run Tryd.prog w = .ok (.slice (some ⟨b1, o1, none⟩) k s.c) w := fun w => run_slice_front (P := Tryd.prog) 29 9 1 Tryd.underlying29 (fun w => by kernel_rfl) (some (⟨b1, o1, none⟩ : Addr)) n1 s.c k (by have := HNC.out; omega) w
        clear hb3 hcc C1
        cases hm : memB x (l.take k) with
        | true =>
          have HM := hid hm
          have HR0 : Hid (allO isT most l = false) := all_twice HX.out hm
          clear hm
          go_wp2_with (first | (go_at_call 91; refine (containsS_any ⟨some ⟨b1, o1, none⟩, k, s.c⟩ (l.take k) x _ HTK3.out).mono ?_; rintro e W4 ⟨rfl, hb4⟩; rw [HM.out]; have HB4 := hid hb4; clear hb4))
          go_ret
          exact ⟨by rw [HR0.out]; rfl, HB3.out.trans (HB4.out.mono HSZ3.out)⟩
        | false =>
          have HM := hid hm
          have HA2 : Hid (AllTo isT l (k + 1)) := HA.out.step HX.out HF.out hm
          clear hm
          go_wp2_with (first | (go_at_call 91; refine (containsS_any ⟨some ⟨b1, o1, none⟩, k, s.c⟩ (l.take k) x _ HTK3.out).mono ?_; rintro e W4 ⟨rfl, hb4⟩; rw [HM.out]; have HB4 := hid (HB3.out.trans (hb4.mono HSZ3.out)); have HT4 := hid (HT3.out.below hb4); clear hb4))
          go_roundw
          case rel =>
            first
              | exact ⟨k + 1, by omega, by go_num, HB4.out, HT4.out, HA2.out⟩
              | ((repeat apply Exists.intro); exact ⟨⟨k + 1, by omega, by go_num, HB4.out, HT4.out, HA2.out⟩, rfl⟩)
          case measure => simp [intOf]; omega
    · obtain rfl : k = n1 := by omega
      have hd := HA.out.done (m := most) (HL.out.trans HN1.out.symm)
      by_cases hm : k ≤ most
      · have hmi : (k : Int) ≤ (most : Int) := by omega
        have HR0 : Hid (allO isT most l = true) := by show _ = _; rw [hd]; simp [hm]
        clear hd
        go_wp2_with fail
        go_ret
        exact ⟨by rw [HR0.out]; rfl, B.out⟩
      · have hmi : ¬ (k : Int) ≤ (most : Int) := by omega
        have HR0 : Hid (allO isT most l = false) := by show _ = _; rw [hd]; simp [hm]
        clear hd
        go_wp2_with fail
        go_ret
        exact ⟨by rw [HR0.out]; rfl, B.out⟩
theorem allL_any (s : Sl) (l : List (Int × ByteArray)) (most : Nat) (w : World) (hT : UT w) (h : SlR w s 2 (linkCells l)) :
    Calls Tryd.prog 60 #[.slice s.a s.n s.c, .int .i64 (most : Int), .func (.func 61) #[] #[]] w fun e w' => e = .returned (.bool (allO linkOk most l)) ∧ Below w.heap.size w w' := by
  have hsm := h.sm
  have HNC0 := hid h.nc
  have hl1 : l.length = s.n := by have := h.rd.len; unfold linkCells at this; rw [flat_len] at this; omega
  have HR := hid h; have HL := hid hl1; have HT0 := hid hT
  clear h hl1 hT
  obtain ⟨n1, hn1⟩ : ∃ n, n = s.n := ⟨_, rfl⟩
  have HN1 := hid hn1
  have HNC : Hid (n1 ≤ s.c) := by show _ ≤ _; rw [hn1]; exact HNC0.out
  rw [← hn1]
  rw [← hn1] at hsm
  clear hn1 HNC0
  generalize hbe : w.heap.size = b
  have HBE := hid hbe; clear hbe
  go_enter Tryd.func60, Tryd.ntmps60
  go_wp2_with fail
  go_loopw [11] (fun y wr => ∃ k : Nat, k ≤ n1 ∧ y = .int .i64 k ∧ Below b w wr ∧ UT wr ∧ AllTo linkOk l k) (fun y _ => n1 - (intOf y).toNat)
  case atStart => exact ⟨0, Nat.zero_le _, rfl, Below.refl _ _, HT0.out, AllTo.zero⟩
  case round =>
    obtain ⟨k, hk, rfl, hb, ht, ha⟩ := hrel
    have B := hid hb; have T := hid ht; have HA := hid ha
    clear hb ht ha
    by_cases hlt : k < n1
    · have hlt1 : k < s.n := by rw [← HN1.out]; exact hlt
      have hbel : Below w.heap.size w wr := by rw [HBE.out]; exact B.out
      obtain ⟨b1, o1, x, ha1, hx1, hd1⟩ := SlR.pairR HR.out hlt1
      have C1 := hid (range_below hbel hd1)
      have HX := hid hx1
      have HTK : Hid (SlR w ⟨s.a, k, s.c⟩ 2 (linkCells (l.take k))) := by have h := HR.out.takeG (k := k) (by rw [← HN1.out]; omega); unfold linkCells at h; rw [flat_take] at h; exact h
      have HBW : Hid (b ≤ wr.heap.size) := by show _ ≤ _; rw [← HBE.out]; exact hbel.size
      rw [ha1] at HTK ⊢
      clear hd1 hx1 hbel hlt1 ha1
      have hli : (k : Int) < (n1 : Int) := by omega
      go_upto_region 4 with (first | (refine wpList_load_mid rfl 56 _ rfl b1 _ rfl (#[.int .i64 x.1, .string x.2] : Array Value).toList _ C1.out Tryd.underlying56 rfl oSzL ?_; simp only [Array.toArray_toList]) | (refine wpList_alloc_obj rfl 56 rfl _ oZrL ?_) | (refine wpList_store_obj rfl 56 _ _ rfl wr.heap.size rfl #[.int .i64 x.1, .string x.2] rfl _ _ (block_new wr _) rfl oSzL (oneL _) ?_; intro w2 hb2 hc2 hs2; have HB_w2 := hid hb2; have HC_w2 := hid hc2; clear hb2 hc2 hs2))
      have hbel2 : Below wr.heap.size wr w2 := ((Below.refl _ wr).alloc (Nat.le_refl _) _).trans (HC_w2.out.below (fun k hk => by rw [List.mem_singleton.1 hk]; exact Nat.le_refl _) (by simp))
      have BX := hid (B.out.trans (hbel2.mono HBW.out)); have TX := hid (T.out.below hbel2)
      have HTKX := hid (HTK.out.below (show Below w.heap.size w w2 by rw [HBE.out]; exact BX.out))
      have HBWX : Hid (b ≤ w2.heap.size) := Nat.le_trans HBW.out hbel2.size
      have HBX := HB_w2
      have HSL := hid (fun w => run_slice_front (P := Tryd.prog) 30 56 2 Tryd.underlying30 (fun w => by kernel_rfl) (some (⟨b1, o1, none⟩ : Addr)) n1 s.c k (by have := HNC.out; omega) w)
      clear hbel2 HB_w2 HC_w2 B T C1
      generalize wr.heap.size = px at *
      cases hf : linkOk x with
      | false =>
        have HF := hid hf
        have HR0 : Hid (allO linkOk most l = false) := all_bad HX.out hf
        clear hf
        refine wp_region_each 11 [.eq (.func (.func 61) #[] #[]), .eq (.agg #[.int .i64 x.1, .string x.2]), .eq (.bool false), .eq (.bool true), .eq (.bool true), .eq undef, .eq undef, .eq undef, .eq undef, .eq undef, .eq (.bool true)] (by kernel_rfl) (by kernel_rfl) (by kernel_rfl) (by kernel_rfl) ?_ ?_
        · all_goals
            refine each_5 ?_ ?_ ?_ ?_ ?_ (each_5 ?_ ?_ ?_ ?_ ?_ (each_c ?_ (each_n)))
            · intro w1 hg Ar seen
              have s2 := seen.sl 2 (.func (.func 61) #[] #[])
              refine does_plain rfl fun K Q' hK => ?_
              go_simp; exact hK _ _ (Grow.refl _) rfl
            · intro w1 hg Ar seen
              have s8 := seen.sl 8 (.pointer (some ⟨px, 0, none⟩))
              refine does_plain rfl fun K Q' hK => ?_
              refine wp_load_row 56 _ rfl px (by simp [Act.eval, s8]) _ _ _ _ ((hg.block _ (block_lt HBX.out)).trans HBX.out) Tryd.underlying56 rfl oSzL ?_
              exact hK _ _ (Grow.refl _) rfl
            · intro w1 hg Ar seen
              have e0 := seen.de 0 16
              have e1 := seen.de 1 17
              refine does_plain rfl fun K Q' hK => ?_
              go_simp
              refine (link_any x _ (TX.out.below hg)).mono ?_
              rintro e u ⟨rfl, hb⟩
              rw [HF.out]
              exact hK _ _ hb rfl
            · intro w1 hg Ar seen
              have e2 := seen.de 2 18
              refine does_plain rfl fun K Q' hK => ?_
              go_simp; exact hK _ _ (Grow.refl _) rfl
            · intro w1 hg Ar seen
              have e3 := seen.de 3 19
              refine does_plain rfl fun K Q' hK => ?_
              go_simp; exact hK _ _ (Grow.refl _) rfl
            · intro w1 hg Ar seen
              have e4 := seen.de 4 20
              exact does_off rfl (by kernel_rfl) e4 ne_tf (Grow.refl _) rfl
            · intro w1 hg Ar seen
              have e4 := seen.de 4 20
              exact does_off rfl (by kernel_rfl) e4 ne_tf (Grow.refl _) rfl
            · intro w1 hg Ar seen
              have e4 := seen.de 4 20
              exact does_off rfl (by kernel_rfl) e4 ne_tf (Grow.refl _) rfl
            · intro w1 hg Ar seen
              have e4 := seen.de 4 20
              exact does_off rfl (by kernel_rfl) e4 ne_tf (Grow.refl _) rfl
            · intro w1 hg Ar seen
              have e4 := seen.de 4 20
              exact does_off rfl (by kernel_rfl) e4 ne_tf (Grow.refl _) rfl
            · intro w1 hg Ar seen
              have e4 := seen.de 4 20
              have e9 := seen.de 9 25
              refine does_plain rfl fun K Q' hK => ?_
              go_simp; exact hK _ _ (Grow.refl _) rfl
        intro w1 hg
        refine upon_w' (js := [0, 1, 2, 3, 4, 5, 6, 7, 8, 9, 10]) (by rfl) ?_
        refine upon_e (some 16) (upon_e (some 17) (upon_e (some 18) (upon_e (some 19) (upon_e (some 20) (upon_e (some 21) (upon_e (some 22) (upon_e (some 23) (upon_e (some 24) (upon_e (some 25) (upon_e (some 26) (upon_n ?_)))))))))))
        go_simp
        have HB3 := hid (BX.out.trans (hg.mono HBWX.out))
        clear hg
        go_wp2_with fail
        go_ret
        exact ⟨by rw [HR0.out]; rfl, HB3.out⟩
      | true =>
        have HF := hid hf
        clear hf
        cases hm : memB x (l.take k) with
        | true =>
          have HM := hid hm
          have HR0 : Hid (allO linkOk most l = false) := all_twice HX.out hm
          clear hm
          refine wp_region_each 11 [.eq (.func (.func 61) #[] #[]), .eq (.agg #[.int .i64 x.1, .string x.2]), .eq (.bool true), .eq (.bool false), .eq (.bool false), .eq (.slice (some ⟨b1, o1, none⟩) n1 s.c), .eq (.int .i64 (k : Int)), .eq (.slice (some ⟨b1, o1, none⟩) k s.c), .eq (.agg #[.int .i64 x.1, .string x.2]), .eq (.bool true), .eq (.bool true)] (by kernel_rfl) (by kernel_rfl) (by kernel_rfl) (by kernel_rfl) ?_ ?_
          · all_goals
              refine each_5 ?_ ?_ ?_ ?_ ?_ (each_5 ?_ ?_ ?_ ?_ ?_ (each_c ?_ (each_n)))
              · intro w1 hg Ar seen
                have s2 := seen.sl 2 (.func (.func 61) #[] #[])
                refine does_plain rfl fun K Q' hK => ?_
                go_simp; exact hK _ _ (Grow.refl _) rfl
              · intro w1 hg Ar seen
                have s8 := seen.sl 8 (.pointer (some ⟨px, 0, none⟩))
                refine does_plain rfl fun K Q' hK => ?_
                refine wp_load_row 56 _ rfl px (by simp [Act.eval, s8]) _ _ _ _ ((hg.block _ (block_lt HBX.out)).trans HBX.out) Tryd.underlying56 rfl oSzL ?_
                exact hK _ _ (Grow.refl _) rfl
              · intro w1 hg Ar seen
                have e0 := seen.de 0 16
                have e1 := seen.de 1 17
                refine does_plain rfl fun K Q' hK => ?_
                go_simp
                refine (link_any x _ (TX.out.below hg)).mono ?_
                rintro e u ⟨rfl, hb⟩
                rw [HF.out]
                exact hK _ _ hb rfl
              · intro w1 hg Ar seen
                have e2 := seen.de 2 18
                refine does_plain rfl fun K Q' hK => ?_
                go_simp; exact hK _ _ (Grow.refl _) rfl
              · intro w1 hg Ar seen
                have e3 := seen.de 3 19
                refine does_plain rfl fun K Q' hK => ?_
                go_simp; exact hK _ _ (Grow.refl _) rfl
              · intro w1 hg Ar seen
                have e4 := seen.de 4 20
                have s0 := seen.sl 0 (.slice (some ⟨b1, o1, none⟩) n1 s.c)
                refine does_on rfl (by kernel_rfl) e4 fun K Q' hK => ?_
                clear e4
                go_simp; exact hK _ _ (Grow.refl _) rfl
              · intro w1 hg Ar seen
                have e4 := seen.de 4 20
                have s7 := seen.sl 7 (.int .i64 (k : Int))
                refine does_on rfl (by kernel_rfl) e4 fun K Q' hK => ?_
                clear e4
                go_simp; exact hK _ _ (Grow.refl _) rfl
              · intro w1 hg Ar seen
                have e5 := seen.de 5 21
                have e6 := seen.de 6 22
                have e4 := seen.de 4 20
                refine does_on rfl (by kernel_rfl) e4 fun K Q' hK => ?_
                clear e4
                have hsl := HSL.out
                go_simp; exact hK _ _ (Grow.refl _) rfl
              · intro w1 hg Ar seen
                have e4 := seen.de 4 20
                have s8 := seen.sl 8 (.pointer (some ⟨px, 0, none⟩))
                refine does_on rfl (by kernel_rfl) e4 fun K Q' hK => ?_
                clear e4
                refine wp_load_row 56 _ rfl px (by simp [Act.eval, s8]) _ _ _ _ ((hg.block _ (block_lt HBX.out)).trans HBX.out) Tryd.underlying56 rfl oSzL ?_
                exact hK _ _ (Grow.refl _) rfl
              · intro w1 hg Ar seen
                have e7 := seen.de 7 23
                have e8 := seen.de 8 24
                have e4 := seen.de 4 20
                refine does_on rfl (by kernel_rfl) e4 fun K Q' hK => ?_
                clear e4
                go_simp
                refine (containsL_any ⟨some ⟨b1, o1, none⟩, k, s.c⟩ (l.take k) x _ (HTKX.out.below hg)).mono ?_
                rintro e u ⟨rfl, hb⟩
                rw [HM.out]
                exact hK _ _ hb rfl
              · intro w1 hg Ar seen
                have e4 := seen.de 4 20
                have e9 := seen.de 9 25
                refine does_plain rfl fun K Q' hK => ?_
                go_simp; exact hK _ _ (Grow.refl _) rfl
          intro w1 hg
          refine upon_w' (js := [0, 1, 2, 3, 4, 5, 6, 7, 8, 9, 10]) (by rfl) ?_
          refine upon_e (some 16) (upon_e (some 17) (upon_e (some 18) (upon_e (some 19) (upon_e (some 20) (upon_e (some 21) (upon_e (some 22) (upon_e (some 23) (upon_e (some 24) (upon_e (some 25) (upon_e (some 26) (upon_n ?_)))))))))))
          go_simp
          have HB3 := hid (BX.out.trans (hg.mono HBWX.out))
          clear hg
          go_wp2_with fail
          go_ret
          exact ⟨by rw [HR0.out]; rfl, HB3.out⟩
        | false =>
          have HM := hid hm
          have HA2 : Hid (AllTo linkOk l (k + 1)) := HA.out.step HX.out HF.out hm
          clear hm
          refine wp_region_each 11 [.eq (.func (.func 61) #[] #[]), .eq (.agg #[.int .i64 x.1, .string x.2]), .eq (.bool true), .eq (.bool false), .eq (.bool false), .eq (.slice (some ⟨b1, o1, none⟩) n1 s.c), .eq (.int .i64 (k : Int)), .eq (.slice (some ⟨b1, o1, none⟩) k s.c), .eq (.agg #[.int .i64 x.1, .string x.2]), .eq (.bool false), .eq (.bool false)] (by kernel_rfl) (by kernel_rfl) (by kernel_rfl) (by kernel_rfl) ?_ ?_
          · all_goals
              refine each_5 ?_ ?_ ?_ ?_ ?_ (each_5 ?_ ?_ ?_ ?_ ?_ (each_c ?_ (each_n)))
              · intro w1 hg Ar seen
                have s2 := seen.sl 2 (.func (.func 61) #[] #[])
                refine does_plain rfl fun K Q' hK => ?_
                go_simp; exact hK _ _ (Grow.refl _) rfl
              · intro w1 hg Ar seen
                have s8 := seen.sl 8 (.pointer (some ⟨px, 0, none⟩))
                refine does_plain rfl fun K Q' hK => ?_
                refine wp_load_row 56 _ rfl px (by simp [Act.eval, s8]) _ _ _ _ ((hg.block _ (block_lt HBX.out)).trans HBX.out) Tryd.underlying56 rfl oSzL ?_
                exact hK _ _ (Grow.refl _) rfl
              · intro w1 hg Ar seen
                have e0 := seen.de 0 16
                have e1 := seen.de 1 17
                refine does_plain rfl fun K Q' hK => ?_
                go_simp
                refine (link_any x _ (TX.out.below hg)).mono ?_
                rintro e u ⟨rfl, hb⟩
                rw [HF.out]
                exact hK _ _ hb rfl
              · intro w1 hg Ar seen
                have e2 := seen.de 2 18
                refine does_plain rfl fun K Q' hK => ?_
                go_simp; exact hK _ _ (Grow.refl _) rfl
              · intro w1 hg Ar seen
                have e3 := seen.de 3 19
                refine does_plain rfl fun K Q' hK => ?_
                go_simp; exact hK _ _ (Grow.refl _) rfl
              · intro w1 hg Ar seen
                have e4 := seen.de 4 20
                have s0 := seen.sl 0 (.slice (some ⟨b1, o1, none⟩) n1 s.c)
                refine does_on rfl (by kernel_rfl) e4 fun K Q' hK => ?_
                clear e4
                go_simp; exact hK _ _ (Grow.refl _) rfl
              · intro w1 hg Ar seen
                have e4 := seen.de 4 20
                have s7 := seen.sl 7 (.int .i64 (k : Int))
                refine does_on rfl (by kernel_rfl) e4 fun K Q' hK => ?_
                clear e4
                go_simp; exact hK _ _ (Grow.refl _) rfl
              · intro w1 hg Ar seen
                have e5 := seen.de 5 21
                have e6 := seen.de 6 22
                have e4 := seen.de 4 20
                refine does_on rfl (by kernel_rfl) e4 fun K Q' hK => ?_
                clear e4
                have hsl := HSL.out
                go_simp; exact hK _ _ (Grow.refl _) rfl
              · intro w1 hg Ar seen
                have e4 := seen.de 4 20
                have s8 := seen.sl 8 (.pointer (some ⟨px, 0, none⟩))
                refine does_on rfl (by kernel_rfl) e4 fun K Q' hK => ?_
                clear e4
                refine wp_load_row 56 _ rfl px (by simp [Act.eval, s8]) _ _ _ _ ((hg.block _ (block_lt HBX.out)).trans HBX.out) Tryd.underlying56 rfl oSzL ?_
                exact hK _ _ (Grow.refl _) rfl
              · intro w1 hg Ar seen
                have e7 := seen.de 7 23
                have e8 := seen.de 8 24
                have e4 := seen.de 4 20
                refine does_on rfl (by kernel_rfl) e4 fun K Q' hK => ?_
                clear e4
                go_simp
                refine (containsL_any ⟨some ⟨b1, o1, none⟩, k, s.c⟩ (l.take k) x _ (HTKX.out.below hg)).mono ?_
                rintro e u ⟨rfl, hb⟩
                rw [HM.out]
                exact hK _ _ hb rfl
              · intro w1 hg Ar seen
                have e4 := seen.de 4 20
                have e9 := seen.de 9 25
                refine does_plain rfl fun K Q' hK => ?_
                go_simp; exact hK _ _ (Grow.refl _) rfl
          intro w1 hg
          refine upon_w' (js := [0, 1, 2, 3, 4, 5, 6, 7, 8, 9, 10]) (by rfl) ?_
          refine upon_e (some 16) (upon_e (some 17) (upon_e (some 18) (upon_e (some 19) (upon_e (some 20) (upon_e (some 21) (upon_e (some 22) (upon_e (some 23) (upon_e (some 24) (upon_e (some 25) (upon_e (some 26) (upon_n ?_)))))))))))
          go_simp
          have HB4 := hid (BX.out.trans (hg.mono HBWX.out))
          have HT4 := hid (TX.out.below hg)
          clear hg
          go_wp2_with fail
          go_roundw
          case rel =>
            first
              | exact ⟨k + 1, by omega, by go_num, HB4.out, HT4.out, HA2.out⟩
              | ((repeat apply Exists.intro); exact ⟨⟨k + 1, by omega, by go_num, HB4.out, HT4.out, HA2.out⟩, rfl⟩)
          case measure => simp [intOf]; omega
    · obtain rfl : k = n1 := by omega
      have hd := HA.out.done (m := most) (HL.out.trans HN1.out.symm)
      by_cases hm : k ≤ most
      · have hmi : (k : Int) ≤ (most : Int) := by omega
        have HR0 : Hid (allO linkOk most l = true) := by show _ = _; rw [hd]; simp [hm]
        clear hd
        go_wp2_with fail
        go_ret
        exact ⟨by rw [HR0.out]; rfl, B.out⟩
      · have hmi : ¬ (k : Int) ≤ (most : Int) := by omega
        have HR0 : Hid (allO linkOk most l = false) := by show _ = _; rw [hd]; simp [hm]
        clear hd
        go_wp2_with fail
        go_ret
        exact ⟨by rw [HR0.out]; rfl, B.out⟩
theorem allC_any (s : Sl) (l : List (ByteArray × ByteArray)) (most : Nat) (w : World) (hT : UT w) (h : SlR w s 2 (custCells l)) :
    Calls Tryd.prog 62 #[.slice s.a s.n s.c, .int .i64 (most : Int), .func (.func 63) #[] #[]] w fun e w' => e = .returned (.bool (allO custOk most l)) ∧ Below w.heap.size w w' := by
  have hsm := h.sm
  have HNC0 := hid h.nc
  have hl1 : l.length = s.n := by have := h.rd.len; unfold custCells at this; rw [flat_len] at this; omega
  have HR := hid h; have HL := hid hl1; have HT0 := hid hT
  clear h hl1 hT
  obtain ⟨n1, hn1⟩ : ∃ n, n = s.n := ⟨_, rfl⟩
  have HN1 := hid hn1
  have HNC : Hid (n1 ≤ s.c) := by show _ ≤ _; rw [hn1]; exact HNC0.out
  rw [← hn1]
  rw [← hn1] at hsm
  clear hn1 HNC0
  generalize hbe : w.heap.size = b
  have HBE := hid hbe; clear hbe
  go_enter Tryd.func62, Tryd.ntmps62
  go_wp2_with fail
  go_loopw [11] (fun y wr => ∃ k : Nat, k ≤ n1 ∧ y = .int .i64 k ∧ Below b w wr ∧ UT wr ∧ AllTo custOk l k) (fun y _ => n1 - (intOf y).toNat)
  case atStart => exact ⟨0, Nat.zero_le _, rfl, Below.refl _ _, HT0.out, AllTo.zero⟩
  case round =>
    obtain ⟨k, hk, rfl, hb, ht, ha⟩ := hrel
    have B := hid hb; have T := hid ht; have HA := hid ha
    clear hb ht ha
    by_cases hlt : k < n1
    · have hlt1 : k < s.n := by rw [← HN1.out]; exact hlt
      have hbel : Below w.heap.size w wr := by rw [HBE.out]; exact B.out
      obtain ⟨b1, o1, x, ha1, hx1, hd1⟩ := SlR.pairR HR.out hlt1
      have C1 := hid (range_below hbel hd1)
      have HX := hid hx1
      have HTK : Hid (SlR w ⟨s.a, k, s.c⟩ 2 (custCells (l.take k))) := by have h := HR.out.takeG (k := k) (by rw [← HN1.out]; omega); unfold custCells at h; rw [flat_take] at h; exact h
      have HBW : Hid (b ≤ wr.heap.size) := by show _ ≤ _; rw [← HBE.out]; exact hbel.size
      rw [ha1] at HTK ⊢
      clear hd1 hx1 hbel hlt1 ha1
      have hli : (k : Int) < (n1 : Int) := by omega
      go_upto_region 4 with (first | (refine wpList_load_mid rfl 58 _ rfl b1 _ rfl (#[.string x.1, .string x.2] : Array Value).toList _ C1.out Tryd.underlying58 rfl oSzC ?_; simp only [Array.toArray_toList]) | (refine wpList_alloc_obj rfl 58 rfl _ oZrC ?_) | (refine wpList_store_obj rfl 58 _ _ rfl wr.heap.size rfl #[.string x.1, .string x.2] rfl _ _ (block_new wr _) rfl oSzC (oneC _) ?_; intro w2 hb2 hc2 hs2; have HB_w2 := hid hb2; have HC_w2 := hid hc2; clear hb2 hc2 hs2))
      have hbel2 : Below wr.heap.size wr w2 := ((Below.refl _ wr).alloc (Nat.le_refl _) _).trans (HC_w2.out.below (fun k hk => by rw [List.mem_singleton.1 hk]; exact Nat.le_refl _) (by simp))
      have BX := hid (B.out.trans (hbel2.mono HBW.out)); have TX := hid (T.out.below hbel2)
      have HTKX := hid (HTK.out.below (show Below w.heap.size w w2 by rw [HBE.out]; exact BX.out))
      have HBWX : Hid (b ≤ w2.heap.size) := Nat.le_trans HBW.out hbel2.size
      have HBX := HB_w2
      have HSL := hid (fun w => run_slice_front (P := Tryd.prog) 31 58 2 Tryd.underlying31 (fun w => by kernel_rfl) (some (⟨b1, o1, none⟩ : Addr)) n1 s.c k (by have := HNC.out; omega) w)
      clear hbel2 HB_w2 HC_w2 B T C1
      generalize wr.heap.size = px at *
      cases hf : custOk x with
      | false =>
        have HF := hid hf
        have HR0 : Hid (allO custOk most l = false) := all_bad HX.out hf
        clear hf
        refine wp_region_each 11 [.eq (.func (.func 63) #[] #[]), .eq (.agg #[.string x.1, .string x.2]), .eq (.bool false), .eq (.bool true), .eq (.bool true), .eq undef, .eq undef, .eq undef, .eq undef, .eq undef, .eq (.bool true)] (by kernel_rfl) (by kernel_rfl) (by kernel_rfl) (by kernel_rfl) ?_ ?_
        · all_goals
            refine each_5 ?_ ?_ ?_ ?_ ?_ (each_5 ?_ ?_ ?_ ?_ ?_ (each_c ?_ (each_n)))
            · intro w1 hg Ar seen
              have s2 := seen.sl 2 (.func (.func 63) #[] #[])
              refine does_plain rfl fun K Q' hK => ?_
              go_simp; exact hK _ _ (Grow.refl _) rfl
            · intro w1 hg Ar seen
              have s8 := seen.sl 8 (.pointer (some ⟨px, 0, none⟩))
              refine does_plain rfl fun K Q' hK => ?_
              refine wp_load_row 58 _ rfl px (by simp [Act.eval, s8]) _ _ _ _ ((hg.block _ (block_lt HBX.out)).trans HBX.out) Tryd.underlying58 rfl oSzC ?_
              exact hK _ _ (Grow.refl _) rfl
            · intro w1 hg Ar seen
              have e0 := seen.de 0 16
              have e1 := seen.de 1 17
              refine does_plain rfl fun K Q' hK => ?_
              go_simp
              refine (custom_any x _ (TX.out.below hg)).mono ?_
              rintro e u ⟨rfl, hb⟩
              rw [HF.out]
              exact hK _ _ hb rfl
            · intro w1 hg Ar seen
              have e2 := seen.de 2 18
              refine does_plain rfl fun K Q' hK => ?_
              go_simp; exact hK _ _ (Grow.refl _) rfl
            · intro w1 hg Ar seen
              have e3 := seen.de 3 19
              refine does_plain rfl fun K Q' hK => ?_
              go_simp; exact hK _ _ (Grow.refl _) rfl
            · intro w1 hg Ar seen
              have e4 := seen.de 4 20
              exact does_off rfl (by kernel_rfl) e4 ne_tf (Grow.refl _) rfl
            · intro w1 hg Ar seen
              have e4 := seen.de 4 20
              exact does_off rfl (by kernel_rfl) e4 ne_tf (Grow.refl _) rfl
            · intro w1 hg Ar seen
              have e4 := seen.de 4 20
              exact does_off rfl (by kernel_rfl) e4 ne_tf (Grow.refl _) rfl
            · intro w1 hg Ar seen
              have e4 := seen.de 4 20
              exact does_off rfl (by kernel_rfl) e4 ne_tf (Grow.refl _) rfl
            · intro w1 hg Ar seen
              have e4 := seen.de 4 20
              exact does_off rfl (by kernel_rfl) e4 ne_tf (Grow.refl _) rfl
            · intro w1 hg Ar seen
              have e4 := seen.de 4 20
              have e9 := seen.de 9 25
              refine does_plain rfl fun K Q' hK => ?_
              go_simp; exact hK _ _ (Grow.refl _) rfl
        intro w1 hg
        refine upon_w' (js := [0, 1, 2, 3, 4, 5, 6, 7, 8, 9, 10]) (by rfl) ?_
        refine upon_e (some 16) (upon_e (some 17) (upon_e (some 18) (upon_e (some 19) (upon_e (some 20) (upon_e (some 21) (upon_e (some 22) (upon_e (some 23) (upon_e (some 24) (upon_e (some 25) (upon_e (some 26) (upon_n ?_)))))))))))
        go_simp
        have HB3 := hid (BX.out.trans (hg.mono HBWX.out))
        clear hg
        go_wp2_with fail
        go_ret
        exact ⟨by rw [HR0.out]; rfl, HB3.out⟩
      | true =>
        have HF := hid hf
        clear hf
        cases hm : memB x (l.take k) with
        | true =>
          have HM := hid hm
          have HR0 : Hid (allO custOk most l = false) := all_twice HX.out hm
          clear hm
          refine wp_region_each 11 [.eq (.func (.func 63) #[] #[]), .eq (.agg #[.string x.1, .string x.2]), .eq (.bool true), .eq (.bool false), .eq (.bool false), .eq (.slice (some ⟨b1, o1, none⟩) n1 s.c), .eq (.int .i64 (k : Int)), .eq (.slice (some ⟨b1, o1, none⟩) k s.c), .eq (.agg #[.string x.1, .string x.2]), .eq (.bool true), .eq (.bool true)] (by kernel_rfl) (by kernel_rfl) (by kernel_rfl) (by kernel_rfl) ?_ ?_
          · all_goals
              refine each_5 ?_ ?_ ?_ ?_ ?_ (each_5 ?_ ?_ ?_ ?_ ?_ (each_c ?_ (each_n)))
              · intro w1 hg Ar seen
                have s2 := seen.sl 2 (.func (.func 63) #[] #[])
                refine does_plain rfl fun K Q' hK => ?_
                go_simp; exact hK _ _ (Grow.refl _) rfl
              · intro w1 hg Ar seen
                have s8 := seen.sl 8 (.pointer (some ⟨px, 0, none⟩))
                refine does_plain rfl fun K Q' hK => ?_
                refine wp_load_row 58 _ rfl px (by simp [Act.eval, s8]) _ _ _ _ ((hg.block _ (block_lt HBX.out)).trans HBX.out) Tryd.underlying58 rfl oSzC ?_
                exact hK _ _ (Grow.refl _) rfl
              · intro w1 hg Ar seen
                have e0 := seen.de 0 16
                have e1 := seen.de 1 17
                refine does_plain rfl fun K Q' hK => ?_
                go_simp
                refine (custom_any x _ (TX.out.below hg)).mono ?_
                rintro e u ⟨rfl, hb⟩
                rw [HF.out]
                exact hK _ _ hb rfl
              · intro w1 hg Ar seen
                have e2 := seen.de 2 18
                refine does_plain rfl fun K Q' hK => ?_
                go_simp; exact hK _ _ (Grow.refl _) rfl
              · intro w1 hg Ar seen
                have e3 := seen.de 3 19
                refine does_plain rfl fun K Q' hK => ?_
                go_simp; exact hK _ _ (Grow.refl _) rfl
              · intro w1 hg Ar seen
                have e4 := seen.de 4 20
                have s0 := seen.sl 0 (.slice (some ⟨b1, o1, none⟩) n1 s.c)
                refine does_on rfl (by kernel_rfl) e4 fun K Q' hK => ?_
                clear e4
                go_simp; exact hK _ _ (Grow.refl _) rfl
              · intro w1 hg Ar seen
                have e4 := seen.de 4 20
                have s7 := seen.sl 7 (.int .i64 (k : Int))
                refine does_on rfl (by kernel_rfl) e4 fun K Q' hK => ?_
                clear e4
                go_simp; exact hK _ _ (Grow.refl _) rfl
              · intro w1 hg Ar seen
                have e5 := seen.de 5 21
                have e6 := seen.de 6 22
                have e4 := seen.de 4 20
                refine does_on rfl (by kernel_rfl) e4 fun K Q' hK => ?_
                clear e4
                have hsl := HSL.out
                go_simp; exact hK _ _ (Grow.refl _) rfl
              · intro w1 hg Ar seen
                have e4 := seen.de 4 20
                have s8 := seen.sl 8 (.pointer (some ⟨px, 0, none⟩))
                refine does_on rfl (by kernel_rfl) e4 fun K Q' hK => ?_
                clear e4
                refine wp_load_row 58 _ rfl px (by simp [Act.eval, s8]) _ _ _ _ ((hg.block _ (block_lt HBX.out)).trans HBX.out) Tryd.underlying58 rfl oSzC ?_
                exact hK _ _ (Grow.refl _) rfl
              · intro w1 hg Ar seen
                have e7 := seen.de 7 23
                have e8 := seen.de 8 24
                have e4 := seen.de 4 20
                refine does_on rfl (by kernel_rfl) e4 fun K Q' hK => ?_
                clear e4
                go_simp
                refine (containsC_any ⟨some ⟨b1, o1, none⟩, k, s.c⟩ (l.take k) x _ (HTKX.out.below hg)).mono ?_
                rintro e u ⟨rfl, hb⟩
                rw [HM.out]
                exact hK _ _ hb rfl
              · intro w1 hg Ar seen
                have e4 := seen.de 4 20
                have e9 := seen.de 9 25
                refine does_plain rfl fun K Q' hK => ?_
                go_simp; exact hK _ _ (Grow.refl _) rfl
          intro w1 hg
          refine upon_w' (js := [0, 1, 2, 3, 4, 5, 6, 7, 8, 9, 10]) (by rfl) ?_
          refine upon_e (some 16) (upon_e (some 17) (upon_e (some 18) (upon_e (some 19) (upon_e (some 20) (upon_e (some 21) (upon_e (some 22) (upon_e (some 23) (upon_e (some 24) (upon_e (some 25) (upon_e (some 26) (upon_n ?_)))))))))))
          go_simp
          have HB3 := hid (BX.out.trans (hg.mono HBWX.out))
          clear hg
          go_wp2_with fail
          go_ret
          exact ⟨by rw [HR0.out]; rfl, HB3.out⟩
        | false =>
          have HM := hid hm
          have HA2 : Hid (AllTo custOk l (k + 1)) := HA.out.step HX.out HF.out hm
          clear hm
          refine wp_region_each 11 [.eq (.func (.func 63) #[] #[]), .eq (.agg #[.string x.1, .string x.2]), .eq (.bool true), .eq (.bool false), .eq (.bool false), .eq (.slice (some ⟨b1, o1, none⟩) n1 s.c), .eq (.int .i64 (k : Int)), .eq (.slice (some ⟨b1, o1, none⟩) k s.c), .eq (.agg #[.string x.1, .string x.2]), .eq (.bool false), .eq (.bool false)] (by kernel_rfl) (by kernel_rfl) (by kernel_rfl) (by kernel_rfl) ?_ ?_
          · all_goals
              refine each_5 ?_ ?_ ?_ ?_ ?_ (each_5 ?_ ?_ ?_ ?_ ?_ (each_c ?_ (each_n)))
              · intro w1 hg Ar seen
                have s2 := seen.sl 2 (.func (.func 63) #[] #[])
                refine does_plain rfl fun K Q' hK => ?_
                go_simp; exact hK _ _ (Grow.refl _) rfl
              · intro w1 hg Ar seen
                have s8 := seen.sl 8 (.pointer (some ⟨px, 0, none⟩))
                refine does_plain rfl fun K Q' hK => ?_
                refine wp_load_row 58 _ rfl px (by simp [Act.eval, s8]) _ _ _ _ ((hg.block _ (block_lt HBX.out)).trans HBX.out) Tryd.underlying58 rfl oSzC ?_
                exact hK _ _ (Grow.refl _) rfl
              · intro w1 hg Ar seen
                have e0 := seen.de 0 16
                have e1 := seen.de 1 17
                refine does_plain rfl fun K Q' hK => ?_
                go_simp
                refine (custom_any x _ (TX.out.below hg)).mono ?_
                rintro e u ⟨rfl, hb⟩
                rw [HF.out]
                exact hK _ _ hb rfl
              · intro w1 hg Ar seen
                have e2 := seen.de 2 18
                refine does_plain rfl fun K Q' hK => ?_
                go_simp; exact hK _ _ (Grow.refl _) rfl
              · intro w1 hg Ar seen
                have e3 := seen.de 3 19
                refine does_plain rfl fun K Q' hK => ?_
                go_simp; exact hK _ _ (Grow.refl _) rfl
              · intro w1 hg Ar seen
                have e4 := seen.de 4 20
                have s0 := seen.sl 0 (.slice (some ⟨b1, o1, none⟩) n1 s.c)
                refine does_on rfl (by kernel_rfl) e4 fun K Q' hK => ?_
                clear e4
                go_simp; exact hK _ _ (Grow.refl _) rfl
              · intro w1 hg Ar seen
                have e4 := seen.de 4 20
                have s7 := seen.sl 7 (.int .i64 (k : Int))
                refine does_on rfl (by kernel_rfl) e4 fun K Q' hK => ?_
                clear e4
                go_simp; exact hK _ _ (Grow.refl _) rfl
              · intro w1 hg Ar seen
                have e5 := seen.de 5 21
                have e6 := seen.de 6 22
                have e4 := seen.de 4 20
                refine does_on rfl (by kernel_rfl) e4 fun K Q' hK => ?_
                clear e4
                have hsl := HSL.out
                go_simp; exact hK _ _ (Grow.refl _) rfl
              · intro w1 hg Ar seen
                have e4 := seen.de 4 20
                have s8 := seen.sl 8 (.pointer (some ⟨px, 0, none⟩))
                refine does_on rfl (by kernel_rfl) e4 fun K Q' hK => ?_
                clear e4
                refine wp_load_row 58 _ rfl px (by simp [Act.eval, s8]) _ _ _ _ ((hg.block _ (block_lt HBX.out)).trans HBX.out) Tryd.underlying58 rfl oSzC ?_
                exact hK _ _ (Grow.refl _) rfl
              · intro w1 hg Ar seen
                have e7 := seen.de 7 23
                have e8 := seen.de 8 24
                have e4 := seen.de 4 20
                refine does_on rfl (by kernel_rfl) e4 fun K Q' hK => ?_
                clear e4
                go_simp
                refine (containsC_any ⟨some ⟨b1, o1, none⟩, k, s.c⟩ (l.take k) x _ (HTKX.out.below hg)).mono ?_
                rintro e u ⟨rfl, hb⟩
                rw [HM.out]
                exact hK _ _ hb rfl
              · intro w1 hg Ar seen
                have e4 := seen.de 4 20
                have e9 := seen.de 9 25
                refine does_plain rfl fun K Q' hK => ?_
                go_simp; exact hK _ _ (Grow.refl _) rfl
          intro w1 hg
          refine upon_w' (js := [0, 1, 2, 3, 4, 5, 6, 7, 8, 9, 10]) (by rfl) ?_
          refine upon_e (some 16) (upon_e (some 17) (upon_e (some 18) (upon_e (some 19) (upon_e (some 20) (upon_e (some 21) (upon_e (some 22) (upon_e (some 23) (upon_e (some 24) (upon_e (some 25) (upon_e (some 26) (upon_n ?_)))))))))))
          go_simp
          have HB4 := hid (BX.out.trans (hg.mono HBWX.out))
          have HT4 := hid (TX.out.below hg)
          clear hg
          go_wp2_with fail
          go_roundw
          case rel =>
            first
              | exact ⟨k + 1, by omega, by go_num, HB4.out, HT4.out, HA2.out⟩
              | ((repeat apply Exists.intro); exact ⟨⟨k + 1, by omega, by go_num, HB4.out, HT4.out, HA2.out⟩, rfl⟩)
          case measure => simp [intOf]; omega
    · obtain rfl : k = n1 := by omega
      have hd := HA.out.done (m := most) (HL.out.trans HN1.out.symm)
      by_cases hm : k ≤ most
      · have hmi : (k : Int) ≤ (most : Int) := by omega
        have HR0 : Hid (allO custOk most l = true) := by show _ = _; rw [hd]; simp [hm]
        clear hd
        go_wp2_with fail
        go_ret
        exact ⟨by rw [HR0.out]; rfl, B.out⟩
      · have hmi : ¬ (k : Int) ≤ (most : Int) := by omega
        have HR0 : Hid (allO custOk most l = false) := by show _ = _; rw [hd]; simp [hm]
        clear hd
        go_wp2_with fail
        go_ret
        exact ⟨by rw [HR0.out]; rfl, B.out⟩
end Go.Proofs.YtdlkobmlnpijgaaDoor
