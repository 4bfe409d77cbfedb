/- Which texts may be; dates, limits, links, custom attributes. -/
import Derived.Test.YtdlkobmlnpijgaaDoorObjLaw
import Derived.Test.YtdlkobmlnpijgaaDoorUtf
import Derived.Test.YtdlkobmlnpijgaaDoorObjEq
namespace Go.Proofs.YtdlkobmlnpijgaaDoor
open Go.RowKit
set_option linter.unusedVariables false
set_option linter.unusedSimpArgs false
set_option maxRecDepth 1000000
set_option maxHeartbeats 3200000
theorem str_empty {s : ByteArray} (h : s.size = 0) : s = ⟨#[]⟩ := by
  obtain ⟨⟨l⟩⟩ := s
  cases l with
  | nil => rfl
  | cons x l => exact absurd (show (x :: l).length = 0 from h) (by simp)
theorem str_no {s : ByteArray} (h : s.size ≠ 0) : s.toList.isEmpty = false := by
  have hl : s.data.toList ≠ [] := fun e => h (by have := congrArg List.length e; simpa using this)
  rw [ByteArray.toList_eq]
  cases hd : s.data.toList with
  | nil => exact absurd hd hl
  | cons x l => rfl
theorem str_ne {s : ByteArray} (h : s.size ≠ 0) : s ≠ ⟨#[]⟩ := fun e => h (by rw [e]; rfl)
theorem isT_none {s : ByteArray} (h : s.size = 0) : isT s = false := by unfold isT; simp [h]
theorem isT_long {s : ByteArray} (h : 120 < s.size) : isT s = false := by
  have h2 : decide (s.size ≤ 120) = false := by simp; omega
  unfold isT; rw [h2]; simp
theorem isT_valid {s : ByteArray} (h : s.size ≠ 0) (h1 : s.size ≤ 120) : isT s = Lib.validD s.data.toList := by
  unfold isT
  have h2 : decide (1 ≤ s.size) = true := by simp; omega
  have h3 : decide (s.size ≤ 120) = true := by simp; omega
  rw [h2, h3]; simp
theorem isText_any (s : ByteArray) (w : World) (hT : UT w) : Calls Tryd.prog 13 #[.string s] w fun e w' => e = .returned (.bool (isT s)) ∧ Below w.heap.size w w' := by
  have HT := hid hT; clear hT
  by_cases h0 : s.size = 0
  · have he := str_empty h0
    have hr := isT_none h0
    rw [hr]
    subst he
    go_enter Tryd.func13, Tryd.ntmps13
    go_wp2_with fail
    go_ret
    exact ⟨rfl, Below.refl _ _⟩
  · have hb := str_no h0
    by_cases h1 : s.size ≤ 120
    · have hr := isT_valid h0 h1
      rw [hr]
      have hi : (s.size : Int) ≤ 120 := by omega
      have HI : Hid (s.size ≤ 9223372036854775807) := Nat.le_trans h1 (by decide)
      clear hr
      go_enter Tryd.func13, Tryd.ntmps13
      go_wp2_with fail
      refine (valid_any s _ HI.out HT.out).mono ?_
      rintro e w' ⟨rfl, hbb⟩
      have HB := hid hbb
      clear hbb
      dsimp only
      go_wp2_with fail
      go_ret
      exact ⟨rfl, HB.out⟩
    · have hr := isT_long (s := s) (by omega)
      rw [hr]
      have hi : ¬ (s.size : Int) ≤ 120 := by omega
      clear hr
      go_enter Tryd.func13, Tryd.ntmps13
      go_wp2_with fail
      go_ret
      exact ⟨rfl, Below.refl _ _⟩
theorem risText_any (s : ByteArray) (w : World) (hT : UT w) : Calls Tryd.prog 25 #[.string s] w fun e w' => e = .returned (.bool (isT s)) ∧ Below w.heap.size w w' := by
  have HT := hid hT; clear hT
  by_cases h0 : s.size = 0
  · have hr := isT_none h0
    rw [hr]
    have hi : ¬ (1 : Int) ≤ (s.size : Int) := by omega
    go_enter Tryd.func25, Tryd.ntmps25
    go_wp2_with fail
    go_ret
    exact ⟨rfl, Below.refl _ _⟩
  · have hi1 : (1 : Int) ≤ (s.size : Int) := by omega
    by_cases h1 : s.size ≤ 120
    · have hr := isT_valid h0 h1
      rw [hr]
      have hi : (s.size : Int) ≤ 120 := by omega
      have HI : Hid (s.size ≤ 9223372036854775807) := Nat.le_trans h1 (by decide)
      clear hr
      go_enter Tryd.func25, Tryd.ntmps25
      go_wp2_with fail
      refine (valid_any s _ HI.out HT.out).mono ?_
      rintro e w' ⟨rfl, hbb⟩
      have HB := hid hbb
      clear hbb
      dsimp only
      go_wp2_with fail
      go_ret
      exact ⟨rfl, HB.out⟩
    · have hr := isT_long (s := s) (by omega)
      rw [hr]
      have hi : ¬ (s.size : Int) ≤ 120 := by omega
      clear hr
      go_enter Tryd.func25, Tryd.ntmps25
      go_wp2_with fail
      go_ret
      exact ⟨rfl, Below.refl _ _⟩
/-- Does a text begin so? -/
theorem take2_eq {s : ByteArray} (h : 2 ≤ s.size) : s.extract 0 2 = ⟨#[120, 45]⟩ ↔ s.data.toList.take 2 = [120, 45] := by
  obtain ⟨⟨l⟩⟩ := s
  constructor
  · intro e
    have := congrArg (fun x : ByteArray => x.data.toList) e
    simpa [ByteArray.extract, ByteArray.copySlice] using this
  · intro e
    simp only at e
    match l, e with
    | a :: b :: r, e =>
      simp at e
      obtain ⟨rfl, rfl⟩ := e
      simp [ByteArray.extract, ByteArray.copySlice]
theorem isC_short {s : ByteArray} (h : s.size < 2) : isC s = false := by
  unfold isC
  have : (s.data.toList.take 2 == [120, 45]) = false := by
    rw [beq_eq_false_iff_ne]
    intro e
    have h1 := congrArg List.length e
    rw [List.length_take] at h1
    have h2 : s.data.toList.length = s.size := by simp
    simp at h1
    omega
  rw [this]; simp
theorem isC_yes {s : ByteArray} (h : 2 ≤ s.size) (e : s.extract 0 2 = ⟨#[120, 45]⟩) : isC s = isT s := by
  unfold isC; rw [(take2_eq h).1 e]; simp
theorem isC_no {s : ByteArray} (h : 2 ≤ s.size) (e : s.extract 0 2 ≠ ⟨#[120, 45]⟩) : isC s = false := by
  unfold isC
  have : (s.data.toList.take 2 == [120, 45]) = false := by
    rw [beq_eq_false_iff_ne]
    exact fun h' => e ((take2_eq h).2 h')
  rw [this]; simp
theorem isC_not {s : ByteArray} (h : isT s = false) : isC s = false := by unfold isC; rw [h]; simp
theorem isCustom_any (s : ByteArray) (w : World) (hT : UT w) : Calls Tryd.prog 14 #[.string s] w fun e w' => e = .returned (.bool (isC s)) ∧ Below w.heap.size w w' := by
  have HT := hid hT; clear hT
  go_enter Tryd.func14, Tryd.ntmps14
  go_wp2_with fail
  refine (isText_any s _ HT.out).mono ?_
  rintro e w' ⟨rfl, hbb⟩
  have HB := hid hbb
  clear hbb
  dsimp only
  cases hb : isT s with
  | false =>
    have HR := hid (isC_not hb)
    clear hb
    go_wp2_with fail
    go_ret
    exact ⟨by rw [HR.out]; rfl, HB.out⟩
  | true =>
    by_cases h2 : 2 ≤ s.size
    · have hi : (2 : Int) ≤ (s.size : Int) := by omega
      have hi2 : (0 : Int) ≤ 2 := by omega
      by_cases he : s.extract 0 2 = ⟨#[120, 45]⟩
      · have HR := hid ((isC_yes h2 he).trans hb)
        clear hb
        go_wp2_with go_in
        go_ret
        exact ⟨by rw [HR.out]; rfl, HB.out⟩
      · have HR := hid (isC_no h2 he)
        have hx : ((s.extract 0 2).toList == [120, 45]) = false := by have h := bytes_ne he; rwa [ByteArray.toList_eq (⟨#[120, 45]⟩ : ByteArray)] at h
        clear hb
        go_wp2_with go_in
        go_ret
        exact ⟨by rw [HR.out]; rfl, HB.out⟩
    · have hi : ¬ (2 : Int) ≤ (s.size : Int) := by omega
      have HR := hid (isC_short (s := s) (by omega))
      clear hb
      go_wp2_with go_in
      go_ret
      exact ⟨by rw [HR.out]; rfl, HB.out⟩
theorem risCustom_any (s : ByteArray) (w : World) (hT : UT w) : Calls Tryd.prog 26 #[.string s] w fun e w' => e = .returned (.bool (isC s)) ∧ Below w.heap.size w w' := by
  have HT := hid hT; clear hT
  go_enter Tryd.func26, Tryd.ntmps26
  go_wp2_with fail
  refine (risText_any s _ HT.out).mono ?_
  rintro e w' ⟨rfl, hbb⟩
  have HB := hid hbb
  clear hbb
  dsimp only
  cases hb : isT s with
  | false =>
    have HR := hid (isC_not hb)
    clear hb
    go_wp2_with fail
    go_ret
    exact ⟨by rw [HR.out]; rfl, HB.out⟩
  | true =>
    by_cases h2 : 2 ≤ s.size
    · have hi : (2 : Int) ≤ (s.size : Int) := by omega
      have hi2 : (0 : Int) ≤ 2 := by omega
      by_cases he : s.extract 0 2 = ⟨#[120, 45]⟩
      · have HR := hid ((isC_yes h2 he).trans hb)
        clear hb
        go_wp2_with go_in
        go_ret
        exact ⟨by rw [HR.out]; rfl, HB.out⟩
      · have HR := hid (isC_no h2 he)
        have hx : ((s.extract 0 2).toList == [120, 45]) = false := by have h := bytes_ne he; rwa [ByteArray.toList_eq (⟨#[120, 45]⟩ : ByteArray)] at h
        clear hb
        go_wp2_with go_in
        go_ret
        exact ⟨by rw [HR.out]; rfl, HB.out⟩
    · have hi : ¬ (2 : Int) ≤ (s.size : Int) := by omega
      have HR := hid (isC_short (s := s) (by omega))
      clear hb
      go_wp2_with go_in
      go_ret
      exact ⟨by rw [HR.out]; rfl, HB.out⟩
theorem in3_any (n a b : Int) (w : World) : Calls Tryd.prog 58 #[.int .i64 n, .int .i64 a, .int .i64 b] w fun e w' => e = .returned (.bool (inB n a b)) ∧ w = w' := by
  by_cases h1 : a ≤ n
  · by_cases h2 : n ≤ b
    · have hr : inB n a b = true := inB_iff.2 ⟨h1, h2⟩
      rw [hr]
      clear hr
      go_enter Tryd.func58, Tryd.ntmps58
      go_wp2_with fail
      go_ret
      exact ⟨rfl, rfl⟩
    · have hr : inB n a b = false := by unfold inB; simp [h2]
      rw [hr]
      clear hr
      go_enter Tryd.func58, Tryd.ntmps58
      go_wp2_with fail
      go_ret
      exact ⟨rfl, rfl⟩
  · have hr : inB n a b = false := by unfold inB; simp [h1]
    rw [hr]
    clear hr
    go_enter Tryd.func58, Tryd.ntmps58
    go_wp2_with fail
    go_ret
    exact ⟨rfl, rfl⟩
theorem flag_any (b : Bool) (w : World) : Calls Tryd.prog 33 #[.bool b] w fun e w' => e = .returned (.int .i64 (flagN b)) ∧ w = w' := by
  cases b <;> (go_enter Tryd.func33, Tryd.ntmps33; go_wp2_with fail; go_ret; exact ⟨rfl, rfl⟩)
theorem rflag_any (b : Bool) (w : World) : Calls Tryd.prog 55 #[.bool b] w fun e w' => e = .returned (.int .i64 (flagN b)) ∧ w = w' := by
  cases b <;> (go_enter Tryd.func55, Tryd.ntmps55; go_wp2_with fail; go_ret; exact ⟨rfl, rfl⟩)
theorem date_any (h : Bool) (t : Int) (w : World) : Calls Tryd.prog 57 #[.agg #[.bool h, .int .i64 t]] w fun e w' => e = .returned (.bool (dateOk (h, t))) ∧ Below w.heap.size w w' := by
  have HB := hid ((Below.refl _ w).alloc (Nat.le_refl _) (.cells #[.bool h, .int .i64 t] 27))
  have c0 : (w.alloc (.cells #[.bool h, .int .i64 t] 27)).cell? ⟨w.heap.size, 0, none⟩ = some (.bool h) := cell_of_block (j := 0) (block_new w _) rfl
  have c1 : (w.alloc (.cells #[.bool h, .int .i64 t] 27)).cell? ⟨w.heap.size, 1, none⟩ = some (.int .i64 t) := cell_of_block (j := 1) (block_new w _) rfl
  cases h with
  | true =>
    by_cases h1 : -1099511627776 ≤ t
    · by_cases h2 : t ≤ 1099511627776
      · have hr : dateOk (true, t) = true := inB_iff.2 ⟨h1, h2⟩
        rw [hr]
        clear hr
        go_enter Tryd.func57, Tryd.ntmps57
        go_wp2_with fail
        go_ret
        exact ⟨rfl, HB.out⟩
      · have hr : dateOk (true, t) = false := by unfold dateOk inB; simp [h2]
        rw [hr]
        clear hr
        go_enter Tryd.func57, Tryd.ntmps57
        go_wp2_with fail
        go_ret
        exact ⟨rfl, HB.out⟩
    · have hr : dateOk (true, t) = false := by unfold dateOk inB; simp [h1]
      rw [hr]
      clear hr
      go_enter Tryd.func57, Tryd.ntmps57
      go_wp2_with fail
      go_ret
      exact ⟨rfl, HB.out⟩
  | false =>
    by_cases h1 : t = 0
    · subst h1
      have hr : dateOk (false, 0) = true := rfl
      rw [hr]
      clear hr
      go_enter Tryd.func57, Tryd.ntmps57
      go_wp2_with fail
      go_ret
      exact ⟨rfl, HB.out⟩
    · have hr : dateOk (false, t) = false := by unfold dateOk; simp [h1]
      have h3 : (t == 0) = false := by simp [h1]
      rw [hr]
      clear hr
      go_enter Tryd.func57, Tryd.ntmps57
      go_wp2_with fail
      go_ret
      exact ⟨rfl, HB.out⟩
end Go.Proofs.YtdlkobmlnpijgaaDoor
