/- slices.Equal, slices.Index, slices.Contains of strings, links and custom attributes. -/
import Derived.Test.YtdlkobmlnpijgaaDoorEqual
import Derived.Test.YtdlkobmlnpijgaaDoorSame2
import Derived.Test.YtdlkobmlnpijgaaDoorObjHand
namespace Go.Proofs.YtdlkobmlnpijgaaDoor
open Go.RowKit
set_option linter.unusedVariables false
set_option linter.unusedSimpArgs false
set_option maxRecDepth 1000000
set_option maxHeartbeats 3200000
theorem takeA {α : Type} {l1 l2 : List α} {k : Nat} {x : α} (h : l1.take k = l2.take k) (h1 : l1[k]? = some x) (h2 : l2[k]? = some x) : l1.take (k + 1) = l2.take (k + 1) := by rw [List.take_add_one, List.take_add_one, h, h1, h2]
def memB {α : Type} [DecidableEq α] (v : α) (l : List α) : Bool := l.any fun x => decide (v = x)
theorem memB_iff {α : Type} [DecidableEq α] {v : α} {l : List α} : memB v l = true ↔ v ∈ l := by unfold memB; simp
theorem memB_no {α : Type} [DecidableEq α] {v : α} {l : List α} (h : v ∉ l) : memB v l = false := by
  cases hb : memB v l with
  | false => rfl
  | true => exact absurd (memB_iff.1 hb) h
theorem notinA {α : Type} {l : List α} {k : Nat} {x v : α} (h : v ∉ l.take k) (h1 : l[k]? = some x) (hv : v ≠ x) : v ∉ l.take (k + 1) := by
  rw [List.take_add_one, h1]
  intro hm
  rcases List.mem_append.1 hm with hm | hm
  · exact h hm
  · simp at hm; exact hv hm
theorem SlR.pairR {α : Type} {f g : α → Value} {w : World} {s : Sl} {l : List α} (h : SlR w s 2 (l.flatMap fun x => [f x, g x])) {k : Nat} (hk : k < s.n) : ∃ b off x, s.a = some ⟨b, off, none⟩ ∧ l[k]? = some x ∧ w.rangeAt b (off + k * 2) [f x, g x] := by
  obtain ⟨b, off, x, ha, hx, h1, h2⟩ := h.pair hk
  refine ⟨b, off, x, ha, hx, fun j v hv => ?_⟩
  match j, hv with
  | 0, hv => simp at hv; subst hv; exact h1
  | 1, hv => simp at hv; subst hv; exact h2
  | j + 2, hv => simp at hv
theorem range_below {w w' : World} (hb : Below w.heap.size w w') {b o : Nat} {cs : List Value} (h : w.rangeAt b o cs) : w'.rangeAt b o cs := fun j v hv => cellLater hb (h j v hv)
theorem equalS_any (s1 s2 : Sl) (l1 l2 : List ByteArray) (w : World) (h1 : SlR w s1 1 (l1.map Value.string)) (h2 : SlR w s2 1 (l2.map Value.string)) :
    Calls Tryd.prog 72 #[.slice s1.a s1.n s1.c, .slice s2.a s2.n s2.c] w fun e w' => e = .returned (.bool (decide (l1 = l2))) ∧ Below w.heap.size w w' := by
  have hsm := h1.sm
  have hl1 : l1.length = s1.n := by have := h1.rd.len; simpa using this
  have hl2 : l2.length = s2.n := by have := h2.rd.len; simpa using this
  have HR1 := hid h1; have HR2 := hid h2
  have HL1 := hid hl1; have HL2 := hid hl2
  clear h1 h2 hl1 hl2
  by_cases hnn : s1.n = s2.n
  · obtain ⟨n1, hn1⟩ : ∃ n, n = s1.n := ⟨_, rfl⟩
    have hn2 : s2.n = n1 := by omega
    have HN1 := hid hn1; have HN2 := hid hn2
    rw [hn2, ← hn1]
    rw [← hn1] at hsm
    clear hnn hn1 hn2
    generalize hbe : w.heap.size = b
    have HBE := hid hbe; clear hbe
    go_enter Tryd.func72, Tryd.ntmps72
    go_wp2_with fail
    go_loopw [13] (fun y wr => ∃ k : Nat, k ≤ n1 ∧ y = .int .i64 k ∧ Below b w wr ∧ l1.take k = l2.take k) (fun y _ => n1 - (intOf y).toNat)
    case atStart => exact ⟨0, Nat.zero_le _, rfl, Below.refl _ _, rfl⟩
    case round =>
      obtain ⟨k, hk, rfl, hb, ht⟩ := hrel
      have B := hid hb; have HT := hid ht
      clear hb ht
      by_cases hlt : k < n1
      · have hlt1 : k < s1.n := by rw [← HN1.out]; exact hlt
        have hlt2 : k < s2.n := by rw [HN2.out]; exact hlt
        have hbel : Below w.heap.size w wr := by rw [HBE.out]; exact B.out
        obtain ⟨b1, o1, x, ha1, hx1, hd1⟩ := HR1.out.one hlt1
        obtain ⟨b2, o2, y, ha2, hx2, hd2⟩ := HR2.out.one hlt2
        have C1 := hid (cellLater hbel hd1); have C2 := hid (cellLater hbel hd2)
        have HX := hid hx1; have HY := hid hx2
        have HBW : Hid (b ≤ wr.heap.size) := by show _ ≤ _; rw [← HBE.out]; exact hbel.size
        rw [ha1, ha2]
        clear hd1 hd2 hx1 hx2 hbel hlt1 hlt2 ha1 ha2
        by_cases hxy : x = y
        · subst hxy
          go_upto_region 6 with (fail)
          refine wp_region_each 9 [.eq (.slice (some ⟨b1, o1, none⟩) n1 s1.c), .eq (.int .i64 (k : Int)), .eq (.pointer (some ⟨b1, o1 + k, none⟩)), .eq (.string x), .eq (.slice (some ⟨b2, o2, none⟩) n1 s2.c), .eq (.int .i64 (k : Int)), .eq (.pointer (some ⟨b2, o2 + k, none⟩)), .eq (.string x), .eq (.bool false)] (by kernel_rfl) (by kernel_rfl) (by kernel_rfl) (by kernel_rfl) ?_ ?_
          · all_goals
              refine each_5 ?_ ?_ ?_ ?_ ?_ (each_c ?_ (each_c ?_ (each_c ?_ (each_c ?_ (each_n)))))
              · intro w1 hg Ar seen
                have s0 := seen.sl 0 (.slice (some ⟨b1, o1, none⟩) n1 s1.c)
                refine does_plain rfl fun K Q' hK => ?_
                go_simp; exact hK _ _ (Grow.refl _) rfl
              · intro w1 hg Ar seen
                have s5 := seen.sl 5 (.int .i64 (k : Int))
                refine does_plain rfl fun K Q' hK => ?_
                go_simp; exact hK _ _ (Grow.refl _) rfl
              · intro w1 hg Ar seen
                have e0 := seen.de 0 16
                have e1 := seen.de 1 17
                refine does_plain rfl fun K Q' hK => ?_
                go_simp; exact hK _ _ (Grow.refl _) rfl
              · intro w1 hg Ar seen
                have e2 := seen.de 2 18
                refine does_plain rfl fun K Q' hK => ?_
                have hc := cellLater hg C1.out
                go_simp; exact hK _ _ (Grow.refl _) rfl
              · intro w1 hg Ar seen
                have s1 := seen.sl 1 (.slice (some ⟨b2, o2, none⟩) n1 s2.c)
                refine does_plain rfl fun K Q' hK => ?_
                go_simp; exact hK _ _ (Grow.refl _) rfl
              · intro w1 hg Ar seen
                have s5 := seen.sl 5 (.int .i64 (k : Int))
                refine does_plain rfl fun K Q' hK => ?_
                go_simp; exact hK _ _ (Grow.refl _) rfl
              · intro w1 hg Ar seen
                have e4 := seen.de 4 20
                have e5 := seen.de 5 21
                refine does_plain rfl fun K Q' hK => ?_
                go_simp; exact hK _ _ (Grow.refl _) rfl
              · intro w1 hg Ar seen
                have e6 := seen.de 6 22
                refine does_plain rfl fun K Q' hK => ?_
                have hc := cellLater hg C2.out
                go_simp; exact hK _ _ (Grow.refl _) rfl
              · intro w1 hg Ar seen
                have e3 := seen.de 3 19
                have e7 := seen.de 7 23
                refine does_plain rfl fun K Q' hK => ?_
                go_simp; exact hK _ _ (Grow.refl _) rfl
          intro w1 hg
          refine upon_w' (js := [0, 1, 2, 3, 4, 5, 6, 7, 8]) (by rfl) ?_
          refine upon_e (some 16) (upon_e (some 17) (upon_e (some 18) (upon_e (some 19) (upon_e (some 20) (upon_e (some 21) (upon_e (some 22) (upon_e (some 23) (upon_e (some 24) (upon_n ?_)))))))))
          go_simp
          have B2 := hid (B.out.trans (hg.mono HBW.out))
          have HT2 := hid (takeA HT.out HX.out HY.out)
          clear hg B HT
          go_wp2_with fail
          go_roundw
          case rel =>
            first
              | exact ⟨k + 1, by omega, by go_num, B2.out, HT2.out⟩
              | ((repeat apply Exists.intro); exact ⟨⟨k + 1, by omega, by go_num, B2.out, HT2.out⟩, rfl⟩)
          case measure => simp [intOf]; omega
        · have HXY := hid hxy
          have HNE := hid (bytes_ne hxy)
          clear hxy
          go_upto_region 6 with (fail)
          refine wp_region_each 9 [.eq (.slice (some ⟨b1, o1, none⟩) n1 s1.c), .eq (.int .i64 (k : Int)), .eq (.pointer (some ⟨b1, o1 + k, none⟩)), .eq (.string x), .eq (.slice (some ⟨b2, o2, none⟩) n1 s2.c), .eq (.int .i64 (k : Int)), .eq (.pointer (some ⟨b2, o2 + k, none⟩)), .eq (.string y), .eq (.bool true)] (by kernel_rfl) (by kernel_rfl) (by kernel_rfl) (by kernel_rfl) ?_ ?_
          · all_goals
              refine each_5 ?_ ?_ ?_ ?_ ?_ (each_c ?_ (each_c ?_ (each_c ?_ (each_c ?_ (each_n)))))
              · intro w1 hg Ar seen
                have s0 := seen.sl 0 (.slice (some ⟨b1, o1, none⟩) n1 s1.c)
                refine does_plain rfl fun K Q' hK => ?_
                go_simp; exact hK _ _ (Grow.refl _) rfl
              · intro w1 hg Ar seen
                have s5 := seen.sl 5 (.int .i64 (k : Int))
                refine does_plain rfl fun K Q' hK => ?_
                go_simp; exact hK _ _ (Grow.refl _) rfl
              · intro w1 hg Ar seen
                have e0 := seen.de 0 16
                have e1 := seen.de 1 17
                refine does_plain rfl fun K Q' hK => ?_
                go_simp; exact hK _ _ (Grow.refl _) rfl
              · intro w1 hg Ar seen
                have e2 := seen.de 2 18
                refine does_plain rfl fun K Q' hK => ?_
                have hc := cellLater hg C1.out
                go_simp; exact hK _ _ (Grow.refl _) rfl
              · intro w1 hg Ar seen
                have s1 := seen.sl 1 (.slice (some ⟨b2, o2, none⟩) n1 s2.c)
                refine does_plain rfl fun K Q' hK => ?_
                go_simp; exact hK _ _ (Grow.refl _) rfl
              · intro w1 hg Ar seen
                have s5 := seen.sl 5 (.int .i64 (k : Int))
                refine does_plain rfl fun K Q' hK => ?_
                go_simp; exact hK _ _ (Grow.refl _) rfl
              · intro w1 hg Ar seen
                have e4 := seen.de 4 20
                have e5 := seen.de 5 21
                refine does_plain rfl fun K Q' hK => ?_
                go_simp; exact hK _ _ (Grow.refl _) rfl
              · intro w1 hg Ar seen
                have e6 := seen.de 6 22
                refine does_plain rfl fun K Q' hK => ?_
                have hc := cellLater hg C2.out
                go_simp; exact hK _ _ (Grow.refl _) rfl
              · intro w1 hg Ar seen
                have e3 := seen.de 3 19
                have e7 := seen.de 7 23
                refine does_plain rfl fun K Q' hK => ?_
                have hq := HNE.out
                go_simp; exact hK _ _ (Grow.refl _) rfl
          intro w1 hg
          refine upon_w' (js := [0, 1, 2, 3, 4, 5, 6, 7, 8]) (by rfl) ?_
          refine upon_e (some 16) (upon_e (some 17) (upon_e (some 18) (upon_e (some 19) (upon_e (some 20) (upon_e (some 21) (upon_e (some 22) (upon_e (some 23) (upon_e (some 24) (upon_n ?_)))))))))
          go_simp
          have B2 := hid (B.out.trans (hg.mono HBW.out))
          clear hg B
          go_wp2_with fail
          go_ret
          refine ⟨?_, B2.out⟩
          have hf : decide (l1 = l2) = false := by
            simp only [decide_eq_false_iff_not]
            intro he
            have h1 := HX.out
            rw [he, HY.out] at h1
            exact HXY.out (Option.some.inj h1).symm
          rw [hf]
          rfl
      · obtain rfl : k = n1 := by omega
        have hf : decide (l1 = l2) = true := by
          have := HT.out
          rw [List.take_of_length_le (by rw [HL1.out, ← HN1.out]; exact Nat.le_refl _), List.take_of_length_le (by rw [HL2.out, HN2.out]; exact Nat.le_refl _)] at this
          simp [this]
        have HFF := hid hf
        clear hf
        go_wp2_with fail
        go_ret
        exact ⟨by rw [HFF.out]; rfl, B.out⟩
  · have hf : decide (l1 = l2) = false := by
      simp only [decide_eq_false_iff_not]
      intro he
      subst he
      exact hnn (HL1.out.symm.trans HL2.out)
    have hni : ¬ (s1.n : Int) = (s2.n : Int) := by omega
    have HFF := hid hf
    clear hf
    go_enter Tryd.func72, Tryd.ntmps72
    go_wp2_with fail
    go_ret
    exact ⟨by rw [HFF.out]; rfl, Below.refl _ _⟩
theorem indexS_any (s1 : Sl) (l : List ByteArray) (v : ByteArray) (w : World) (h1 : SlR w s1 1 (l.map Value.string)) :
    Calls Tryd.prog 98 #[.slice s1.a s1.n s1.c, .string v] w fun e w' => ∃ z : Int, e = .returned (.int .i64 z) ∧ decide (0 ≤ z) = memB v l ∧ Below w.heap.size w w' := by
  have hsm := h1.sm
  have hl1 : l.length = s1.n := by have := h1.rd.len; simpa using this
  have HR1 := hid h1
  have HL1 := hid hl1
  clear h1 hl1
  obtain ⟨n1, hn1⟩ : ∃ n, n = s1.n := ⟨_, rfl⟩
  have HN1 := hid hn1
  rw [← hn1]
  rw [← hn1] at hsm
  clear hn1
  generalize hbe : w.heap.size = b
  have HBE := hid hbe; clear hbe
  go_enter Tryd.func98, Tryd.ntmps98
  go_wp2_with fail
  go_loopw [8] (fun y wr => ∃ k : Nat, k ≤ n1 ∧ y = .int .i64 k ∧ Below b w wr ∧ v ∉ l.take k) (fun y _ => n1 - (intOf y).toNat)
  case atStart => exact ⟨0, Nat.zero_le _, rfl, Below.refl _ _, by simp⟩
  case round =>
    obtain ⟨k, hk, rfl, hb, ht⟩ := hrel
    have B := hid hb; have HT := hid ht
    clear hb ht
    by_cases hlt : k < n1
    · have hlt1 : k < s1.n := by rw [← HN1.out]; exact hlt
      have hbel : Below w.heap.size w wr := by rw [HBE.out]; exact B.out
      obtain ⟨b1, o1, x, ha1, hx1, hd1⟩ := HR1.out.one hlt1
      have C1 := hid (cellLater hbel hd1)
      have HX := hid hx1
      have HBW : Hid (b ≤ wr.heap.size) := by show _ ≤ _; rw [← HBE.out]; exact hbel.size
      rw [ha1]
      clear hd1 hx1 hbel hlt1 ha1
      have hcc : wr.cell? ⟨b1, o1 + k, none⟩ = some (.string x) := C1.out
      by_cases hxy : v = x
      · subst hxy
        have HM := hid (memB_iff.2 (List.mem_of_getElem? HX.out))
        have hb : (v.toList == v.toList) = true := by simp
        go_wp2_with fail
        go_ret
        exact ⟨_, rfl, by simp [HM.out], B.out⟩
      · have HXY := hid hxy
        clear hxy
        have hb := bytes_ne (fun h => HXY.out h.symm)
        have hb2 := bytes_ne HXY.out
        go_wp2_with fail
        have HT2 := hid (notinA HT.out HX.out HXY.out)
        go_roundw
        case rel =>
          first
            | exact ⟨k + 1, by omega, by go_num, B.out, HT2.out⟩
            | ((repeat apply Exists.intro); exact ⟨⟨k + 1, by omega, by go_num, B.out, HT2.out⟩, rfl⟩)
        case measure => simp [intOf]; omega
    · obtain rfl : k = n1 := by omega
      have hf : memB v l = false := by
        have := HT.out
        rw [List.take_of_length_le (by rw [HL1.out, ← HN1.out]; exact Nat.le_refl _)] at this
        exact memB_no this
      have HFF := hid hf
      clear hf
      go_wp2_with fail
      go_ret
      exact ⟨_, rfl, by rw [HFF.out]; rfl, B.out⟩
theorem containsS_any (s1 : Sl) (l : List ByteArray) (v : ByteArray) (w : World) (h1 : SlR w s1 1 (l.map Value.string)) :
    Calls Tryd.prog 91 #[.slice s1.a s1.n s1.c, .string v] w fun e w' => e = .returned (.bool (memB v l)) ∧ Below w.heap.size w w' := by
  have HR1 := hid h1; clear h1
  generalize hbe : w.heap.size = b
  have HBE := hid hbe; clear hbe
  go_enter Tryd.func91, Tryd.ntmps91
  go_wp2_with fail
  refine (indexS_any s1 l v w HR1.out).mono ?_
  rintro e w' ⟨z, rfl, hz, hb⟩
  have HZ := hid hz; have HB := hid hb
  clear hz hb
  dsimp only
  by_cases h0 : 0 ≤ z
  · have HM : Hid (memB v l = true) := by show _ = _; rw [← HZ.out]; simp [h0]
    go_wp2_with fail
    go_ret
    exact ⟨by rw [HM.out]; rfl, by rw [← HBE.out]; exact HB.out⟩
  · have HM : Hid (memB v l = false) := by show _ = _; rw [← HZ.out]; simp [h0]
    go_wp2_with fail
    go_ret
    exact ⟨by rw [HM.out]; rfl, by rw [← HBE.out]; exact HB.out⟩
theorem eqVL (d : Nat) (x y : (Int × ByteArray)) (w : World) : (Op.equalIn (d + 2) 56 (.agg #[.int .i64 x.1, .string x.2]) (.agg #[.int .i64 y.1, .string y.2])).run Tryd.prog w = .ok (decide (x = y)) w := by
  obtain ⟨x1, x2⟩ := x
  obtain ⟨y1, y2⟩ := y
  by_cases h1 : x1 = y1
  · by_cases h2 : x2 = y2
    · subst h1; subst h2
      go_simp
    · have hb := bytes_ne h2
      subst h1
      have hd : decide ((x1, x2) = (x1, y2)) = false := by simp [h2]
      rw [hd]
      go_simp
      try simp [hb]
  · have hd : decide ((x1, x2) = (y1, y2)) = false := by simp [h1]
    rw [hd]
    have hb : (x1 == y1) = false := by simp [h1]
    go_simp
    try simp [hb]
theorem eqQL (x y : (Int × ByteArray)) (w : World) : (binOp .eql 56 (.agg #[.int .i64 x.1, .string x.2]) (.agg #[.int .i64 y.1, .string y.2])).run Tryd.prog w = .ok (.bool (decide (x = y))) w := by
  rw [run_eql_struct, eqVL 9998]; rfl
theorem eqNL (x y : (Int × ByteArray)) (w : World) : (binOp .neq 56 (.agg #[.int .i64 x.1, .string x.2]) (.agg #[.int .i64 y.1, .string y.2])).run Tryd.prog w = .ok (.bool (!decide (x = y))) w := by
  rw [run_neq_struct, eqVL 9998]; rfl
theorem oSzL : (Tryd.prog.info? 56).map (·.size) = some 2 := by kernel_rfl
theorem equalL_any (s1 s2 : Sl) (l1 l2 : List (Int × ByteArray)) (w : World) (h1 : SlR w s1 2 (linkCells l1)) (h2 : SlR w s2 2 (linkCells l2)) :
    Calls Tryd.prog 73 #[.slice s1.a s1.n s1.c, .slice s2.a s2.n s2.c] w fun e w' => e = .returned (.bool (decide (l1 = l2))) ∧ Below w.heap.size w w' := by
  have hsm := h1.sm
  have hl1 : l1.length = s1.n := by have := h1.rd.len; unfold linkCells at this; rw [flat_len] at this; omega
  have hl2 : l2.length = s2.n := by have := h2.rd.len; unfold linkCells at this; rw [flat_len] at this; omega
  have HR1 := hid h1; have HR2 := hid h2
  have HL1 := hid hl1; have HL2 := hid hl2
  clear h1 h2 hl1 hl2
  by_cases hnn : s1.n = s2.n
  · obtain ⟨n1, hn1⟩ : ∃ n, n = s1.n := ⟨_, rfl⟩
    have hn2 : s2.n = n1 := by omega
    have HN1 := hid hn1; have HN2 := hid hn2
    rw [hn2, ← hn1]
    rw [← hn1] at hsm
    clear hnn hn1 hn2
    generalize hbe : w.heap.size = b
    have HBE := hid hbe; clear hbe
    go_enter Tryd.func73, Tryd.ntmps73
    go_wp2_with fail
    go_loopw [13] (fun y wr => ∃ k : Nat, k ≤ n1 ∧ y = .int .i64 k ∧ Below b w wr ∧ l1.take k = l2.take k) (fun y _ => n1 - (intOf y).toNat)
    case atStart => exact ⟨0, Nat.zero_le _, rfl, Below.refl _ _, rfl⟩
    case round =>
      obtain ⟨k, hk, rfl, hb, ht⟩ := hrel
      have B := hid hb; have HT := hid ht
      clear hb ht
      by_cases hlt : k < n1
      · have hlt1 : k < s1.n := by rw [← HN1.out]; exact hlt
        have hlt2 : k < s2.n := by rw [HN2.out]; exact hlt
        have hbel : Below w.heap.size w wr := by rw [HBE.out]; exact B.out
        obtain ⟨b1, o1, x, ha1, hx1, hd1⟩ := SlR.pairR HR1.out hlt1
        obtain ⟨b2, o2, y, ha2, hx2, hd2⟩ := SlR.pairR HR2.out hlt2
        have C1 := hid (range_below hbel hd1); have C2 := hid (range_below hbel hd2)
        have HX := hid hx1; have HY := hid hx2
        have HBW : Hid (b ≤ wr.heap.size) := by show _ ≤ _; rw [← HBE.out]; exact hbel.size
        rw [ha1, ha2]
        clear hd1 hd2 hx1 hx2 hbel hlt1 hlt2 ha1 ha2
        by_cases hxy : x = y
        · subst hxy
          go_upto_region 6 with (fail)
          refine wp_region_each 9 [.eq (.slice (some ⟨b1, o1, none⟩) n1 s1.c), .eq (.int .i64 (k : Int)), .eq (.pointer (some ⟨b1, o1 + k * 2, none⟩)), .eq (.agg #[.int .i64 x.1, .string x.2]), .eq (.slice (some ⟨b2, o2, none⟩) n1 s2.c), .eq (.int .i64 (k : Int)), .eq (.pointer (some ⟨b2, o2 + k * 2, none⟩)), .eq (.agg #[.int .i64 x.1, .string x.2]), .eq (.bool false)] (by kernel_rfl) (by kernel_rfl) (by kernel_rfl) (by kernel_rfl) ?_ ?_
          · all_goals
              refine each_5 ?_ ?_ ?_ ?_ ?_ (each_c ?_ (each_c ?_ (each_c ?_ (each_c ?_ (each_n)))))
              · intro w1 hg Ar seen
                have s0 := seen.sl 0 (.slice (some ⟨b1, o1, none⟩) n1 s1.c)
                refine does_plain rfl fun K Q' hK => ?_
                go_simp; exact hK _ _ (Grow.refl _) rfl
              · intro w1 hg Ar seen
                have s5 := seen.sl 5 (.int .i64 (k : Int))
                refine does_plain rfl fun K Q' hK => ?_
                go_simp; exact hK _ _ (Grow.refl _) rfl
              · intro w1 hg Ar seen
                have e0 := seen.de 0 16
                have e1 := seen.de 1 17
                refine does_plain rfl fun K Q' hK => ?_
                go_simp; exact hK _ _ (Grow.refl _) rfl
              · intro w1 hg Ar seen
                have e2 := seen.de 2 18
                refine does_plain rfl fun K Q' hK => ?_
                refine wp_load_mid 56 _ rfl b1 (o1 + k * 2) (by simp [Act.eval, e2]) [.int .i64 x.1, .string x.2] _ (range_below hg C1.out) Tryd.underlying56 rfl oSzL ?_
                exact hK _ _ (Grow.refl _) rfl
              · intro w1 hg Ar seen
                have s1 := seen.sl 1 (.slice (some ⟨b2, o2, none⟩) n1 s2.c)
                refine does_plain rfl fun K Q' hK => ?_
                go_simp; exact hK _ _ (Grow.refl _) rfl
              · intro w1 hg Ar seen
                have s5 := seen.sl 5 (.int .i64 (k : Int))
                refine does_plain rfl fun K Q' hK => ?_
                go_simp; exact hK _ _ (Grow.refl _) rfl
              · intro w1 hg Ar seen
                have e4 := seen.de 4 20
                have e5 := seen.de 5 21
                refine does_plain rfl fun K Q' hK => ?_
                go_simp; exact hK _ _ (Grow.refl _) rfl
              · intro w1 hg Ar seen
                have e6 := seen.de 6 22
                refine does_plain rfl fun K Q' hK => ?_
                refine wp_load_mid 56 _ rfl b2 (o2 + k * 2) (by simp [Act.eval, e6]) [.int .i64 x.1, .string x.2] _ (range_below hg C2.out) Tryd.underlying56 rfl oSzL ?_
                exact hK _ _ (Grow.refl _) rfl
              · intro w1 hg Ar seen
                have e3 := seen.de 3 19
                have e7 := seen.de 7 23
                refine does_plain rfl fun K Q' hK => ?_
                have hq : ∀ w, (binOp .neq 56 (.agg #[.int .i64 x.1, .string x.2]) (.agg #[.int .i64 x.1, .string x.2])).run Tryd.prog w = .ok (.bool false) w := (fun w => by rw [eqNL]; simp)
                go_simp; exact hK _ _ (Grow.refl _) rfl
          intro w1 hg
          refine upon_w' (js := [0, 1, 2, 3, 4, 5, 6, 7, 8]) (by rfl) ?_
          refine upon_e (some 16) (upon_e (some 17) (upon_e (some 18) (upon_e (some 19) (upon_e (some 20) (upon_e (some 21) (upon_e (some 22) (upon_e (some 23) (upon_e (some 24) (upon_n ?_)))))))))
          go_simp
          have B2 := hid (B.out.trans (hg.mono HBW.out))
          have HT2 := hid (takeA HT.out HX.out HY.out)
          clear hg B HT
          go_wp2_with fail
          go_roundw
          case rel =>
            first
              | exact ⟨k + 1, by omega, by go_num, B2.out, HT2.out⟩
              | ((repeat apply Exists.intro); exact ⟨⟨k + 1, by omega, by go_num, B2.out, HT2.out⟩, rfl⟩)
          case measure => simp [intOf]; omega
        · have HXY := hid hxy
          have HNE := hid hxy
          clear hxy
          go_upto_region 6 with (fail)
          refine wp_region_each 9 [.eq (.slice (some ⟨b1, o1, none⟩) n1 s1.c), .eq (.int .i64 (k : Int)), .eq (.pointer (some ⟨b1, o1 + k * 2, none⟩)), .eq (.agg #[.int .i64 x.1, .string x.2]), .eq (.slice (some ⟨b2, o2, none⟩) n1 s2.c), .eq (.int .i64 (k : Int)), .eq (.pointer (some ⟨b2, o2 + k * 2, none⟩)), .eq (.agg #[.int .i64 y.1, .string y.2]), .eq (.bool true)] (by kernel_rfl) (by kernel_rfl) (by kernel_rfl) (by kernel_rfl) ?_ ?_
          · all_goals
              refine each_5 ?_ ?_ ?_ ?_ ?_ (each_c ?_ (each_c ?_ (each_c ?_ (each_c ?_ (each_n)))))
              · intro w1 hg Ar seen
                have s0 := seen.sl 0 (.slice (some ⟨b1, o1, none⟩) n1 s1.c)
                refine does_plain rfl fun K Q' hK => ?_
                go_simp; exact hK _ _ (Grow.refl _) rfl
              · intro w1 hg Ar seen
                have s5 := seen.sl 5 (.int .i64 (k : Int))
                refine does_plain rfl fun K Q' hK => ?_
                go_simp; exact hK _ _ (Grow.refl _) rfl
              · intro w1 hg Ar seen
                have e0 := seen.de 0 16
                have e1 := seen.de 1 17
                refine does_plain rfl fun K Q' hK => ?_
                go_simp; exact hK _ _ (Grow.refl _) rfl
              · intro w1 hg Ar seen
                have e2 := seen.de 2 18
                refine does_plain rfl fun K Q' hK => ?_
                refine wp_load_mid 56 _ rfl b1 (o1 + k * 2) (by simp [Act.eval, e2]) [.int .i64 x.1, .string x.2] _ (range_below hg C1.out) Tryd.underlying56 rfl oSzL ?_
                exact hK _ _ (Grow.refl _) rfl
              · intro w1 hg Ar seen
                have s1 := seen.sl 1 (.slice (some ⟨b2, o2, none⟩) n1 s2.c)
                refine does_plain rfl fun K Q' hK => ?_
                go_simp; exact hK _ _ (Grow.refl _) rfl
              · intro w1 hg Ar seen
                have s5 := seen.sl 5 (.int .i64 (k : Int))
                refine does_plain rfl fun K Q' hK => ?_
                go_simp; exact hK _ _ (Grow.refl _) rfl
              · intro w1 hg Ar seen
                have e4 := seen.de 4 20
                have e5 := seen.de 5 21
                refine does_plain rfl fun K Q' hK => ?_
                go_simp; exact hK _ _ (Grow.refl _) rfl
              · intro w1 hg Ar seen
                have e6 := seen.de 6 22
                refine does_plain rfl fun K Q' hK => ?_
                refine wp_load_mid 56 _ rfl b2 (o2 + k * 2) (by simp [Act.eval, e6]) [.int .i64 y.1, .string y.2] _ (range_below hg C2.out) Tryd.underlying56 rfl oSzL ?_
                exact hK _ _ (Grow.refl _) rfl
              · intro w1 hg Ar seen
                have e3 := seen.de 3 19
                have e7 := seen.de 7 23
                refine does_plain rfl fun K Q' hK => ?_
                have hq : ∀ w, (binOp .neq 56 (.agg #[.int .i64 x.1, .string x.2]) (.agg #[.int .i64 y.1, .string y.2])).run Tryd.prog w = .ok (.bool true) w := (fun w => by rw [eqNL]; simp [HNE.out])
                go_simp; exact hK _ _ (Grow.refl _) rfl
          intro w1 hg
          refine upon_w' (js := [0, 1, 2, 3, 4, 5, 6, 7, 8]) (by rfl) ?_
          refine upon_e (some 16) (upon_e (some 17) (upon_e (some 18) (upon_e (some 19) (upon_e (some 20) (upon_e (some 21) (upon_e (some 22) (upon_e (some 23) (upon_e (some 24) (upon_n ?_)))))))))
          go_simp
          have B2 := hid (B.out.trans (hg.mono HBW.out))
          clear hg B
          go_wp2_with fail
          go_ret
          refine ⟨?_, B2.out⟩
          have hf : decide (l1 = l2) = false := by
            simp only [decide_eq_false_iff_not]
            intro he
            have h1 := HX.out
            rw [he, HY.out] at h1
            exact HXY.out (Option.some.inj h1).symm
          rw [hf]
          rfl
      · obtain rfl : k = n1 := by omega
        have hf : decide (l1 = l2) = true := by
          have := HT.out
          rw [List.take_of_length_le (by rw [HL1.out, ← HN1.out]; exact Nat.le_refl _), List.take_of_length_le (by rw [HL2.out, HN2.out]; exact Nat.le_refl _)] at this
          simp [this]
        have HFF := hid hf
        clear hf
        go_wp2_with fail
        go_ret
        exact ⟨by rw [HFF.out]; rfl, B.out⟩
  · have hf : decide (l1 = l2) = false := by
      simp only [decide_eq_false_iff_not]
      intro he
      subst he
      exact hnn (HL1.out.symm.trans HL2.out)
    have hni : ¬ (s1.n : Int) = (s2.n : Int) := by omega
    have HFF := hid hf
    clear hf
    go_enter Tryd.func73, Tryd.ntmps73
    go_wp2_with fail
    go_ret
    exact ⟨by rw [HFF.out]; rfl, Below.refl _ _⟩
theorem indexL_any (s1 : Sl) (l : List (Int × ByteArray)) (v : (Int × ByteArray)) (w : World) (h1 : SlR w s1 2 (linkCells l)) :
    Calls Tryd.prog 99 #[.slice s1.a s1.n s1.c, .agg #[.int .i64 v.1, .string v.2]] w fun e w' => ∃ z : Int, e = .returned (.int .i64 z) ∧ decide (0 ≤ z) = memB v l ∧ Below w.heap.size w w' := by
  have hsm := h1.sm
  have hl1 : l.length = s1.n := by have := h1.rd.len; unfold linkCells at this; rw [flat_len] at this; omega
  have HR1 := hid h1
  have HL1 := hid hl1
  clear h1 hl1
  obtain ⟨n1, hn1⟩ : ∃ n, n = s1.n := ⟨_, rfl⟩
  have HN1 := hid hn1
  rw [← hn1]
  rw [← hn1] at hsm
  clear hn1
  generalize hbe : w.heap.size = b
  have HBE := hid hbe; clear hbe
  go_enter Tryd.func99, Tryd.ntmps99
  go_upto_region 1 with (fail)
  have hbw : Below w.heap.size w (w.alloc (.cells #[.int .i64 v.1, .string v.2] 56)) := (Below.refl _ _).alloc (Nat.le_refl _) _
  have HXB := hid (block_new w (.cells #[.int .i64 v.1, .string v.2] 56))
  rw [HBE.out] at hbw HXB ⊢
  have HR1' := hid (HR1.out.below (by rw [HBE.out]; exact hbw))
  have HBW0 := hid hbw
  have HSZ : Hid (b < (w.alloc (.cells #[.int .i64 v.1, .string v.2] 56)).heap.size) := by show _ < _; simp [HBE.out]
  clear hbw
  generalize w.alloc (.cells #[.int .i64 v.1, .string v.2] 56) = W at *
  go_wp2_with fail
  go_loopw [8] (fun y wr => ∃ k : Nat, k ≤ n1 ∧ y = .int .i64 k ∧ Below b w wr ∧ wr.heap[b]? = some (.cells #[.int .i64 v.1, .string v.2] 56 (0, 0)) ∧ v ∉ l.take k) (fun y _ => n1 - (intOf y).toNat)
  case atStart => exact ⟨0, Nat.zero_le _, rfl, HBW0.out, HXB.out, by simp⟩
  case round =>
    obtain ⟨k, hk, rfl, hb, hxb, ht⟩ := hrel
    have B := hid hb; have HT := hid ht; have XB := hid hxb
    clear hb ht hxb
    by_cases hlt : k < n1
    · have hlt1 : k < s1.n := by rw [← HN1.out]; exact hlt
      have hbel : Below w.heap.size w wr := by rw [HBE.out]; exact B.out
      obtain ⟨b1, o1, x, ha1, hx1, hd1⟩ := SlR.pairR HR1.out hlt1
      have C1 := hid (range_below hbel hd1)
      have HX := hid hx1
      have HBW : Hid (b ≤ wr.heap.size) := by show _ ≤ _; rw [← HBE.out]; exact hbel.size
      rw [ha1]
      clear hd1 hx1 hbel hlt1 ha1
      by_cases hxy : v = x
      · subst hxy
        have HM := hid (memB_iff.2 (List.mem_of_getElem? HX.out))
        go_upto_region 4 with (fail)
        refine wp_region_each 6 [.eq (.agg #[.int .i64 v.1, .string v.2]), .eq (.slice (some ⟨b1, o1, none⟩) n1 s1.c), .eq (.int .i64 (k : Int)), .eq (.pointer (some ⟨b1, o1 + k * 2, none⟩)), .eq (.agg #[.int .i64 v.1, .string v.2]), .eq (.bool true)] (by kernel_rfl) (by kernel_rfl) (by kernel_rfl) (by kernel_rfl) ?_ ?_
        · all_goals
            refine each_5 ?_ ?_ ?_ ?_ ?_ (each_c ?_ (each_n))
            · intro w1 hg Ar seen
              have s3 := seen.sl 3 (.pointer (some ⟨b, 0, none⟩))
              refine does_plain rfl fun K Q' hK => ?_
              refine wp_load_row 56 _ rfl b (by simp [Act.eval, s3]) _ _ _ _ ((hg.block _ (block_lt XB.out)).trans XB.out) Tryd.underlying56 rfl oSzL ?_
              exact hK _ _ (Grow.refl _) rfl
            · intro w1 hg Ar seen
              have s0 := seen.sl 0 (.slice (some ⟨b1, o1, none⟩) n1 s1.c)
              refine does_plain rfl fun K Q' hK => ?_
              go_simp; exact hK _ _ (Grow.refl _) rfl
            · intro w1 hg Ar seen
              have s5 := seen.sl 5 (.int .i64 (k : Int))
              refine does_plain rfl fun K Q' hK => ?_
              go_simp; exact hK _ _ (Grow.refl _) rfl
            · intro w1 hg Ar seen
              have e1 := seen.de 1 12
              have e2 := seen.de 2 13
              refine does_plain rfl fun K Q' hK => ?_
              go_simp; exact hK _ _ (Grow.refl _) rfl
            · intro w1 hg Ar seen
              have e3 := seen.de 3 14
              refine does_plain rfl fun K Q' hK => ?_
              refine wp_load_mid 56 _ rfl b1 (o1 + k * 2) (by simp [Act.eval, e3]) [.int .i64 v.1, .string v.2] _ (range_below hg C1.out) Tryd.underlying56 rfl oSzL ?_
              exact hK _ _ (Grow.refl _) rfl
            · intro w1 hg Ar seen
              have e0 := seen.de 0 11
              have e4 := seen.de 4 15
              refine does_plain rfl fun K Q' hK => ?_
              have hq : ∀ w, (binOp .eql 56 (.agg #[.int .i64 v.1, .string v.2]) (.agg #[.int .i64 v.1, .string v.2])).run Tryd.prog w = .ok (.bool true) w := (fun w => by rw [eqQL]; simp)
              go_simp; exact hK _ _ (Grow.refl _) rfl
        intro w1 hg
        refine upon_w' (js := [0, 1, 2, 3, 4, 5]) (by rfl) ?_
        refine upon_e (some 11) (upon_e (some 12) (upon_e (some 13) (upon_e (some 14) (upon_e (some 15) (upon_e (some 16) (upon_n ?_))))))
        go_simp
        have B2 := hid (B.out.trans (hg.mono HBW.out))
        have XB2 := hid ((hg.block _ (block_lt XB.out)).trans XB.out)
        clear hg B XB
        go_wp2_with fail
        go_ret
        exact ⟨_, rfl, by simp [HM.out], B2.out⟩
      · have HXY := hid hxy
        clear hxy
        go_upto_region 4 with (fail)
        refine wp_region_each 6 [.eq (.agg #[.int .i64 v.1, .string v.2]), .eq (.slice (some ⟨b1, o1, none⟩) n1 s1.c), .eq (.int .i64 (k : Int)), .eq (.pointer (some ⟨b1, o1 + k * 2, none⟩)), .eq (.agg #[.int .i64 x.1, .string x.2]), .eq (.bool false)] (by kernel_rfl) (by kernel_rfl) (by kernel_rfl) (by kernel_rfl) ?_ ?_
        · all_goals
            refine each_5 ?_ ?_ ?_ ?_ ?_ (each_c ?_ (each_n))
            · intro w1 hg Ar seen
              have s3 := seen.sl 3 (.pointer (some ⟨b, 0, none⟩))
              refine does_plain rfl fun K Q' hK => ?_
              refine wp_load_row 56 _ rfl b (by simp [Act.eval, s3]) _ _ _ _ ((hg.block _ (block_lt XB.out)).trans XB.out) Tryd.underlying56 rfl oSzL ?_
              exact hK _ _ (Grow.refl _) rfl
            · intro w1 hg Ar seen
              have s0 := seen.sl 0 (.slice (some ⟨b1, o1, none⟩) n1 s1.c)
              refine does_plain rfl fun K Q' hK => ?_
              go_simp; exact hK _ _ (Grow.refl _) rfl
            · intro w1 hg Ar seen
              have s5 := seen.sl 5 (.int .i64 (k : Int))
              refine does_plain rfl fun K Q' hK => ?_
              go_simp; exact hK _ _ (Grow.refl _) rfl
            · intro w1 hg Ar seen
              have e1 := seen.de 1 12
              have e2 := seen.de 2 13
              refine does_plain rfl fun K Q' hK => ?_
              go_simp; exact hK _ _ (Grow.refl _) rfl
            · intro w1 hg Ar seen
              have e3 := seen.de 3 14
              refine does_plain rfl fun K Q' hK => ?_
              refine wp_load_mid 56 _ rfl b1 (o1 + k * 2) (by simp [Act.eval, e3]) [.int .i64 x.1, .string x.2] _ (range_below hg C1.out) Tryd.underlying56 rfl oSzL ?_
              exact hK _ _ (Grow.refl _) rfl
            · intro w1 hg Ar seen
              have e0 := seen.de 0 11
              have e4 := seen.de 4 15
              refine does_plain rfl fun K Q' hK => ?_
              have hq : ∀ w, (binOp .eql 56 (.agg #[.int .i64 v.1, .string v.2]) (.agg #[.int .i64 x.1, .string x.2])).run Tryd.prog w = .ok (.bool false) w := (fun w => by rw [eqQL]; simp [HXY.out])
              go_simp; exact hK _ _ (Grow.refl _) rfl
        intro w1 hg
        refine upon_w' (js := [0, 1, 2, 3, 4, 5]) (by rfl) ?_
        refine upon_e (some 11) (upon_e (some 12) (upon_e (some 13) (upon_e (some 14) (upon_e (some 15) (upon_e (some 16) (upon_n ?_))))))
        go_simp
        have B2 := hid (B.out.trans (hg.mono HBW.out))
        have XB2 := hid ((hg.block _ (block_lt XB.out)).trans XB.out)
        clear hg B XB
        go_wp2_with fail
        have HT2 := hid (notinA HT.out HX.out HXY.out)
        go_roundw
        case rel =>
          first
            | exact ⟨k + 1, by omega, by go_num, B2.out, XB2.out, HT2.out⟩
            | ((repeat apply Exists.intro); exact ⟨⟨k + 1, by omega, by go_num, B2.out, XB2.out, HT2.out⟩, rfl⟩)
        case measure => simp [intOf]; omega
    · obtain rfl : k = n1 := by omega
      have hf : memB v l = false := by
        have := HT.out
        rw [List.take_of_length_le (by rw [HL1.out, ← HN1.out]; exact Nat.le_refl _)] at this
        exact memB_no this
      have HFF := hid hf
      clear hf
      go_wp2_with fail
      go_ret
      exact ⟨_, rfl, by rw [HFF.out]; rfl, B.out⟩
theorem containsL_any (s1 : Sl) (l : List (Int × ByteArray)) (v : (Int × ByteArray)) (w : World) (h1 : SlR w s1 2 (linkCells l)) :
    Calls Tryd.prog 92 #[.slice s1.a s1.n s1.c, .agg #[.int .i64 v.1, .string v.2]] w fun e w' => e = .returned (.bool (memB v l)) ∧ Below w.heap.size w w' := by
  have HR1 := hid h1; clear h1
  generalize hbe : w.heap.size = b
  have HBE := hid hbe; clear hbe
  go_enter Tryd.func92, Tryd.ntmps92
  go_upto_region 1 with (fail)
  have hbw : Below w.heap.size w (w.alloc (.cells #[.int .i64 v.1, .string v.2] 56)) := (Below.refl _ _).alloc (Nat.le_refl _) _
  have HXB := hid (block_new w (.cells #[.int .i64 v.1, .string v.2] 56))
  have HR2 := hid (HR1.out.below hbw)
  rw [HBE.out] at hbw HXB ⊢
  have HBW0 := hid hbw
  have HSZ : Hid (b ≤ (w.alloc (.cells #[.int .i64 v.1, .string v.2] 56)).heap.size) := by show _ ≤ _; simp [HBE.out]
  clear hbw
  generalize w.alloc (.cells #[.int .i64 v.1, .string v.2] 56) = W at *
  go_wp2_with (refine wpList_load_row rfl 56 _ rfl b rfl _ _ _ _ HXB.out Tryd.underlying56 rfl oSzL ?_)
  refine (indexL_any s1 l v W HR2.out).mono ?_
  rintro e w' ⟨z, rfl, hz, hb⟩
  have HZ := hid hz; have HB := hid hb
  clear hz hb
  dsimp only
  by_cases h0 : 0 ≤ z
  · have HM : Hid (memB v l = true) := by show _ = _; rw [← HZ.out]; simp [h0]
    go_wp2_with fail
    go_ret
    exact ⟨by rw [HM.out]; rfl, HBW0.out.trans (HB.out.mono HSZ.out)⟩
  · have HM : Hid (memB v l = false) := by show _ = _; rw [← HZ.out]; simp [h0]
    go_wp2_with fail
    go_ret
    exact ⟨by rw [HM.out]; rfl, HBW0.out.trans (HB.out.mono HSZ.out)⟩
theorem eqVC (d : Nat) (x y : (ByteArray × ByteArray)) (w : World) : (Op.equalIn (d + 2) 58 (.agg #[.string x.1, .string x.2]) (.agg #[.string y.1, .string y.2])).run Tryd.prog w = .ok (decide (x = y)) w := by
  obtain ⟨x1, x2⟩ := x
  obtain ⟨y1, y2⟩ := y
  by_cases h1 : x1 = y1
  · by_cases h2 : x2 = y2
    · subst h1; subst h2
      go_simp
    · have hb := bytes_ne h2
      subst h1
      have hd : decide ((x1, x2) = (x1, y2)) = false := by simp [h2]
      rw [hd]
      go_simp
      try simp [hb]
  · have hd : decide ((x1, x2) = (y1, y2)) = false := by simp [h1]
    rw [hd]
    have hb := bytes_ne h1
    go_simp
    try simp [hb]
theorem eqQC (x y : (ByteArray × ByteArray)) (w : World) : (binOp .eql 58 (.agg #[.string x.1, .string x.2]) (.agg #[.string y.1, .string y.2])).run Tryd.prog w = .ok (.bool (decide (x = y))) w := by
  rw [run_eql_struct, eqVC 9998]; rfl
theorem eqNC (x y : (ByteArray × ByteArray)) (w : World) : (binOp .neq 58 (.agg #[.string x.1, .string x.2]) (.agg #[.string y.1, .string y.2])).run Tryd.prog w = .ok (.bool (!decide (x = y))) w := by
  rw [run_neq_struct, eqVC 9998]; rfl
theorem oSzC : (Tryd.prog.info? 58).map (·.size) = some 2 := by kernel_rfl
theorem equalC_any (s1 s2 : Sl) (l1 l2 : List (ByteArray × ByteArray)) (w : World) (h1 : SlR w s1 2 (custCells l1)) (h2 : SlR w s2 2 (custCells l2)) :
    Calls Tryd.prog 74 #[.slice s1.a s1.n s1.c, .slice s2.a s2.n s2.c] w fun e w' => e = .returned (.bool (decide (l1 = l2))) ∧ Below w.heap.size w w' := by
  have hsm := h1.sm
  have hl1 : l1.length = s1.n := by have := h1.rd.len; unfold custCells at this; rw [flat_len] at this; omega
  have hl2 : l2.length = s2.n := by have := h2.rd.len; unfold custCells at this; rw [flat_len] at this; omega
  have HR1 := hid h1; have HR2 := hid h2
  have HL1 := hid hl1; have HL2 := hid hl2
  clear h1 h2 hl1 hl2
  by_cases hnn : s1.n = s2.n
  · obtain ⟨n1, hn1⟩ : ∃ n, n = s1.n := ⟨_, rfl⟩
    have hn2 : s2.n = n1 := by omega
    have HN1 := hid hn1; have HN2 := hid hn2
    rw [hn2, ← hn1]
    rw [← hn1] at hsm
    clear hnn hn1 hn2
    generalize hbe : w.heap.size = b
    have HBE := hid hbe; clear hbe
    go_enter Tryd.func74, Tryd.ntmps74
    go_wp2_with fail
    go_loopw [13] (fun y wr => ∃ k : Nat, k ≤ n1 ∧ y = .int .i64 k ∧ Below b w wr ∧ l1.take k = l2.take k) (fun y _ => n1 - (intOf y).toNat)
    case atStart => exact ⟨0, Nat.zero_le _, rfl, Below.refl _ _, rfl⟩
    case round =>
      obtain ⟨k, hk, rfl, hb, ht⟩ := hrel
      have B := hid hb; have HT := hid ht
      clear hb ht
      by_cases hlt : k < n1
      · have hlt1 : k < s1.n := by rw [← HN1.out]; exact hlt
        have hlt2 : k < s2.n := by rw [HN2.out]; exact hlt
        have hbel : Below w.heap.size w wr := by rw [HBE.out]; exact B.out
        obtain ⟨b1, o1, x, ha1, hx1, hd1⟩ := SlR.pairR HR1.out hlt1
        obtain ⟨b2, o2, y, ha2, hx2, hd2⟩ := SlR.pairR HR2.out hlt2
        have C1 := hid (range_below hbel hd1); have C2 := hid (range_below hbel hd2)
        have HX := hid hx1; have HY := hid hx2
        have HBW : Hid (b ≤ wr.heap.size) := by show _ ≤ _; rw [← HBE.out]; exact hbel.size
        rw [ha1, ha2]
        clear hd1 hd2 hx1 hx2 hbel hlt1 hlt2 ha1 ha2
        by_cases hxy : x = y
        · subst hxy
          go_upto_region 6 with (fail)
          refine wp_region_each 9 [.eq (.slice (some ⟨b1, o1, none⟩) n1 s1.c), .eq (.int .i64 (k : Int)), .eq (.pointer (some ⟨b1, o1 + k * 2, none⟩)), .eq (.agg #[.string x.1, .string x.2]), .eq (.slice (some ⟨b2, o2, none⟩) n1 s2.c), .eq (.int .i64 (k : Int)), .eq (.pointer (some ⟨b2, o2 + k * 2, none⟩)), .eq (.agg #[.string x.1, .string x.2]), .eq (.bool false)] (by kernel_rfl) (by kernel_rfl) (by kernel_rfl) (by kernel_rfl) ?_ ?_
          · all_goals
              refine each_5 ?_ ?_ ?_ ?_ ?_ (each_c ?_ (each_c ?_ (each_c ?_ (each_c ?_ (each_n)))))
              · intro w1 hg Ar seen
                have s0 := seen.sl 0 (.slice (some ⟨b1, o1, none⟩) n1 s1.c)
                refine does_plain rfl fun K Q' hK => ?_
                go_simp; exact hK _ _ (Grow.refl _) rfl
              · intro w1 hg Ar seen
                have s5 := seen.sl 5 (.int .i64 (k : Int))
                refine does_plain rfl fun K Q' hK => ?_
                go_simp; exact hK _ _ (Grow.refl _) rfl
              · intro w1 hg Ar seen
                have e0 := seen.de 0 16
                have e1 := seen.de 1 17
                refine does_plain rfl fun K Q' hK => ?_
                go_simp; exact hK _ _ (Grow.refl _) rfl
              · intro w1 hg Ar seen
                have e2 := seen.de 2 18
                refine does_plain rfl fun K Q' hK => ?_
                refine wp_load_mid 58 _ rfl b1 (o1 + k * 2) (by simp [Act.eval, e2]) [.string x.1, .string x.2] _ (range_below hg C1.out) Tryd.underlying58 rfl oSzC ?_
                exact hK _ _ (Grow.refl _) rfl
              · intro w1 hg Ar seen
                have s1 := seen.sl 1 (.slice (some ⟨b2, o2, none⟩) n1 s2.c)
                refine does_plain rfl fun K Q' hK => ?_
                go_simp; exact hK _ _ (Grow.refl _) rfl
              · intro w1 hg Ar seen
                have s5 := seen.sl 5 (.int .i64 (k : Int))
                refine does_plain rfl fun K Q' hK => ?_
                go_simp; exact hK _ _ (Grow.refl _) rfl
              · intro w1 hg Ar seen
                have e4 := seen.de 4 20
                have e5 := seen.de 5 21
                refine does_plain rfl fun K Q' hK => ?_
                go_simp; exact hK _ _ (Grow.refl _) rfl
              · intro w1 hg Ar seen
                have e6 := seen.de 6 22
                refine does_plain rfl fun K Q' hK => ?_
                refine wp_load_mid 58 _ rfl b2 (o2 + k * 2) (by simp [Act.eval, e6]) [.string x.1, .string x.2] _ (range_below hg C2.out) Tryd.underlying58 rfl oSzC ?_
                exact hK _ _ (Grow.refl _) rfl
              · intro w1 hg Ar seen
                have e3 := seen.de 3 19
                have e7 := seen.de 7 23
                refine does_plain rfl fun K Q' hK => ?_
                have hq : ∀ w, (binOp .neq 58 (.agg #[.string x.1, .string x.2]) (.agg #[.string x.1, .string x.2])).run Tryd.prog w = .ok (.bool false) w := (fun w => by rw [eqNC]; simp)
                go_simp; exact hK _ _ (Grow.refl _) rfl
          intro w1 hg
          refine upon_w' (js := [0, 1, 2, 3, 4, 5, 6, 7, 8]) (by rfl) ?_
          refine upon_e (some 16) (upon_e (some 17) (upon_e (some 18) (upon_e (some 19) (upon_e (some 20) (upon_e (some 21) (upon_e (some 22) (upon_e (some 23) (upon_e (some 24) (upon_n ?_)))))))))
          go_simp
          have B2 := hid (B.out.trans (hg.mono HBW.out))
          have HT2 := hid (takeA HT.out HX.out HY.out)
          clear hg B HT
          go_wp2_with fail
          go_roundw
          case rel =>
            first
              | exact ⟨k + 1, by omega, by go_num, B2.out, HT2.out⟩
              | ((repeat apply Exists.intro); exact ⟨⟨k + 1, by omega, by go_num, B2.out, HT2.out⟩, rfl⟩)
          case measure => simp [intOf]; omega
        · have HXY := hid hxy
          have HNE := hid hxy
          clear hxy
          go_upto_region 6 with (fail)
          refine wp_region_each 9 [.eq (.slice (some ⟨b1, o1, none⟩) n1 s1.c), .eq (.int .i64 (k : Int)), .eq (.pointer (some ⟨b1, o1 + k * 2, none⟩)), .eq (.agg #[.string x.1, .string x.2]), .eq (.slice (some ⟨b2, o2, none⟩) n1 s2.c), .eq (.int .i64 (k : Int)), .eq (.pointer (some ⟨b2, o2 + k * 2, none⟩)), .eq (.agg #[.string y.1, .string y.2]), .eq (.bool true)] (by kernel_rfl) (by kernel_rfl) (by kernel_rfl) (by kernel_rfl) ?_ ?_
          · all_goals
              refine each_5 ?_ ?_ ?_ ?_ ?_ (each_c ?_ (each_c ?_ (each_c ?_ (each_c ?_ (each_n)))))
              · intro w1 hg Ar seen
                have s0 := seen.sl 0 (.slice (some ⟨b1, o1, none⟩) n1 s1.c)
                refine does_plain rfl fun K Q' hK => ?_
                go_simp; exact hK _ _ (Grow.refl _) rfl
              · intro w1 hg Ar seen
                have s5 := seen.sl 5 (.int .i64 (k : Int))
                refine does_plain rfl fun K Q' hK => ?_
                go_simp; exact hK _ _ (Grow.refl _) rfl
              · intro w1 hg Ar seen
                have e0 := seen.de 0 16
                have e1 := seen.de 1 17
                refine does_plain rfl fun K Q' hK => ?_
                go_simp; exact hK _ _ (Grow.refl _) rfl
              · intro w1 hg Ar seen
                have e2 := seen.de 2 18
                refine does_plain rfl fun K Q' hK => ?_
                refine wp_load_mid 58 _ rfl b1 (o1 + k * 2) (by simp [Act.eval, e2]) [.string x.1, .string x.2] _ (range_below hg C1.out) Tryd.underlying58 rfl oSzC ?_
                exact hK _ _ (Grow.refl _) rfl
              · intro w1 hg Ar seen
                have s1 := seen.sl 1 (.slice (some ⟨b2, o2, none⟩) n1 s2.c)
                refine does_plain rfl fun K Q' hK => ?_
                go_simp; exact hK _ _ (Grow.refl _) rfl
              · intro w1 hg Ar seen
                have s5 := seen.sl 5 (.int .i64 (k : Int))
                refine does_plain rfl fun K Q' hK => ?_
                go_simp; exact hK _ _ (Grow.refl _) rfl
              · intro w1 hg Ar seen
                have e4 := seen.de 4 20
                have e5 := seen.de 5 21
                refine does_plain rfl fun K Q' hK => ?_
                go_simp; exact hK _ _ (Grow.refl _) rfl
              · intro w1 hg Ar seen
                have e6 := seen.de 6 22
                refine does_plain rfl fun K Q' hK => ?_
                refine wp_load_mid 58 _ rfl b2 (o2 + k * 2) (by simp [Act.eval, e6]) [.string y.1, .string y.2] _ (range_below hg C2.out) Tryd.underlying58 rfl oSzC ?_
                exact hK _ _ (Grow.refl _) rfl
              · intro w1 hg Ar seen
                have e3 := seen.de 3 19
                have e7 := seen.de 7 23
                refine does_plain rfl fun K Q' hK => ?_
                have hq : ∀ w, (binOp .neq 58 (.agg #[.string x.1, .string x.2]) (.agg #[.string y.1, .string y.2])).run Tryd.prog w = .ok (.bool true) w := (fun w => by rw [eqNC]; simp [HNE.out])
                go_simp; exact hK _ _ (Grow.refl _) rfl
          intro w1 hg
          refine upon_w' (js := [0, 1, 2, 3, 4, 5, 6, 7, 8]) (by rfl) ?_
          refine upon_e (some 16) (upon_e (some 17) (upon_e (some 18) (upon_e (some 19) (upon_e (some 20) (upon_e (some 21) (upon_e (some 22) (upon_e (some 23) (upon_e (some 24) (upon_n ?_)))))))))
          go_simp
          have B2 := hid (B.out.trans (hg.mono HBW.out))
          clear hg B
          go_wp2_with fail
          go_ret
          refine ⟨?_, B2.out⟩
          have hf : decide (l1 = l2) = false := by
            simp only [decide_eq_false_iff_not]
            intro he
            have h1 := HX.out
            rw [he, HY.out] at h1
            exact HXY.out (Option.some.inj h1).symm
          rw [hf]
          rfl
      · obtain rfl : k = n1 := by omega
        have hf : decide (l1 = l2) = true := by
          have := HT.out
          rw [List.take_of_length_le (by rw [HL1.out, ← HN1.out]; exact Nat.le_refl _), List.take_of_length_le (by rw [HL2.out, HN2.out]; exact Nat.le_refl _)] at this
          simp [this]
        have HFF := hid hf
        clear hf
        go_wp2_with fail
        go_ret
        exact ⟨by rw [HFF.out]; rfl, B.out⟩
  · have hf : decide (l1 = l2) = false := by
      simp only [decide_eq_false_iff_not]
      intro he
      subst he
      exact hnn (HL1.out.symm.trans HL2.out)
    have hni : ¬ (s1.n : Int) = (s2.n : Int) := by omega
    have HFF := hid hf
    clear hf
    go_enter Tryd.func74, Tryd.ntmps74
    go_wp2_with fail
    go_ret
    exact ⟨by rw [HFF.out]; rfl, Below.refl _ _⟩
theorem indexC_any (s1 : Sl) (l : List (ByteArray × ByteArray)) (v : (ByteArray × ByteArray)) (w : World) (h1 : SlR w s1 2 (custCells l)) :
    Calls Tryd.prog 100 #[.slice s1.a s1.n s1.c, .agg #[.string v.1, .string v.2]] w fun e w' => ∃ z : Int, e = .returned (.int .i64 z) ∧ decide (0 ≤ z) = memB v l ∧ Below w.heap.size w w' := by
  have hsm := h1.sm
  have hl1 : l.length = s1.n := by have := h1.rd.len; unfold custCells at this; rw [flat_len] at this; omega
  have HR1 := hid h1
  have HL1 := hid hl1
  clear h1 hl1
  obtain ⟨n1, hn1⟩ : ∃ n, n = s1.n := ⟨_, rfl⟩
  have HN1 := hid hn1
  rw [← hn1]
  rw [← hn1] at hsm
  clear hn1
  generalize hbe : w.heap.size = b
  have HBE := hid hbe; clear hbe
  go_enter Tryd.func100, Tryd.ntmps100
  go_upto_region 1 with (fail)
  have hbw : Below w.heap.size w (w.alloc (.cells #[.string v.1, .string v.2] 58)) := (Below.refl _ _).alloc (Nat.le_refl _) _
  have HXB := hid (block_new w (.cells #[.string v.1, .string v.2] 58))
  rw [HBE.out] at hbw HXB ⊢
  have HR1' := hid (HR1.out.below (by rw [HBE.out]; exact hbw))
  have HBW0 := hid hbw
  have HSZ : Hid (b < (w.alloc (.cells #[.string v.1, .string v.2] 58)).heap.size) := by show _ < _; simp [HBE.out]
  clear hbw
  generalize w.alloc (.cells #[.string v.1, .string v.2] 58) = W at *
  go_wp2_with fail
  go_loopw [8] (fun y wr => ∃ k : Nat, k ≤ n1 ∧ y = .int .i64 k ∧ Below b w wr ∧ wr.heap[b]? = some (.cells #[.string v.1, .string v.2] 58 (0, 0)) ∧ v ∉ l.take k) (fun y _ => n1 - (intOf y).toNat)
  case atStart => exact ⟨0, Nat.zero_le _, rfl, HBW0.out, HXB.out, by simp⟩
  case round =>
    obtain ⟨k, hk, rfl, hb, hxb, ht⟩ := hrel
    have B := hid hb; have HT := hid ht; have XB := hid hxb
    clear hb ht hxb
    by_cases hlt : k < n1
    · have hlt1 : k < s1.n := by rw [← HN1.out]; exact hlt
      have hbel : Below w.heap.size w wr := by rw [HBE.out]; exact B.out
      obtain ⟨b1, o1, x, ha1, hx1, hd1⟩ := SlR.pairR HR1.out hlt1
      have C1 := hid (range_below hbel hd1)
      have HX := hid hx1
      have HBW : Hid (b ≤ wr.heap.size) := by show _ ≤ _; rw [← HBE.out]; exact hbel.size
      rw [ha1]
      clear hd1 hx1 hbel hlt1 ha1
      by_cases hxy : v = x
      · subst hxy
        have HM := hid (memB_iff.2 (List.mem_of_getElem? HX.out))
        go_upto_region 4 with (fail)
        refine wp_region_each 6 [.eq (.agg #[.string v.1, .string v.2]), .eq (.slice (some ⟨b1, o1, none⟩) n1 s1.c), .eq (.int .i64 (k : Int)), .eq (.pointer (some ⟨b1, o1 + k * 2, none⟩)), .eq (.agg #[.string v.1, .string v.2]), .eq (.bool true)] (by kernel_rfl) (by kernel_rfl) (by kernel_rfl) (by kernel_rfl) ?_ ?_
        · all_goals
            refine each_5 ?_ ?_ ?_ ?_ ?_ (each_c ?_ (each_n))
            · intro w1 hg Ar seen
              have s3 := seen.sl 3 (.pointer (some ⟨b, 0, none⟩))
              refine does_plain rfl fun K Q' hK => ?_
              refine wp_load_row 58 _ rfl b (by simp [Act.eval, s3]) _ _ _ _ ((hg.block _ (block_lt XB.out)).trans XB.out) Tryd.underlying58 rfl oSzC ?_
              exact hK _ _ (Grow.refl _) rfl
            · intro w1 hg Ar seen
              have s0 := seen.sl 0 (.slice (some ⟨b1, o1, none⟩) n1 s1.c)
              refine does_plain rfl fun K Q' hK => ?_
              go_simp; exact hK _ _ (Grow.refl _) rfl
            · intro w1 hg Ar seen
              have s5 := seen.sl 5 (.int .i64 (k : Int))
              refine does_plain rfl fun K Q' hK => ?_
              go_simp; exact hK _ _ (Grow.refl _) rfl
            · intro w1 hg Ar seen
              have e1 := seen.de 1 12
              have e2 := seen.de 2 13
              refine does_plain rfl fun K Q' hK => ?_
              go_simp; exact hK _ _ (Grow.refl _) rfl
            · intro w1 hg Ar seen
              have e3 := seen.de 3 14
              refine does_plain rfl fun K Q' hK => ?_
              refine wp_load_mid 58 _ rfl b1 (o1 + k * 2) (by simp [Act.eval, e3]) [.string v.1, .string v.2] _ (range_below hg C1.out) Tryd.underlying58 rfl oSzC ?_
              exact hK _ _ (Grow.refl _) rfl
            · intro w1 hg Ar seen
              have e0 := seen.de 0 11
              have e4 := seen.de 4 15
              refine does_plain rfl fun K Q' hK => ?_
              have hq : ∀ w, (binOp .eql 58 (.agg #[.string v.1, .string v.2]) (.agg #[.string v.1, .string v.2])).run Tryd.prog w = .ok (.bool true) w := (fun w => by rw [eqQC]; simp)
              go_simp; exact hK _ _ (Grow.refl _) rfl
        intro w1 hg
        refine upon_w' (js := [0, 1, 2, 3, 4, 5]) (by rfl) ?_
        refine upon_e (some 11) (upon_e (some 12) (upon_e (some 13) (upon_e (some 14) (upon_e (some 15) (upon_e (some 16) (upon_n ?_))))))
        go_simp
        have B2 := hid (B.out.trans (hg.mono HBW.out))
        have XB2 := hid ((hg.block _ (block_lt XB.out)).trans XB.out)
        clear hg B XB
        go_wp2_with fail
        go_ret
        exact ⟨_, rfl, by simp [HM.out], B2.out⟩
      · have HXY := hid hxy
        clear hxy
        go_upto_region 4 with (fail)
        refine wp_region_each 6 [.eq (.agg #[.string v.1, .string v.2]), .eq (.slice (some ⟨b1, o1, none⟩) n1 s1.c), .eq (.int .i64 (k : Int)), .eq (.pointer (some ⟨b1, o1 + k * 2, none⟩)), .eq (.agg #[.string x.1, .string x.2]), .eq (.bool false)] (by kernel_rfl) (by kernel_rfl) (by kernel_rfl) (by kernel_rfl) ?_ ?_
        · all_goals
            refine each_5 ?_ ?_ ?_ ?_ ?_ (each_c ?_ (each_n))
            · intro w1 hg Ar seen
              have s3 := seen.sl 3 (.pointer (some ⟨b, 0, none⟩))
              refine does_plain rfl fun K Q' hK => ?_
              refine wp_load_row 58 _ rfl b (by simp [Act.eval, s3]) _ _ _ _ ((hg.block _ (block_lt XB.out)).trans XB.out) Tryd.underlying58 rfl oSzC ?_
              exact hK _ _ (Grow.refl _) rfl
            · intro w1 hg Ar seen
              have s0 := seen.sl 0 (.slice (some ⟨b1, o1, none⟩) n1 s1.c)
              refine does_plain rfl fun K Q' hK => ?_
              go_simp; exact hK _ _ (Grow.refl _) rfl
            · intro w1 hg Ar seen
              have s5 := seen.sl 5 (.int .i64 (k : Int))
              refine does_plain rfl fun K Q' hK => ?_
              go_simp; exact hK _ _ (Grow.refl _) rfl
            · intro w1 hg Ar seen
              have e1 := seen.de 1 12
              have e2 := seen.de 2 13
              refine does_plain rfl fun K Q' hK => ?_
              go_simp; exact hK _ _ (Grow.refl _) rfl
            · intro w1 hg Ar seen
              have e3 := seen.de 3 14
              refine does_plain rfl fun K Q' hK => ?_
              refine wp_load_mid 58 _ rfl b1 (o1 + k * 2) (by simp [Act.eval, e3]) [.string x.1, .string x.2] _ (range_below hg C1.out) Tryd.underlying58 rfl oSzC ?_
              exact hK _ _ (Grow.refl _) rfl
            · intro w1 hg Ar seen
              have e0 := seen.de 0 11
              have e4 := seen.de 4 15
              refine does_plain rfl fun K Q' hK => ?_
              have hq : ∀ w, (binOp .eql 58 (.agg #[.string v.1, .string v.2]) (.agg #[.string x.1, .string x.2])).run Tryd.prog w = .ok (.bool false) w := (fun w => by rw [eqQC]; simp [HXY.out])
              go_simp; exact hK _ _ (Grow.refl _) rfl
        intro w1 hg
        refine upon_w' (js := [0, 1, 2, 3, 4, 5]) (by rfl) ?_
        refine upon_e (some 11) (upon_e (some 12) (upon_e (some 13) (upon_e (some 14) (upon_e (some 15) (upon_e (some 16) (upon_n ?_))))))
        go_simp
        have B2 := hid (B.out.trans (hg.mono HBW.out))
        have XB2 := hid ((hg.block _ (block_lt XB.out)).trans XB.out)
        clear hg B XB
        go_wp2_with fail
        have HT2 := hid (notinA HT.out HX.out HXY.out)
        go_roundw
        case rel =>
          first
            | exact ⟨k + 1, by omega, by go_num, B2.out, XB2.out, HT2.out⟩
            | ((repeat apply Exists.intro); exact ⟨⟨k + 1, by omega, by go_num, B2.out, XB2.out, HT2.out⟩, rfl⟩)
        case measure => simp [intOf]; omega
    · obtain rfl : k = n1 := by omega
      have hf : memB v l = false := by
        have := HT.out
        rw [List.take_of_length_le (by rw [HL1.out, ← HN1.out]; exact Nat.le_refl _)] at this
        exact memB_no this
      have HFF := hid hf
      clear hf
      go_wp2_with fail
      go_ret
      exact ⟨_, rfl, by rw [HFF.out]; rfl, B.out⟩
theorem containsC_any (s1 : Sl) (l : List (ByteArray × ByteArray)) (v : (ByteArray × ByteArray)) (w : World) (h1 : SlR w s1 2 (custCells l)) :
    Calls Tryd.prog 93 #[.slice s1.a s1.n s1.c, .agg #[.string v.1, .string v.2]] w fun e w' => e = .returned (.bool (memB v l)) ∧ Below w.heap.size w w' := by
  have HR1 := hid h1; clear h1
  generalize hbe : w.heap.size = b
  have HBE := hid hbe; clear hbe
  go_enter Tryd.func93, Tryd.ntmps93
  go_upto_region 1 with (fail)
  have hbw : Below w.heap.size w (w.alloc (.cells #[.string v.1, .string v.2] 58)) := (Below.refl _ _).alloc (Nat.le_refl _) _
  have HXB := hid (block_new w (.cells #[.string v.1, .string v.2] 58))
  have HR2 := hid (HR1.out.below hbw)
  rw [HBE.out] at hbw HXB ⊢
  have HBW0 := hid hbw
  have HSZ : Hid (b ≤ (w.alloc (.cells #[.string v.1, .string v.2] 58)).heap.size) := by show _ ≤ _; simp [HBE.out]
  clear hbw
  generalize w.alloc (.cells #[.string v.1, .string v.2] 58) = W at *
  go_wp2_with (refine wpList_load_row rfl 58 _ rfl b rfl _ _ _ _ HXB.out Tryd.underlying58 rfl oSzC ?_)
  refine (indexC_any s1 l v W HR2.out).mono ?_
  rintro e w' ⟨z, rfl, hz, hb⟩
  have HZ := hid hz; have HB := hid hb
  clear hz hb
  dsimp only
  by_cases h0 : 0 ≤ z
  · have HM : Hid (memB v l = true) := by show _ = _; rw [← HZ.out]; simp [h0]
    go_wp2_with fail
    go_ret
    exact ⟨by rw [HM.out]; rfl, HBW0.out.trans (HB.out.mono HSZ.out)⟩
  · have HM : Hid (memB v l = false) := by show _ = _; rw [← HZ.out]; simp [h0]
    go_wp2_with fail
    go_ret
    exact ⟨by rw [HM.out]; rfl, HBW0.out.trans (HB.out.mono HSZ.out)⟩
theorem oZrD : (Tryd.prog.info? 27).map (·.zero) = some (some (.agg #[.bool false, .int .i64 0])) := by kernel_rfl
theorem oSzD : (Tryd.prog.info? 27).map (·.size) = some 2 := by kernel_rfl
theorem oneD (h : Bool) (t : Int) : (#[.bool h, .int .i64 t] : Array Value).all (·.oneCell') = true := by simp [Value.oneCell']
theorem oZrL : (Tryd.prog.info? 56).map (·.zero) = some (some (.agg #[.int .i64 0, .string ⟨#[]⟩])) := by kernel_rfl
theorem oneL (x : (Int × ByteArray)) : (#[.int .i64 x.1, .string x.2] : Array Value).all (·.oneCell') = true := by simp [Value.oneCell']
theorem oZrC : (Tryd.prog.info? 58).map (·.zero) = some (some (.agg #[.string ⟨#[]⟩, .string ⟨#[]⟩])) := by kernel_rfl
theorem oneC (x : (ByteArray × ByteArray)) : (#[.string x.1, .string x.2] : Array Value).all (·.oneCell') = true := by simp [Value.oneCell']
end Go.Proofs.YtdlkobmlnpijgaaDoor
