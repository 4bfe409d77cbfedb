/- slices.Clone and object.Copy: what is made is the call's own. -/
import Derived.Test.YtdlkobmlnpijgaaDoorObj
namespace Go.Proofs.YtdlkobmlnpijgaaDoor
open Go.RowKit
set_option linter.unusedVariables false
set_option linter.unusedSimpArgs false
set_option maxRecDepth 100000
set_option maxHeartbeats 3200000
theorem cloneB2_any (s : Sl) (xs : List Value) (w : World) (h : SlR w s 1 xs) (h1 : ∀ u ∈ xs, u.oneCell' = true) :
    Calls Tryd.prog 75 #[.slice s.a s.n s.c] w fun e w' => ∃ s' : Sl, e = .returned (.slice s'.a s'.n s'.c) ∧ s'.n = s.n ∧ w'.ownsRow w.heap.size 5 1 (.slice s'.a s'.n s'.c) s'.n xs ∧ Below w.heap.size w w' := by
  obtain ⟨i, hi, hz0, hz1, hz2⟩ := info_parts oInfoB
  obtain ⟨a, n, c⟩ := s
  have hr := h.rd; have hno := h.no; have hsm := h.sm
  simp only at hr hno hsm ⊢
  cases a with
  | none =>
    obtain rfl := hno rfl
    obtain rfl : n = 0 := by
      rcases Nat.eq_zero_or_pos n with h' | h'
      · exact h'
      · obtain ⟨b, off, hb, _⟩ := hr.cell 0 (by omega); cases hb
    have hxs : xs = [] := List.eq_nil_of_length_eq_zero (by have := hr.len; simpa using this)
    clear hr hno hsm
    have he : ∀ w, (binOp .eql 22 (.slice none 0 0) (.slice none 0 0)).run Tryd.prog w = .ok (.bool true) w := fun w => Lib.run_eql_slice_nil (P := Tryd.prog) w 22 5 none 0 0 0 0 Tryd.underlying22
    go_enter Tryd.func75, Tryd.ntmps75
    go_wp2
    refine bodyPost_ret (v := .slice none 0 0) (by simp [results, go_sem]; try rfl) rfl ?_
    subst hxs
    exact ⟨⟨none, 0, 0⟩, rfl, rfl, ⟨rfl, .inl ⟨rfl, rfl⟩⟩, Below.refl _ _⟩
  | some x =>
    have HR := hid hr; clear hr
    have he : ∀ w, (binOp .eql 22 (.slice (some x) n c) (.slice none 0 0)).run Tryd.prog w = .ok (.bool false) w := fun w => Lib.run_eql_slice_nil (P := Tryd.prog) w 22 5 (some x) n c 0 0 Tryd.underlying22
    clear hno
    go_enter Tryd.func75, Tryd.ntmps75
    go_wp2_with (at_builtin; refine wpList_append_c rfl _ _ 22 rfl w.heap.size 5 i _ 1 1 Tryd.underlying22 hi hz0 hz1 hz2 rfl (by decide) _ 0 [] rfl (World.ownsRow_made w #[] 0 (Nat.le_refl _) (by unfold maxLen; omega) rfl) _ _ _ xs rfl (HR.out.below ((Below.refl _ _).alloc (Nat.le_refl _) _)) h1 (fun hx => by cases hx) (by unfold maxLen; omega) (by omega) (by simp) ?_; intro a' c' w1 hown hg hfr; have HO := hid hown; have HG := hid hg; have HF := hid hfr; clear hown hg hfr)
    go_ret
    have ho := HO.out
    have hg := HG.out
    rw [List.nil_append] at ho
    have hb : Below w.heap.size w w1 := ((Below.refl _ _).alloc (Nat.le_refl _) _).grown hg (by simp) (by intro q hq; cases hq; exact Nat.le_refl _)
    rw [Nat.zero_add] at ho
    exact ⟨⟨a', n, c'⟩, rfl, rfl, ho, hb⟩
theorem cloneS2_any (s : Sl) (xs : List Value) (w : World) (h : SlR w s 1 xs) (h1 : ∀ u ∈ xs, u.oneCell' = true) (hs1 : s.n ≤ 1099511627776) :
    Calls Tryd.prog 76 #[.slice s.a s.n s.c] w fun e w' => ∃ s' : Sl, e = .returned (.slice s'.a s'.n s'.c) ∧ s'.n = s.n ∧ w'.ownsRow w.heap.size 9 1 (.slice s'.a s'.n s'.c) s'.n xs ∧ Below w.heap.size w w' := by
  obtain ⟨i, hi, hz0, hz1, hz2⟩ := info_parts oInfoS
  obtain ⟨a, n, c⟩ := s
  have hr := h.rd; have hno := h.no; have hsm := h.sm
  simp only at hr hno hsm ⊢
  simp only at hs1
  cases a with
  | none =>
    obtain rfl := hno rfl
    obtain rfl : n = 0 := by
      rcases Nat.eq_zero_or_pos n with h' | h'
      · exact h'
      · obtain ⟨b, off, hb, _⟩ := hr.cell 0 (by omega); cases hb
    have hxs : xs = [] := List.eq_nil_of_length_eq_zero (by have := hr.len; simpa using this)
    clear hr hno hsm
    have he : ∀ w, (binOp .eql 29 (.slice none 0 0) (.slice none 0 0)).run Tryd.prog w = .ok (.bool true) w := fun w => Lib.run_eql_slice_nil (P := Tryd.prog) w 29 9 none 0 0 0 0 Tryd.underlying29
    go_enter Tryd.func76, Tryd.ntmps76
    go_wp2
    refine bodyPost_ret (v := .slice none 0 0) (by simp [results, go_sem]; try rfl) rfl ?_
    subst hxs
    exact ⟨⟨none, 0, 0⟩, rfl, rfl, ⟨rfl, .inl ⟨rfl, rfl⟩⟩, Below.refl _ _⟩
  | some x =>
    have HR := hid hr; clear hr
    have he : ∀ w, (binOp .eql 29 (.slice (some x) n c) (.slice none 0 0)).run Tryd.prog w = .ok (.bool false) w := fun w => Lib.run_eql_slice_nil (P := Tryd.prog) w 29 9 (some x) n c 0 0 Tryd.underlying29
    clear hno
    go_enter Tryd.func76, Tryd.ntmps76
    go_wp2_with (at_builtin; refine wpList_append_c rfl _ _ 29 rfl w.heap.size 9 i _ 1 16 Tryd.underlying29 hi hz0 hz1 hz2 rfl (by decide) _ 0 [] rfl (World.ownsRow_made w #[] 0 (Nat.le_refl _) (by unfold maxLen; omega) rfl) _ _ _ xs rfl (HR.out.below ((Below.refl _ _).alloc (Nat.le_refl _) _)) h1 (fun hx => by cases hx) (by unfold maxLen; omega) (by omega) (by simp) ?_; intro a' c' w1 hown hg hfr; have HO := hid hown; have HG := hid hg; have HF := hid hfr; clear hown hg hfr)
    go_ret
    have ho := HO.out
    have hg := HG.out
    rw [List.nil_append] at ho
    have hb : Below w.heap.size w w1 := ((Below.refl _ _).alloc (Nat.le_refl _) _).grown hg (by simp) (by intro q hq; cases hq; exact Nat.le_refl _)
    rw [Nat.zero_add] at ho
    exact ⟨⟨a', n, c'⟩, rfl, rfl, ho, hb⟩
theorem cloneL2_any (s : Sl) (xs : List Value) (w : World) (h : SlR w s 2 xs) (h1 : ∀ u ∈ xs, u.oneCell' = true) (hs1 : s.n ≤ 1099511627776) :
    Calls Tryd.prog 77 #[.slice s.a s.n s.c] w fun e w' => ∃ s' : Sl, e = .returned (.slice s'.a s'.n s'.c) ∧ s'.n = s.n ∧ w'.ownsRow w.heap.size 56 2 (.slice s'.a s'.n s'.c) s'.n xs ∧ Below w.heap.size w w' := by
  obtain ⟨i, hi, hz0, hz1, hz2⟩ := info_parts oInfoL
  obtain ⟨a, n, c⟩ := s
  have hr := h.rd; have hno := h.no; have hsm := h.sm
  simp only at hr hno hsm ⊢
  simp only at hs1
  cases a with
  | none =>
    obtain rfl := hno rfl
    obtain rfl : n = 0 := by
      rcases Nat.eq_zero_or_pos n with h' | h'
      · exact h'
      · obtain ⟨b, off, hb, _⟩ := hr.cell 0 (by omega); cases hb
    have hxs : xs = [] := List.eq_nil_of_length_eq_zero (by have := hr.len; simpa using this)
    clear hr hno hsm
    have he : ∀ w, (binOp .eql 30 (.slice none 0 0) (.slice none 0 0)).run Tryd.prog w = .ok (.bool true) w := fun w => Lib.run_eql_slice_nil (P := Tryd.prog) w 30 56 none 0 0 0 0 Tryd.underlying30
    go_enter Tryd.func77, Tryd.ntmps77
    go_wp2
    refine bodyPost_ret (v := .slice none 0 0) (by simp [results, go_sem]; try rfl) rfl ?_
    subst hxs
    exact ⟨⟨none, 0, 0⟩, rfl, rfl, ⟨rfl, .inl ⟨rfl, rfl⟩⟩, Below.refl _ _⟩
  | some x =>
    have HR := hid hr; clear hr
    have he : ∀ w, (binOp .eql 30 (.slice (some x) n c) (.slice none 0 0)).run Tryd.prog w = .ok (.bool false) w := fun w => Lib.run_eql_slice_nil (P := Tryd.prog) w 30 56 (some x) n c 0 0 Tryd.underlying30
    clear hno
    go_enter Tryd.func77, Tryd.ntmps77
    go_wp2_with (at_builtin; refine wpList_append_c rfl _ _ 30 rfl w.heap.size 56 i _ 2 24 Tryd.underlying30 hi hz0 hz1 hz2 rfl (by decide) _ 0 [] rfl (World.ownsRow_made w #[] 0 (Nat.le_refl _) (by unfold maxLen; omega) rfl) _ _ _ xs rfl (HR.out.below ((Below.refl _ _).alloc (Nat.le_refl _) _)) h1 (fun hx => by cases hx) (by unfold maxLen; omega) (by omega) (by simp) ?_; intro a' c' w1 hown hg hfr; have HO := hid hown; have HG := hid hg; have HF := hid hfr; clear hown hg hfr)
    go_ret
    have ho := HO.out
    have hg := HG.out
    rw [List.nil_append] at ho
    have hb : Below w.heap.size w w1 := ((Below.refl _ _).alloc (Nat.le_refl _) _).grown hg (by simp) (by intro q hq; cases hq; exact Nat.le_refl _)
    rw [Nat.zero_add] at ho
    exact ⟨⟨a', n, c'⟩, rfl, rfl, ho, hb⟩
theorem cloneC2_any (s : Sl) (xs : List Value) (w : World) (h : SlR w s 2 xs) (h1 : ∀ u ∈ xs, u.oneCell' = true) (hs1 : s.n ≤ 1099511627776) :
    Calls Tryd.prog 78 #[.slice s.a s.n s.c] w fun e w' => ∃ s' : Sl, e = .returned (.slice s'.a s'.n s'.c) ∧ s'.n = s.n ∧ w'.ownsRow w.heap.size 58 2 (.slice s'.a s'.n s'.c) s'.n xs ∧ Below w.heap.size w w' := by
  obtain ⟨i, hi, hz0, hz1, hz2⟩ := info_parts oInfoC
  obtain ⟨a, n, c⟩ := s
  have hr := h.rd; have hno := h.no; have hsm := h.sm
  simp only at hr hno hsm ⊢
  simp only at hs1
  cases a with
  | none =>
    obtain rfl := hno rfl
    obtain rfl : n = 0 := by
      rcases Nat.eq_zero_or_pos n with h' | h'
      · exact h'
      · obtain ⟨b, off, hb, _⟩ := hr.cell 0 (by omega); cases hb
    have hxs : xs = [] := List.eq_nil_of_length_eq_zero (by have := hr.len; simpa using this)
    clear hr hno hsm
    have he : ∀ w, (binOp .eql 31 (.slice none 0 0) (.slice none 0 0)).run Tryd.prog w = .ok (.bool true) w := fun w => Lib.run_eql_slice_nil (P := Tryd.prog) w 31 58 none 0 0 0 0 Tryd.underlying31
    go_enter Tryd.func78, Tryd.ntmps78
    go_wp2
    refine bodyPost_ret (v := .slice none 0 0) (by simp [results, go_sem]; try rfl) rfl ?_
    subst hxs
    exact ⟨⟨none, 0, 0⟩, rfl, rfl, ⟨rfl, .inl ⟨rfl, rfl⟩⟩, Below.refl _ _⟩
  | some x =>
    have HR := hid hr; clear hr
    have he : ∀ w, (binOp .eql 31 (.slice (some x) n c) (.slice none 0 0)).run Tryd.prog w = .ok (.bool false) w := fun w => Lib.run_eql_slice_nil (P := Tryd.prog) w 31 58 (some x) n c 0 0 Tryd.underlying31
    clear hno
    go_enter Tryd.func78, Tryd.ntmps78
    go_wp2_with (at_builtin; refine wpList_append_c rfl _ _ 31 rfl w.heap.size 58 i _ 2 32 Tryd.underlying31 hi hz0 hz1 hz2 rfl (by decide) _ 0 [] rfl (World.ownsRow_made w #[] 0 (Nat.le_refl _) (by unfold maxLen; omega) rfl) _ _ _ xs rfl (HR.out.below ((Below.refl _ _).alloc (Nat.le_refl _) _)) h1 (fun hx => by cases hx) (by unfold maxLen; omega) (by omega) (by simp) ?_; intro a' c' w1 hown hg hfr; have HO := hid hown; have HG := hid hg; have HF := hid hfr; clear hown hg hfr)
    go_ret
    have ho := HO.out
    have hg := HG.out
    rw [List.nil_append] at ho
    have hb : Below w.heap.size w w1 := ((Below.refl _ _).alloc (Nat.le_refl _) _).grown hg (by simp) (by intro q hq; cases hq; exact Nat.le_refl _)
    rw [Nat.zero_add] at ho
    exact ⟨⟨a', n, c'⟩, rfl, rfl, ho, hb⟩
/-- An object's rows, all of the call's own. -/
structure OwnO (w : World) (O : ObjD) (s : ObjV) (B : Nat) : Prop where
  mat : w.ownsRow B 5 1 s.mat.v s.mat.n (O.mat.map B8)
  names : w.ownsRow B 9 1 s.names.v s.names.n (O.names.map Value.string)
  links : w.ownsRow B 56 2 s.links.v s.links.n (linkCells O.links)
  custom : w.ownsRow B 58 2 s.custom.v s.custom.n (custCells O.custom)
theorem OwnO.keep {w w' : World} {O : ObjD} {s : ObjV} {B C p : Nat} (h : OwnO w O s B) (hc : Chg [p] w w') (hp : p < B) (hC : C ≤ B) : OwnO w' O s C := by
  have k : ∀ {T : TypeId} {size n : Nat} {v : Value} {xs : List Value}, w.ownsRow B T size v n xs → w'.ownsRow C T size v n xs := fun h =>
    ownsRow_base (hc.owns h (fun q hq hm => by have := (h.lt q hq).1; have := List.mem_singleton.1 hm; omega)) (fun q hq => by have := (h.lt q hq).1; omega)
  exact ⟨k h.mat, k h.names, k h.links, k h.custom⟩
def SlP2 (T : TypeId) (size : Nat) (xs : List Value) (B n : Nat) (v : Value) (w : World) : Prop := ∃ s : Sl, v = s.v ∧ s.n = n ∧ w.ownsRow B T size s.v s.n xs
theorem SlP2.chg {T : TypeId} {size : Nat} {xs : List Value} {B n b : Nat} {v : Value} {w w' : World} (h : SlP2 T size xs B n v w) (hb : b < B) (hc : Chg [b] w w') : SlP2 T size xs B n v w' :=
  let ⟨s, e, h0, h1⟩ := h
  ⟨s, e, h0, hc.owns h1 (fun q hq hm => by have := (h1.lt q hq).1; have := List.mem_singleton.1 hm; omega)⟩
def stSl2 (T : TypeId) (b size : Nat) (xs : List Value) (n : Nat) : St (Chg [b]) := ⟨SlP2 T size xs (b + 2) n, fun v w w' h hg => h.chg (by omega) hg⟩
def copyW2 (O : ObjD) (s : ObjV) (b : Nat) : List (Nat × Nat × (Value → World → Prop)) :=
  [(5, 13, SlP2 5 1 (O.mat.map B8) (b + 2) s.mat.n), (29, 15, SlP2 9 1 (O.names.map Value.string) (b + 2) s.names.n), (30, 17, SlP2 56 2 (linkCells O.links) (b + 2) s.links.n), (31, 19, SlP2 58 2 (custCells O.custom) (b + 2) s.custom.n)]
theorem copyW2_chg {O : ObjD} {s : ObjV} {b : Nat} {w w' : World} (hc : Chg [b] w w') : ∀ x ∈ copyW2 O s b, ∀ v, x.2.2 v w → x.2.2 v w' := by
  intro x hx v h
  simp only [copyW2, List.mem_cons, List.not_mem_nil, or_false] at hx
  rcases hx with rfl | rfl | rfl | rfl <;> exact SlP2.chg h (by omega) hc
/-- object.Copy -/
theorem copy2_any (O : ObjD) (s : ObjV) (w : World) (h : ObjM w O s) (hS : s.mat.n ≤ 1099511627776 ∧ s.names.n ≤ 1099511627776 ∧ s.links.n ≤ 1099511627776 ∧ s.custom.n ≤ 1099511627776) :
    Calls Tryd.prog 27 #[.agg (objCells O s)] w fun e w' => ∃ s' : ObjV, e = .returned (.agg (objCells O s')) ∧ OwnO w' O s' w.heap.size ∧ Below w.heap.size w w' := by
  have H := hid h; clear h
  go_enter Tryd.func27, Tryd.ntmps27
  go_upto_region 1 with (refine wpList_alloc_obj rfl 35 rfl _ oZeroO ?_)
  go_simp
  have hb1 : ((w.alloc (.cells (objCells O s) 35)).alloc (.cells (objCells zObj zObjV) 35)).heap[w.heap.size]? = some (.cells (objCells O s) 35 (0, 0)) := heap_alloc2_old _ _ _
  have hb2 : ((w.alloc (.cells (objCells O s) 35)).alloc (.cells (objCells zObj zObjV) 35)).heap[w.heap.size + 1]? = some (.cells (objCells zObj zObjV) 35 (0, 0)) := heap_alloc2_new _ _ _
  have hB : Below w.heap.size w ((w.alloc (.cells (objCells O s) 35)).alloc (.cells (objCells zObj zObjV) 35)) := ((Below.refl _ _).alloc (Nat.le_refl _) _).alloc (by simp) _
  have hO := H.out.below hB
  have hsz : ((w.alloc (.cells (objCells O s) 35)).alloc (.cells (objCells zObj zObjV) 35)).heap.size = w.heap.size + 2 := by simp
  have hlt := H.out.lt
  generalize (w.alloc (.cells (objCells O s) 35)).alloc (.cells (objCells zObj zObjV) 35) = W at *
  generalize hbe : w.heap.size = b at *
  have hfb : Disj s.foot [b] := fun k hk hm => by have := hlt k hk; have := List.mem_singleton.1 hm; omega
  have HB1 := hid hb1; have HB2 := hid hb2; have HB := hid hB; have HO := hid hO; have HSZ := hid hsz; have HFB := hid hfb; have HBE := hid hbe
  clear hb1 hb2 hB hO hsz H hlt hfb hbe
  refine wp_region_eachX (m := 20) (Chg [b]) [.eq (.pointer (some ⟨b, 5, none⟩)), .eq (.slice s.mat.a s.mat.n s.mat.c), stSl2 5 b 1 (O.mat.map B8) s.mat.n, .eq (.pointer (some ⟨b, 29, none⟩)), .eq (.slice s.names.a s.names.n s.names.c), stSl2 9 b 1 (O.names.map Value.string) s.names.n, .eq (.pointer (some ⟨b, 30, none⟩)), .eq (.slice s.links.a s.links.n s.links.c), stSl2 56 b 2 (linkCells O.links) s.links.n, .eq (.pointer (some ⟨b, 31, none⟩)), .eq (.slice s.custom.a s.custom.n s.custom.c), stSl2 58 b 2 (custCells O.custom) s.custom.n, .eq (.pointer (some ⟨b, 5, none⟩)), .eq (undef), .eq (.pointer (some ⟨b, 29, none⟩)), .eq (undef), .eq (.pointer (some ⟨b, 30, none⟩)), .eq (undef), .eq (.pointer (some ⟨b, 31, none⟩)), .eq (undef)] (Cells b 35 (objCells O s) (copyW2 O s b)) (by kernel_rfl) (by kernel_rfl) (by kernel_rfl) (by kernel_rfl) (Chg.trans1) (by exact (Chg.refl _ _).drew) (by exact Cells.startD HB1.out 20) ?_ ?_
  · as_aux_lemma =>
      refine each_5 ?_ ?_ ?_ ?_ ?_ (each_5 ?_ ?_ ?_ ?_ ?_ (each_5 ?_ ?_ ?_ ?_ ?_ (each_5 ?_ ?_ ?_ ?_ ?_ (each_n))))
      · intro w1 hg listed up hx Ar seen
        have s1 := seen.sl 1 (.pointer (some ⟨b, 0, none⟩))
        refine doesY_plain rfl fun K Q' hK => ?_
        go_simp; exact hK _ _ (Chg.refl _ _) (hx.same (by kernel_rfl)) rfl
      · intro w1 hg listed up hx Ar seen
        have e0 := seen.de 0 3
        refine doesY_plain rfl fun K Q' hK => ?_
        have hc := hx.yet 5 13 (oc5 O s) rfl (up.later 13 (by kernel_rfl))
        go_simp; exact hK _ _ (Chg.refl _ _) (hx.same (by kernel_rfl)) rfl
      · intro w1 hg listed up hx Ar seen
        obtain ⟨v1, e1, h1⟩ := seen.dp 1 4
        rcases h1 with rfl
        refine doesY_plain rfl fun K Q' hK => ?_
        go_simp
        refine (cloneB2_any s.mat _ _ (HO.out.keep hg HFB.out).mat (B8_one _)).mono ?_
        rintro e u ⟨s', rfl, h0, h1, h3⟩
        exact hK _ _ (Chg.of_below h3 _) (hx.pass (h3.block _ hx.lt) (copyW2_chg (Chg.of_below h3 _)) (by simp [copyW2])) ⟨s', rfl, h0, ownsRow_base h1 (fun k hk => by have := (h1.lt k hk).1; have := hg.size; have := HSZ.out; omega)⟩
      · intro w1 hg listed up hx Ar seen
        have s1 := seen.sl 1 (.pointer (some ⟨b, 0, none⟩))
        refine doesY_plain rfl fun K Q' hK => ?_
        go_simp; exact hK _ _ (Chg.refl _ _) (hx.same (by kernel_rfl)) rfl
      · intro w1 hg listed up hx Ar seen
        have e3 := seen.de 3 6
        refine doesY_plain rfl fun K Q' hK => ?_
        have hc := hx.yet 29 15 (oc29 O s) rfl (up.later 15 (by kernel_rfl))
        go_simp; exact hK _ _ (Chg.refl _ _) (hx.same (by kernel_rfl)) rfl
      · intro w1 hg listed up hx Ar seen
        have e4 := seen.de 4 7
        refine doesY_plain rfl fun K Q' hK => ?_
        go_simp
        refine (cloneS2_any s.names _ _ (HO.out.keep hg HFB.out).names (strs_one _) hS.2.1).mono ?_
        rintro e u ⟨s', rfl, h0, h1, h3⟩
        exact hK _ _ (Chg.of_below h3 _) (hx.pass (h3.block _ hx.lt) (copyW2_chg (Chg.of_below h3 _)) (by simp [copyW2])) ⟨s', rfl, h0, ownsRow_base h1 (fun k hk => by have := (h1.lt k hk).1; have := hg.size; have := HSZ.out; omega)⟩
      · intro w1 hg listed up hx Ar seen
        have s1 := seen.sl 1 (.pointer (some ⟨b, 0, none⟩))
        refine doesY_plain rfl fun K Q' hK => ?_
        go_simp; exact hK _ _ (Chg.refl _ _) (hx.same (by kernel_rfl)) rfl
      · intro w1 hg listed up hx Ar seen
        have e6 := seen.de 6 9
        refine doesY_plain rfl fun K Q' hK => ?_
        have hc := hx.yet 30 17 (oc30 O s) rfl (up.later 17 (by kernel_rfl))
        go_simp; exact hK _ _ (Chg.refl _ _) (hx.same (by kernel_rfl)) rfl
      · intro w1 hg listed up hx Ar seen
        have e7 := seen.de 7 10
        refine doesY_plain rfl fun K Q' hK => ?_
        go_simp
        refine (cloneL2_any s.links _ _ (HO.out.keep hg HFB.out).links (link_one _) hS.2.2.1).mono ?_
        rintro e u ⟨s', rfl, h0, h1, h3⟩
        exact hK _ _ (Chg.of_below h3 _) (hx.pass (h3.block _ hx.lt) (copyW2_chg (Chg.of_below h3 _)) (by simp [copyW2])) ⟨s', rfl, h0, ownsRow_base h1 (fun k hk => by have := (h1.lt k hk).1; have := hg.size; have := HSZ.out; omega)⟩
      · intro w1 hg listed up hx Ar seen
        have s1 := seen.sl 1 (.pointer (some ⟨b, 0, none⟩))
        refine doesY_plain rfl fun K Q' hK => ?_
        go_simp; exact hK _ _ (Chg.refl _ _) (hx.same (by kernel_rfl)) rfl
      · intro w1 hg listed up hx Ar seen
        have e9 := seen.de 9 12
        refine doesY_plain rfl fun K Q' hK => ?_
        have hc := hx.yet 31 19 (oc31 O s) rfl (up.later 19 (by kernel_rfl))
        go_simp; exact hK _ _ (Chg.refl _ _) (hx.same (by kernel_rfl)) rfl
      · intro w1 hg listed up hx Ar seen
        have e10 := seen.de 10 13
        refine doesY_plain rfl fun K Q' hK => ?_
        go_simp
        refine (cloneC2_any s.custom _ _ (HO.out.keep hg HFB.out).custom (cust_one _) hS.2.2.2).mono ?_
        rintro e u ⟨s', rfl, h0, h1, h3⟩
        exact hK _ _ (Chg.of_below h3 _) (hx.pass (h3.block _ hx.lt) (copyW2_chg (Chg.of_below h3 _)) (by simp [copyW2])) ⟨s', rfl, h0, ownsRow_base h1 (fun k hk => by have := (h1.lt k hk).1; have := hg.size; have := HSZ.out; omega)⟩
      · intro w1 hg listed up hx Ar seen
        have s1 := seen.sl 1 (.pointer (some ⟨b, 0, none⟩))
        refine doesY_plain rfl fun K Q' hK => ?_
        go_simp; exact hK _ _ (Chg.refl _ _) (hx.same (by kernel_rfl)) rfl
      · intro w1 hg listed up hx Ar seen
        obtain ⟨v2, e2, h2⟩ := seen.dp 2 5
        have e12 := seen.de 12 15
        obtain ⟨v0, e0, h0⟩ := seen.dp 0 3
        rcases h0 with rfl
        refine doesY_plain rfl fun K Q' hK => ?_
        obtain ⟨s', rfl, hs1, hs2⟩ := h2
        have HS1 := hid hs1; clear hs1
        obtain ⟨v0, hv0⟩ := hx.there 5 (show 5 < 37 by decide)
        have hf := hx.frozen
        go_simp
        exact hK undef _ ((Chg.refl [b] w1).setCell (.inl (by simp)) _) (hx.store 5 _ (show 5 < 37 by decide) (by rw [up.size]; decide) rfl (by simp [copyW2]) (copyW2_chg ((Chg.refl [b] w1).setCell (.inl (by simp)) _)) (SlP2.chg ⟨s', rfl, HS1.out, hs2⟩ (by omega) ((Chg.refl [b] w1).setCell (.inl (by simp)) _))) rfl
      · intro w1 hg listed up hx Ar seen
        have s1 := seen.sl 1 (.pointer (some ⟨b, 0, none⟩))
        refine doesY_plain rfl fun K Q' hK => ?_
        go_simp; exact hK _ _ (Chg.refl _ _) (hx.same (by kernel_rfl)) rfl
      · intro w1 hg listed up hx Ar seen
        obtain ⟨v5, e5, h5⟩ := seen.dp 5 8
        have e14 := seen.de 14 16
        obtain ⟨v0, e0, h0⟩ := seen.dp 0 3
        rcases h0 with rfl
        refine doesY_plain rfl fun K Q' hK => ?_
        obtain ⟨s', rfl, hs1, hs2⟩ := h5
        have HS1 := hid hs1; clear hs1
        obtain ⟨v0, hv0⟩ := hx.there 29 (show 29 < 37 by decide)
        have hf := hx.frozen
        go_simp
        exact hK undef _ ((Chg.refl [b] w1).setCell (.inl (by simp)) _) (hx.store 29 _ (show 29 < 37 by decide) (by rw [up.size]; decide) rfl (by simp [copyW2]) (copyW2_chg ((Chg.refl [b] w1).setCell (.inl (by simp)) _)) (SlP2.chg ⟨s', rfl, HS1.out, hs2⟩ (by omega) ((Chg.refl [b] w1).setCell (.inl (by simp)) _))) rfl
      · intro w1 hg listed up hx Ar seen
        have s1 := seen.sl 1 (.pointer (some ⟨b, 0, none⟩))
        refine doesY_plain rfl fun K Q' hK => ?_
        go_simp; exact hK _ _ (Chg.refl _ _) (hx.same (by kernel_rfl)) rfl
      · intro w1 hg listed up hx Ar seen
        obtain ⟨v8, e8, h8⟩ := seen.dp 8 11
        have e16 := seen.de 16 17
        obtain ⟨v0, e0, h0⟩ := seen.dp 0 3
        rcases h0 with rfl
        refine doesY_plain rfl fun K Q' hK => ?_
        obtain ⟨s', rfl, hs1, hs2⟩ := h8
        have HS1 := hid hs1; clear hs1
        obtain ⟨v0, hv0⟩ := hx.there 30 (show 30 < 37 by decide)
        have hf := hx.frozen
        go_simp
        exact hK undef _ ((Chg.refl [b] w1).setCell (.inl (by simp)) _) (hx.store 30 _ (show 30 < 37 by decide) (by rw [up.size]; decide) rfl (by simp [copyW2]) (copyW2_chg ((Chg.refl [b] w1).setCell (.inl (by simp)) _)) (SlP2.chg ⟨s', rfl, HS1.out, hs2⟩ (by omega) ((Chg.refl [b] w1).setCell (.inl (by simp)) _))) rfl
      · intro w1 hg listed up hx Ar seen
        have s1 := seen.sl 1 (.pointer (some ⟨b, 0, none⟩))
        refine doesY_plain rfl fun K Q' hK => ?_
        go_simp; exact hK _ _ (Chg.refl _ _) (hx.same (by kernel_rfl)) rfl
      · intro w1 hg listed up hx Ar seen
        obtain ⟨v11, e11, h11⟩ := seen.dp 11 14
        have e18 := seen.de 18 18
        obtain ⟨v0, e0, h0⟩ := seen.dp 0 3
        rcases h0 with rfl
        refine doesY_plain rfl fun K Q' hK => ?_
        obtain ⟨s', rfl, hs1, hs2⟩ := h11
        have HS1 := hid hs1; clear hs1
        obtain ⟨v0, hv0⟩ := hx.there 31 (show 31 < 37 by decide)
        have hf := hx.frozen
        go_simp
        exact hK undef _ ((Chg.refl [b] w1).setCell (.inl (by simp)) _) (hx.store 31 _ (show 31 < 37 by decide) (by rw [up.size]; decide) rfl (by simp [copyW2]) (copyW2_chg ((Chg.refl [b] w1).setCell (.inl (by simp)) _)) (SlP2.chg ⟨s', rfl, HS1.out, hs2⟩ (by omega) ((Chg.refl [b] w1).setCell (.inl (by simp)) _))) rfl
  intro w1 hg listed hl hx
  refine upon_w' (js := [0, 1, 2, 3, 4, 5, 6, 7, 8, 9, 10, 11, 12, 13, 14, 15, 16, 17, 18, 19]) (by rfl) ?_
  refine upon_e (some 3) (upon_e (some 4) (upon_v (some 5) fun v2 h2 => upon_e (some 6) (upon_e (some 7) (upon_v (some 8) fun v5 h5 => upon_e (some 9) (upon_e (some 10) (upon_v (some 11) fun v8 h8 => upon_e (some 12) (upon_e (some 13) (upon_v (some 14) fun v11 h11 => upon_e (some 15) (upon_e none (upon_e (some 16) (upon_e none (upon_e (some 17) (upon_e none (upon_e (some 18) (upon_e none (upon_n ?_))))))))))))))))
  go_simp
  clear h2 h5 h8 h11
  obtain ⟨C, hC, hCs, hCk⟩ := hx.done 20 hl (by simp [copyW2])
  obtain ⟨v5, q5, s5, rfl, n5, r5⟩ := hCk 5
  obtain ⟨v29, q29, s29, rfl, n29, r29⟩ := hCk 29
  obtain ⟨v30, q30, s30, rfl, n30, r30⟩ := hCk 30
  obtain ⟨v31, q31, s31, rfl, n31, r31⟩ := hCk 31
  have hsz37 : C.size = 37 := hCs
  have hCe : C = objCells O { mat := s5, names := s29, links := s30, custom := s31 } := by
    have e : C = ((((objCells O s).setIfInBounds 5 s5.v).setIfInBounds 29 s29.v).setIfInBounds 30 s30.v).setIfInBounds 31 s31.v := by
      refine Array.ext_getElem? fun k => ?_
      by_cases h5 : k = 5
      · subst h5; rw [q5]; rfl
      by_cases h29 : k = 29
      · subst h29; rw [q29]; rfl
      by_cases h30 : k = 30
      · subst h30; rw [q30]; rfl
      by_cases h31 : k = 31
      · subst h31; rw [q31]; rfl
      have hk := hCk k
      have hf : (copyW2 O s b).find? (fun x => x.1 == k) = none := by
        simp only [copyW2, List.find?_cons, List.find?_nil]
        rw [show ((5 : Nat) == k) = false by simp; omega, show ((29 : Nat) == k) = false by simp; omega, show ((30 : Nat) == k) = false by simp; omega, show ((31 : Nat) == k) = false by simp; omega]
      rw [hf] at hk
      rw [Array.getElem?_setIfInBounds_ne (Ne.symm h31), Array.getElem?_setIfInBounds_ne (Ne.symm h30), Array.getElem?_setIfInBounds_ne (Ne.symm h29), Array.getElem?_setIfInBounds_ne (Ne.symm h5)]
      exact hk
    rw [e, os5, os29, os30, os31]
  subst hCe
  have hB1 : Below b w w1 := HB.out.trans (hg.below (fun k hk => by rw [List.mem_singleton.1 hk]; exact Nat.le_refl _) (by have := HSZ.out; omega))
  have h2 : w1.heap[b + 1]? = some (.cells (objCells zObj zObjV) 35 (0, 0)) := (hg.block _ (block_lt HB2.out) (by simp)).trans HB2.out
  have HC := hid hC; have HBW := hid hB1; have H2 := hid h2
  have HM : Hid (OwnO w1 O { mat := s5, names := s29, links := s30, custom := s31 } (b + 2)) := ⟨r5, r29, r30, r31⟩
  clear hx hl hC hCs hCk q5 q29 q30 q31 n5 n29 n30 n31 r5 r29 r30 r31 hsz37 hB1 h2 hg HB1 HB2 HB HO HSZ HFB
  generalize ({ mat := s5, names := s29, links := s30, custom := s31 } : ObjV) = s2 at *
  go_wp2_with (first | (refine wpList_load_row rfl 35 _ rfl b rfl _ _ _ _ HC.out Tryd.underlying35 rfl (by rw [objCells_size]; exact oSizeO) ?_) | (refine wpList_store_obj rfl 35 _ _ rfl (b + 1) rfl _ rfl _ _ H2.out rfl (by rw [objCells_size]; exact oSizeO) (oc_one _ _) ?_; intro w3 hb3 hc3 hs3; have HB3 := hid hb3; have HC3 := hid hc3; clear hb3 hc3))
  refine bodyPost_ret (results_cell_row rfl _ _ (b + 1) _ _ _ _ rfl HB3.out Tryd.underlying35 rfl (by rw [objCells_size]; exact oSizeO)) rfl ?_
  refine ⟨s2, rfl, HM.out.keep HC3.out (by omega) (by rw [HBE.out]; omega), ?_⟩
  · rw [HBE.out]
    exact HBW.out.trans (HC3.out.below (fun k hk => by rw [List.mem_singleton.1 hk]; omega) (by have := block_lt HC.out; omega))
end Go.Proofs.YtdlkobmlnpijgaaDoor
