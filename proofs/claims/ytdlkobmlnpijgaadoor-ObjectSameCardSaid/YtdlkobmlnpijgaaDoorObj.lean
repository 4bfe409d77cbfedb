/- slices.Clone at four types; object.Copy. -/
import Derived.Test.YtdlkobmlnpijgaaDoorRows
import Derived.Test.YtdlkobmlnpijgaaDoorObjPlain
import Derived.Test.YtdlkobmlnpijgaaDoorAgg
import Derived.Test.YtdlkobmlnpijgaaDoorRegion
import Derived.WalkSpells
import Derived.Outline
namespace Go.Proofs.YtdlkobmlnpijgaaDoor
open Go.RowKit
set_option linter.unusedVariables false
set_option linter.unusedSimpArgs false
set_option maxRecDepth 100000
set_option maxHeartbeats 1600000

def linkCells (l : List (Int × ByteArray)) : List Value := l.flatMap fun x => [.int .i64 x.1, .string x.2]
def custCells (l : List (ByteArray × ByteArray)) : List Value := l.flatMap fun x => [.string x.1, .string x.2]
theorem link_one (l : List (Int × ByteArray)) : ∀ u ∈ linkCells l, u.oneCell' = true := by
  intro u hu
  obtain ⟨x, _, hx⟩ := List.mem_flatMap.1 hu
  simp at hx
  rcases hx with rfl | rfl <;> rfl
theorem cust_one (l : List (ByteArray × ByteArray)) : ∀ u ∈ custCells l, u.oneCell' = true := by
  intro u hu
  obtain ⟨x, _, hx⟩ := List.mem_flatMap.1 hu
  simp at hx
  rcases hx with rfl | rfl <;> rfl
theorem strs_one (l : List ByteArray) : ∀ u ∈ l.map Value.string, u.oneCell' = true := by
  intro u hu
  obtain ⟨x, _, rfl⟩ := List.mem_map.1 hu
  rfl

/-- What an object's slices read as. -/
structure ObjM (w : World) (O : ObjD) (s : ObjV) : Prop where
  mat : SlR w s.mat 1 (O.mat.map B8)
  names : SlR w s.names 1 (O.names.map Value.string)
  links : SlR w s.links 2 (linkCells O.links)
  custom : SlR w s.custom 2 (custCells O.custom)
  dl : O.dates.length = 10
theorem mem_foot {s : ObjV} {k : Nat} : k ∈ s.foot ↔ k ∈ s.mat.blk ∨ k ∈ s.names.blk ∨ k ∈ s.links.blk ∨ k ∈ s.custom.blk := by
  simp [ObjV.foot, or_assoc]
theorem ObjM.lt {w : World} {O : ObjD} {s : ObjV} (h : ObjM w O s) : ∀ k ∈ s.foot, k < w.heap.size := by
  intro k hk
  rcases mem_foot.1 hk with h' | h' | h' | h'
  · exact h.mat.lt k h'
  · exact h.names.lt k h'
  · exact h.links.lt k h'
  · exact h.custom.lt k h'
theorem ObjM.keep {w w' : World} {O : ObjD} {s : ObjV} {G : List Nat} (h : ObjM w O s) (hc : Chg G w w') (hd : Disj s.foot G) : ObjM w' O s :=
  ⟨h.mat.keep hc (fun k hk => hd k (mem_foot.2 (.inl hk))), h.names.keep hc (fun k hk => hd k (mem_foot.2 (.inr (.inl hk)))), h.links.keep hc (fun k hk => hd k (mem_foot.2 (.inr (.inr (.inl hk))))), h.custom.keep hc (fun k hk => hd k (mem_foot.2 (.inr (.inr (.inr hk))))), h.dl⟩
theorem ObjM.below {w w' : World} {O : ObjD} {s : ObjV} (h : ObjM w O s) (hb : Below w.heap.size w w') : ObjM w' O s :=
  h.keep (Chg.of_below hb []) (fun _ _ hm => by cases hm)
theorem ObjM.data {w : World} {O O' : ObjD} {s : ObjV} (h : ObjM w O s) (h1 : O'.mat = O.mat) (h2 : O'.names = O.names) (h3 : O'.links = O.links) (h4 : O'.custom = O.custom) (h5 : O'.dates.length = 10) : ObjM w O' s :=
  ⟨h1 ▸ h.mat, h2 ▸ h.names, h3 ▸ h.links, h4 ▸ h.custom, h5⟩


theorem oInfoS : (Tryd.prog.info? 9).map (fun i => (i.zero, i.size, i.bytes)) = some (some (.string ⟨#[]⟩), 1, 16) := by kernel_rfl
theorem cloneS_any (s : Sl) (xs : List Value) (w : World) (h : SlR w s 1 xs) (h1 : ∀ u ∈ xs, u.oneCell' = true) (hs1 : s.n ≤ 1099511627776) :
    Calls Tryd.prog 76 #[.slice s.a s.n s.c] w fun e w' => ∃ s' : Sl, e = .returned (.slice s'.a s'.n s'.c) ∧ s'.n = s.n ∧ SlR w' s' 1 xs ∧ (∀ k ∈ s'.blk, w.heap.size ≤ k) ∧ Below w.heap.size w w' := by
  obtain ⟨i, hi, hz0, hz1, hz2⟩ := info_parts oInfoS
  obtain ⟨a, n, c⟩ := s
  have hr := h.rd; have hno := h.no; have hsm := h.sm
  simp only at hr hno hsm ⊢
  simp only at hs1
  cases a with
  | none =>
    obtain rfl := hno rfl
    obtain rfl : n = 0 := by
      rcases Nat.eq_zero_or_pos n with h' | h'
      · exact h'
      · obtain ⟨b, off, hb, _⟩ := hr.cell 0 (by omega); cases hb
    clear hr hno hsm
    have he : ∀ w, (binOp .eql 29 (.slice none 0 0) (.slice none 0 0)).run Tryd.prog w = .ok (.bool true) w := fun w => Lib.run_eql_slice_nil (P := Tryd.prog) w 29 9 none 0 0 0 0 Tryd.underlying29
    go_enter Tryd.func76, Tryd.ntmps76
    go_wp2
    refine bodyPost_ret (v := .slice none 0 0) (by simp [results, go_sem]; try rfl) rfl ?_
    exact ⟨⟨none, 0, 0⟩, rfl, rfl, h, (fun k hk => by simp [Sl.blk] at hk), Below.refl _ _⟩
  | some x =>
    have HR := hid hr; clear hr
    have he : ∀ w, (binOp .eql 29 (.slice (some x) n c) (.slice none 0 0)).run Tryd.prog w = .ok (.bool false) w := fun w => Lib.run_eql_slice_nil (P := Tryd.prog) w 29 9 (some x) n c 0 0 Tryd.underlying29
    clear hno
    go_enter Tryd.func76, Tryd.ntmps76
    go_wp2_with (at_builtin; refine wpList_append_c rfl _ _ 29 rfl w.heap.size 9 i _ 1 16 Tryd.underlying29 hi hz0 hz1 hz2 rfl (by decide) _ 0 [] rfl (World.ownsRow_made w #[] 0 (Nat.le_refl _) (by unfold maxLen; omega) rfl) _ _ _ xs rfl (HR.out.below ((Below.refl _ _).alloc (Nat.le_refl _) _)) h1 (fun hx => by cases hx) (by unfold maxLen; omega) (by omega) (by simp) ?_; intro a' c' w1 hown hg hfr; have HO := hid hown; have HG := hid hg; have HF := hid hfr; clear hown hg hfr)
    go_ret
    have ho := HO.out
    have hg := HG.out
    rw [List.nil_append] at ho
    have hb : Below w.heap.size w w1 := ((Below.refl _ _).alloc (Nat.le_refl _) _).grown hg (by simp) (by intro q hq; cases hq; exact Nat.le_refl _)
    rw [Nat.zero_add] at ho
    refine ⟨⟨a', n, c'⟩, rfl, rfl, ⟨?_, (own_slice ho).2.1, hsm, ?_, own_nc (s := ⟨a', n, c'⟩) ho⟩, ?_, hb⟩
    · refine ⟨HR.out.len, fun j hj => ?_⟩
      simp only at hj
      rcases ho.2 with ⟨hv, h0⟩ | ⟨g, cap, cur, hv, hr'⟩
      · subst h0; omega
      · simp only [Value.slice.injEq] at hv
        obtain ⟨rfl, _, rfl⟩ := hv
        refine ⟨g, 0, rfl, fun k u hu => ?_⟩
        have hcell := ho.cells (g := g) rfl k u hu
        rwa [addr_add] at hcell
    · intro k hk
      rcases ho.2 with ⟨hv, h0⟩ | ⟨g, cap, cur, hv, hg', hh, _⟩
      · simp only [Value.slice.injEq] at hv; obtain ⟨rfl, _⟩ := hv; simp [Sl.blk] at hk
      · simp only [Value.slice.injEq] at hv
        obtain ⟨rfl, _, rfl⟩ := hv
        simp [Sl.blk] at hk; subst hk
        exact (Array.getElem?_eq_some_iff.1 hh).1
    · intro k hk
      rcases ho.2 with ⟨hv, h0⟩ | ⟨g, cap, cur, hv, hg', hh, _⟩
      · simp only [Value.slice.injEq] at hv; obtain ⟨rfl, _⟩ := hv; simp [Sl.blk] at hk
      · simp only [Value.slice.injEq] at hv
        obtain ⟨rfl, _, rfl⟩ := hv
        simp [Sl.blk] at hk; subst hk
        exact hg'

theorem oInfoL : (Tryd.prog.info? 56).map (fun i => (i.zero, i.size, i.bytes)) = some (some (.agg #[.int .i64 0, .string ⟨#[]⟩]), 2, 24) := by kernel_rfl
theorem cloneL_any (s : Sl) (xs : List Value) (w : World) (h : SlR w s 2 xs) (h1 : ∀ u ∈ xs, u.oneCell' = true) (hs1 : s.n ≤ 1099511627776) :
    Calls Tryd.prog 77 #[.slice s.a s.n s.c] w fun e w' => ∃ s' : Sl, e = .returned (.slice s'.a s'.n s'.c) ∧ s'.n = s.n ∧ SlR w' s' 2 xs ∧ (∀ k ∈ s'.blk, w.heap.size ≤ k) ∧ Below w.heap.size w w' := by
  obtain ⟨i, hi, hz0, hz1, hz2⟩ := info_parts oInfoL
  obtain ⟨a, n, c⟩ := s
  have hr := h.rd; have hno := h.no; have hsm := h.sm
  simp only at hr hno hsm ⊢
  simp only at hs1
  cases a with
  | none =>
    obtain rfl := hno rfl
    obtain rfl : n = 0 := by
      rcases Nat.eq_zero_or_pos n with h' | h'
      · exact h'
      · obtain ⟨b, off, hb, _⟩ := hr.cell 0 (by omega); cases hb
    clear hr hno hsm
    have he : ∀ w, (binOp .eql 30 (.slice none 0 0) (.slice none 0 0)).run Tryd.prog w = .ok (.bool true) w := fun w => Lib.run_eql_slice_nil (P := Tryd.prog) w 30 56 none 0 0 0 0 Tryd.underlying30
    go_enter Tryd.func77, Tryd.ntmps77
    go_wp2
    refine bodyPost_ret (v := .slice none 0 0) (by simp [results, go_sem]; try rfl) rfl ?_
    exact ⟨⟨none, 0, 0⟩, rfl, rfl, h, (fun k hk => by simp [Sl.blk] at hk), Below.refl _ _⟩
  | some x =>
    have HR := hid hr; clear hr
    have he : ∀ w, (binOp .eql 30 (.slice (some x) n c) (.slice none 0 0)).run Tryd.prog w = .ok (.bool false) w := fun w => Lib.run_eql_slice_nil (P := Tryd.prog) w 30 56 (some x) n c 0 0 Tryd.underlying30
    clear hno
    go_enter Tryd.func77, Tryd.ntmps77
    go_wp2_with (at_builtin; refine wpList_append_c rfl _ _ 30 rfl w.heap.size 56 i _ 2 24 Tryd.underlying30 hi hz0 hz1 hz2 rfl (by decide) _ 0 [] rfl (World.ownsRow_made w #[] 0 (Nat.le_refl _) (by unfold maxLen; omega) rfl) _ _ _ xs rfl (HR.out.below ((Below.refl _ _).alloc (Nat.le_refl _) _)) h1 (fun hx => by cases hx) (by unfold maxLen; omega) (by omega) (by simp) ?_; intro a' c' w1 hown hg hfr; have HO := hid hown; have HG := hid hg; have HF := hid hfr; clear hown hg hfr)
    go_ret
    have ho := HO.out
    have hg := HG.out
    rw [List.nil_append] at ho
    have hb : Below w.heap.size w w1 := ((Below.refl _ _).alloc (Nat.le_refl _) _).grown hg (by simp) (by intro q hq; cases hq; exact Nat.le_refl _)
    rw [Nat.zero_add] at ho
    refine ⟨⟨a', n, c'⟩, rfl, rfl, ⟨?_, (own_slice ho).2.1, hsm, ?_, own_nc (s := ⟨a', n, c'⟩) ho⟩, ?_, hb⟩
    · refine ⟨HR.out.len, fun j hj => ?_⟩
      simp only at hj
      rcases ho.2 with ⟨hv, h0⟩ | ⟨g, cap, cur, hv, hr'⟩
      · subst h0; omega
      · simp only [Value.slice.injEq] at hv
        obtain ⟨rfl, _, rfl⟩ := hv
        refine ⟨g, 0, rfl, fun k u hu => ?_⟩
        have hcell := ho.cells (g := g) rfl k u hu
        rwa [addr_add] at hcell
    · intro k hk
      rcases ho.2 with ⟨hv, h0⟩ | ⟨g, cap, cur, hv, hg', hh, _⟩
      · simp only [Value.slice.injEq] at hv; obtain ⟨rfl, _⟩ := hv; simp [Sl.blk] at hk
      · simp only [Value.slice.injEq] at hv
        obtain ⟨rfl, _, rfl⟩ := hv
        simp [Sl.blk] at hk; subst hk
        exact (Array.getElem?_eq_some_iff.1 hh).1
    · intro k hk
      rcases ho.2 with ⟨hv, h0⟩ | ⟨g, cap, cur, hv, hg', hh, _⟩
      · simp only [Value.slice.injEq] at hv; obtain ⟨rfl, _⟩ := hv; simp [Sl.blk] at hk
      · simp only [Value.slice.injEq] at hv
        obtain ⟨rfl, _, rfl⟩ := hv
        simp [Sl.blk] at hk; subst hk
        exact hg'

theorem oInfoC : (Tryd.prog.info? 58).map (fun i => (i.zero, i.size, i.bytes)) = some (some (.agg #[.string ⟨#[]⟩, .string ⟨#[]⟩]), 2, 32) := by kernel_rfl
theorem cloneC_any (s : Sl) (xs : List Value) (w : World) (h : SlR w s 2 xs) (h1 : ∀ u ∈ xs, u.oneCell' = true) (hs1 : s.n ≤ 1099511627776) :
    Calls Tryd.prog 78 #[.slice s.a s.n s.c] w fun e w' => ∃ s' : Sl, e = .returned (.slice s'.a s'.n s'.c) ∧ s'.n = s.n ∧ SlR w' s' 2 xs ∧ (∀ k ∈ s'.blk, w.heap.size ≤ k) ∧ Below w.heap.size w w' := by
  obtain ⟨i, hi, hz0, hz1, hz2⟩ := info_parts oInfoC
  obtain ⟨a, n, c⟩ := s
  have hr := h.rd; have hno := h.no; have hsm := h.sm
  simp only at hr hno hsm ⊢
  simp only at hs1
  cases a with
  | none =>
    obtain rfl := hno rfl
    obtain rfl : n = 0 := by
      rcases Nat.eq_zero_or_pos n with h' | h'
      · exact h'
      · obtain ⟨b, off, hb, _⟩ := hr.cell 0 (by omega); cases hb
    clear hr hno hsm
    have he : ∀ w, (binOp .eql 31 (.slice none 0 0) (.slice none 0 0)).run Tryd.prog w = .ok (.bool true) w := fun w => Lib.run_eql_slice_nil (P := Tryd.prog) w 31 58 none 0 0 0 0 Tryd.underlying31
    go_enter Tryd.func78, Tryd.ntmps78
    go_wp2
    refine bodyPost_ret (v := .slice none 0 0) (by simp [results, go_sem]; try rfl) rfl ?_
    exact ⟨⟨none, 0, 0⟩, rfl, rfl, h, (fun k hk => by simp [Sl.blk] at hk), Below.refl _ _⟩
  | some x =>
    have HR := hid hr; clear hr
    have he : ∀ w, (binOp .eql 31 (.slice (some x) n c) (.slice none 0 0)).run Tryd.prog w = .ok (.bool false) w := fun w => Lib.run_eql_slice_nil (P := Tryd.prog) w 31 58 (some x) n c 0 0 Tryd.underlying31
    clear hno
    go_enter Tryd.func78, Tryd.ntmps78
    go_wp2_with (at_builtin; refine wpList_append_c rfl _ _ 31 rfl w.heap.size 58 i _ 2 32 Tryd.underlying31 hi hz0 hz1 hz2 rfl (by decide) _ 0 [] rfl (World.ownsRow_made w #[] 0 (Nat.le_refl _) (by unfold maxLen; omega) rfl) _ _ _ xs rfl (HR.out.below ((Below.refl _ _).alloc (Nat.le_refl _) _)) h1 (fun hx => by cases hx) (by unfold maxLen; omega) (by omega) (by simp) ?_; intro a' c' w1 hown hg hfr; have HO := hid hown; have HG := hid hg; have HF := hid hfr; clear hown hg hfr)
    go_ret
    have ho := HO.out
    have hg := HG.out
    rw [List.nil_append] at ho
    have hb : Below w.heap.size w w1 := ((Below.refl _ _).alloc (Nat.le_refl _) _).grown hg (by simp) (by intro q hq; cases hq; exact Nat.le_refl _)
    rw [Nat.zero_add] at ho
    refine ⟨⟨a', n, c'⟩, rfl, rfl, ⟨?_, (own_slice ho).2.1, hsm, ?_, own_nc (s := ⟨a', n, c'⟩) ho⟩, ?_, hb⟩
    · refine ⟨HR.out.len, fun j hj => ?_⟩
      simp only at hj
      rcases ho.2 with ⟨hv, h0⟩ | ⟨g, cap, cur, hv, hr'⟩
      · subst h0; omega
      · simp only [Value.slice.injEq] at hv
        obtain ⟨rfl, _, rfl⟩ := hv
        refine ⟨g, 0, rfl, fun k u hu => ?_⟩
        have hcell := ho.cells (g := g) rfl k u hu
        rwa [addr_add] at hcell
    · intro k hk
      rcases ho.2 with ⟨hv, h0⟩ | ⟨g, cap, cur, hv, hg', hh, _⟩
      · simp only [Value.slice.injEq] at hv; obtain ⟨rfl, _⟩ := hv; simp [Sl.blk] at hk
      · simp only [Value.slice.injEq] at hv
        obtain ⟨rfl, _, rfl⟩ := hv
        simp [Sl.blk] at hk; subst hk
        exact (Array.getElem?_eq_some_iff.1 hh).1
    · intro k hk
      rcases ho.2 with ⟨hv, h0⟩ | ⟨g, cap, cur, hv, hg', hh, _⟩
      · simp only [Value.slice.injEq] at hv; obtain ⟨rfl, _⟩ := hv; simp [Sl.blk] at hk
      · simp only [Value.slice.injEq] at hv
        obtain ⟨rfl, _, rfl⟩ := hv
        simp [Sl.blk] at hk; subst hk
        exact hg'

theorem oSizeO : (Tryd.prog.info? 35).map (·.size) = some 37 := by kernel_rfl
theorem oZeroO : (Tryd.prog.info? 35).map (·.zero) = some (some (.agg (objCells zObj zObjV))) := by kernel_rfl
def SlP (size : Nat) (xs : List Value) (B n : Nat) (v : Value) (w : World) : Prop := ∃ s : Sl, v = s.v ∧ s.n = n ∧ SlR w s size xs ∧ ∀ k ∈ s.blk, B ≤ k
theorem SlP.chg {size : Nat} {xs : List Value} {B n b : Nat} {v : Value} {w w' : World} (h : SlP size xs B n v w) (hb : b < B) (hc : Chg [b] w w') : SlP size xs B n v w' :=
  let ⟨s, e, h0, h1, h2⟩ := h
  ⟨s, e, h0, h1.keep hc (fun k hk hm => by have := h2 k hk; have := List.mem_singleton.1 hm; omega), h2⟩
def stSl (b size : Nat) (xs : List Value) (n : Nat) : St (Chg [b]) := ⟨SlP size xs (b + 2) n, fun v w w' h hg => h.chg (by omega) hg⟩
def copyW (O : ObjD) (s : ObjV) (b : Nat) : List (Nat × Nat × (Value → World → Prop)) :=
  [(5, 13, SlP 1 (O.mat.map B8) (b + 2) s.mat.n), (29, 15, SlP 1 (O.names.map Value.string) (b + 2) s.names.n), (30, 17, SlP 2 (linkCells O.links) (b + 2) s.links.n), (31, 19, SlP 2 (custCells O.custom) (b + 2) s.custom.n)]
theorem copyW_chg {O : ObjD} {s : ObjV} {b : Nat} {w w' : World} (hc : Chg [b] w w') : ∀ x ∈ copyW O s b, ∀ v, x.2.2 v w → x.2.2 v w' := by
  intro x hx v h
  simp only [copyW, List.mem_cons, List.not_mem_nil, or_false] at hx
  rcases hx with rfl | rfl | rfl | rfl <;> exact SlP.chg h (by omega) hc
theorem Chg.trans1 {b : Nat} (x y z : World) (h : Chg [b] x y) (k : Chg [b] y z) : Chg [b] x z := h.trans k (fun k hk => .inl hk)
/-- object.Copy -/
theorem copy_any (O : ObjD) (s : ObjV) (w : World) (h : ObjM w O s) (hS : s.mat.n ≤ 1099511627776 ∧ s.names.n ≤ 1099511627776 ∧ s.links.n ≤ 1099511627776 ∧ s.custom.n ≤ 1099511627776) :
    Calls Tryd.prog 27 #[.agg (objCells O s)] w fun e w' => ∃ s' : ObjV, e = .returned (.agg (objCells O s')) ∧ ObjM w' O s' ∧ (∀ k ∈ s'.foot, w.heap.size ≤ k) ∧ Below w.heap.size w w' := by
  have H := hid h; clear h
  go_enter Tryd.func27, Tryd.ntmps27
  go_upto_region 1 with (refine wpList_alloc_obj rfl 35 rfl _ oZeroO ?_)
  go_simp
  have hb1 : ((w.alloc (.cells (objCells O s) 35)).alloc (.cells (objCells zObj zObjV) 35)).heap[w.heap.size]? = some (.cells (objCells O s) 35 (0, 0)) := heap_alloc2_old _ _ _
  have hb2 : ((w.alloc (.cells (objCells O s) 35)).alloc (.cells (objCells zObj zObjV) 35)).heap[w.heap.size + 1]? = some (.cells (objCells zObj zObjV) 35 (0, 0)) := heap_alloc2_new _ _ _
  have hB : Below w.heap.size w ((w.alloc (.cells (objCells O s) 35)).alloc (.cells (objCells zObj zObjV) 35)) := ((Below.refl _ _).alloc (Nat.le_refl _) _).alloc (by simp) _
  have hO := H.out.below hB
  have hsz : ((w.alloc (.cells (objCells O s) 35)).alloc (.cells (objCells zObj zObjV) 35)).heap.size = w.heap.size + 2 := by simp
  have hlt := H.out.lt
  generalize (w.alloc (.cells (objCells O s) 35)).alloc (.cells (objCells zObj zObjV) 35) = W at *
  generalize hbe : w.heap.size = b at *
  have hfb : Disj s.foot [b] := fun k hk hm => by have := hlt k hk; have := List.mem_singleton.1 hm; omega
  have HB1 := hid hb1; have HB2 := hid hb2; have HB := hid hB; have HO := hid hO; have HSZ := hid hsz; have HFB := hid hfb; have HBE := hid hbe
  clear hb1 hb2 hB hO hsz H hlt hfb hbe
  refine wp_region_eachX (m := 20) (Chg [b]) [.eq (.pointer (some ⟨b, 5, none⟩)), .eq (.slice s.mat.a s.mat.n s.mat.c), stSl b 1 (O.mat.map B8) s.mat.n, .eq (.pointer (some ⟨b, 29, none⟩)), .eq (.slice s.names.a s.names.n s.names.c), stSl b 1 (O.names.map Value.string) s.names.n, .eq (.pointer (some ⟨b, 30, none⟩)), .eq (.slice s.links.a s.links.n s.links.c), stSl b 2 (linkCells O.links) s.links.n, .eq (.pointer (some ⟨b, 31, none⟩)), .eq (.slice s.custom.a s.custom.n s.custom.c), stSl b 2 (custCells O.custom) s.custom.n, .eq (.pointer (some ⟨b, 5, none⟩)), .eq (undef), .eq (.pointer (some ⟨b, 29, none⟩)), .eq (undef), .eq (.pointer (some ⟨b, 30, none⟩)), .eq (undef), .eq (.pointer (some ⟨b, 31, none⟩)), .eq (undef)] (Cells b 35 (objCells O s) (copyW O s b)) (by kernel_rfl) (by kernel_rfl) (by kernel_rfl) (by kernel_rfl) (Chg.trans1) (by exact (Chg.refl _ _).drew) (by exact Cells.startD HB1.out 20) ?_ ?_
  · as_aux_lemma =>
      refine each_5 ?_ ?_ ?_ ?_ ?_ (each_5 ?_ ?_ ?_ ?_ ?_ (each_5 ?_ ?_ ?_ ?_ ?_ (each_5 ?_ ?_ ?_ ?_ ?_ (each_n))))
      · intro w1 hg listed up hx Ar seen
        have s1 := seen.sl 1 (.pointer (some ⟨b, 0, none⟩))
        refine doesY_plain rfl fun K Q' hK => ?_
        go_simp; exact hK _ _ (Chg.refl _ _) (hx.same (by kernel_rfl)) rfl
      · intro w1 hg listed up hx Ar seen
        have e0 := seen.de 0 3
        refine doesY_plain rfl fun K Q' hK => ?_
        have hc := hx.yet 5 13 (oc5 O s) rfl (up.later 13 (by kernel_rfl))
        go_simp; exact hK _ _ (Chg.refl _ _) (hx.same (by kernel_rfl)) rfl
      · intro w1 hg listed up hx Ar seen
        obtain ⟨v1, e1, h1⟩ := seen.dp 1 4
        rcases h1 with rfl
        refine doesY_plain rfl fun K Q' hK => ?_
        go_simp
        refine (cloneB_any s.mat _ _ (HO.out.keep hg HFB.out).mat (B8_one _)).mono ?_
        rintro e u ⟨s', rfl, h0, h1, h2, h3⟩
        exact hK _ _ (Chg.of_below h3 _) (hx.pass (h3.block _ hx.lt) (copyW_chg (Chg.of_below h3 _)) (by simp [copyW])) ⟨s', rfl, h0, h1, fun k hk => by have := h2 k hk; have := hg.size; have := HSZ.out; omega⟩
      · intro w1 hg listed up hx Ar seen
        have s1 := seen.sl 1 (.pointer (some ⟨b, 0, none⟩))
        refine doesY_plain rfl fun K Q' hK => ?_
        go_simp; exact hK _ _ (Chg.refl _ _) (hx.same (by kernel_rfl)) rfl
      · intro w1 hg listed up hx Ar seen
        have e3 := seen.de 3 6
        refine doesY_plain rfl fun K Q' hK => ?_
        have hc := hx.yet 29 15 (oc29 O s) rfl (up.later 15 (by kernel_rfl))
        go_simp; exact hK _ _ (Chg.refl _ _) (hx.same (by kernel_rfl)) rfl
      · intro w1 hg listed up hx Ar seen
        have e4 := seen.de 4 7
        obtain ⟨v2, e2, h2⟩ := seen.dp 2 5
        refine doesY_plain rfl fun K Q' hK => ?_
        go_simp
        refine (cloneS_any s.names _ _ (HO.out.keep hg HFB.out).names (strs_one _) hS.2.1).mono ?_
        rintro e u ⟨s', rfl, h0, h1, h2, h3⟩
        exact hK _ _ (Chg.of_below h3 _) (hx.pass (h3.block _ hx.lt) (copyW_chg (Chg.of_below h3 _)) (by simp [copyW])) ⟨s', rfl, h0, h1, fun k hk => by have := h2 k hk; have := hg.size; have := HSZ.out; omega⟩
      · intro w1 hg listed up hx Ar seen
        have s1 := seen.sl 1 (.pointer (some ⟨b, 0, none⟩))
        refine doesY_plain rfl fun K Q' hK => ?_
        go_simp; exact hK _ _ (Chg.refl _ _) (hx.same (by kernel_rfl)) rfl
      · intro w1 hg listed up hx Ar seen
        have e6 := seen.de 6 9
        refine doesY_plain rfl fun K Q' hK => ?_
        have hc := hx.yet 30 17 (oc30 O s) rfl (up.later 17 (by kernel_rfl))
        go_simp; exact hK _ _ (Chg.refl _ _) (hx.same (by kernel_rfl)) rfl
      · intro w1 hg listed up hx Ar seen
        have e7 := seen.de 7 10
        refine doesY_plain rfl fun K Q' hK => ?_
        go_simp
        refine (cloneL_any s.links _ _ (HO.out.keep hg HFB.out).links (link_one _) hS.2.2.1).mono ?_
        rintro e u ⟨s', rfl, h0, h1, h2, h3⟩
        exact hK _ _ (Chg.of_below h3 _) (hx.pass (h3.block _ hx.lt) (copyW_chg (Chg.of_below h3 _)) (by simp [copyW])) ⟨s', rfl, h0, h1, fun k hk => by have := h2 k hk; have := hg.size; have := HSZ.out; omega⟩
      · intro w1 hg listed up hx Ar seen
        have s1 := seen.sl 1 (.pointer (some ⟨b, 0, none⟩))
        refine doesY_plain rfl fun K Q' hK => ?_
        go_simp; exact hK _ _ (Chg.refl _ _) (hx.same (by kernel_rfl)) rfl
      · intro w1 hg listed up hx Ar seen
        have e9 := seen.de 9 12
        refine doesY_plain rfl fun K Q' hK => ?_
        have hc := hx.yet 31 19 (oc31 O s) rfl (up.later 19 (by kernel_rfl))
        go_simp; exact hK _ _ (Chg.refl _ _) (hx.same (by kernel_rfl)) rfl
      · intro w1 hg listed up hx Ar seen
        have e10 := seen.de 10 13
        refine doesY_plain rfl fun K Q' hK => ?_
        go_simp
        refine (cloneC_any s.custom _ _ (HO.out.keep hg HFB.out).custom (cust_one _) hS.2.2.2).mono ?_
        rintro e u ⟨s', rfl, h0, h1, h2, h3⟩
        exact hK _ _ (Chg.of_below h3 _) (hx.pass (h3.block _ hx.lt) (copyW_chg (Chg.of_below h3 _)) (by simp [copyW])) ⟨s', rfl, h0, h1, fun k hk => by have := h2 k hk; have := hg.size; have := HSZ.out; omega⟩
      · intro w1 hg listed up hx Ar seen
        have s1 := seen.sl 1 (.pointer (some ⟨b, 0, none⟩))
        refine doesY_plain rfl fun K Q' hK => ?_
        go_simp; exact hK _ _ (Chg.refl _ _) (hx.same (by kernel_rfl)) rfl
      · intro w1 hg listed up hx Ar seen
        obtain ⟨v2, e2, h2⟩ := seen.dp 2 5
        have e12 := seen.de 12 15
        obtain ⟨v0, e0, h0⟩ := seen.dp 0 3
        rcases h0 with rfl
        refine doesY_plain rfl fun K Q' hK => ?_
        obtain ⟨s', rfl, hs1, hs2, hs3⟩ := h2
        have HS1 := hid hs1; clear hs1
        obtain ⟨v0, hv0⟩ := hx.there 5 (show 5 < 37 by decide)
        have hf := hx.frozen
        go_simp
        exact hK undef _ ((Chg.refl [b] w1).setCell (.inl (by simp)) _) (hx.store 5 _ (show 5 < 37 by decide) (by rw [up.size]; decide) rfl (by simp [copyW]) (copyW_chg ((Chg.refl [b] w1).setCell (.inl (by simp)) _)) (SlP.chg ⟨s', rfl, HS1.out, hs2, hs3⟩ (by omega) ((Chg.refl [b] w1).setCell (.inl (by simp)) _))) rfl
      · intro w1 hg listed up hx Ar seen
        have s1 := seen.sl 1 (.pointer (some ⟨b, 0, none⟩))
        refine doesY_plain rfl fun K Q' hK => ?_
        go_simp; exact hK _ _ (Chg.refl _ _) (hx.same (by kernel_rfl)) rfl
      · intro w1 hg listed up hx Ar seen
        obtain ⟨v5, e5, h5⟩ := seen.dp 5 8
        have e14 := seen.de 14 16
        obtain ⟨v0, e0, h0⟩ := seen.dp 0 3
        rcases h0 with rfl
        refine doesY_plain rfl fun K Q' hK => ?_
        obtain ⟨s', rfl, hs1, hs2, hs3⟩ := h5
        have HS1 := hid hs1; clear hs1
        obtain ⟨v0, hv0⟩ := hx.there 29 (show 29 < 37 by decide)
        have hf := hx.frozen
        go_simp
        exact hK undef _ ((Chg.refl [b] w1).setCell (.inl (by simp)) _) (hx.store 29 _ (show 29 < 37 by decide) (by rw [up.size]; decide) rfl (by simp [copyW]) (copyW_chg ((Chg.refl [b] w1).setCell (.inl (by simp)) _)) (SlP.chg ⟨s', rfl, HS1.out, hs2, hs3⟩ (by omega) ((Chg.refl [b] w1).setCell (.inl (by simp)) _))) rfl
      · intro w1 hg listed up hx Ar seen
        have s1 := seen.sl 1 (.pointer (some ⟨b, 0, none⟩))
        refine doesY_plain rfl fun K Q' hK => ?_
        go_simp; exact hK _ _ (Chg.refl _ _) (hx.same (by kernel_rfl)) rfl
      · intro w1 hg listed up hx Ar seen
        obtain ⟨v8, e8, h8⟩ := seen.dp 8 11
        have e16 := seen.de 16 17
        obtain ⟨v0, e0, h0⟩ := seen.dp 0 3
        rcases h0 with rfl
        refine doesY_plain rfl fun K Q' hK => ?_
        obtain ⟨s', rfl, hs1, hs2, hs3⟩ := h8
        have HS1 := hid hs1; clear hs1
        obtain ⟨v0, hv0⟩ := hx.there 30 (show 30 < 37 by decide)
        have hf := hx.frozen
        go_simp
        exact hK undef _ ((Chg.refl [b] w1).setCell (.inl (by simp)) _) (hx.store 30 _ (show 30 < 37 by decide) (by rw [up.size]; decide) rfl (by simp [copyW]) (copyW_chg ((Chg.refl [b] w1).setCell (.inl (by simp)) _)) (SlP.chg ⟨s', rfl, HS1.out, hs2, hs3⟩ (by omega) ((Chg.refl [b] w1).setCell (.inl (by simp)) _))) rfl
      · intro w1 hg listed up hx Ar seen
        have s1 := seen.sl 1 (.pointer (some ⟨b, 0, none⟩))
        refine doesY_plain rfl fun K Q' hK => ?_
        go_simp; exact hK _ _ (Chg.refl _ _) (hx.same (by kernel_rfl)) rfl
      · intro w1 hg listed up hx Ar seen
        obtain ⟨v11, e11, h11⟩ := seen.dp 11 14
        have e18 := seen.de 18 18
        obtain ⟨v0, e0, h0⟩ := seen.dp 0 3
        rcases h0 with rfl
        refine doesY_plain rfl fun K Q' hK => ?_
        obtain ⟨s', rfl, hs1, hs2, hs3⟩ := h11
        have HS1 := hid hs1; clear hs1
        obtain ⟨v0, hv0⟩ := hx.there 31 (show 31 < 37 by decide)
        have hf := hx.frozen
        go_simp
        exact hK undef _ ((Chg.refl [b] w1).setCell (.inl (by simp)) _) (hx.store 31 _ (show 31 < 37 by decide) (by rw [up.size]; decide) rfl (by simp [copyW]) (copyW_chg ((Chg.refl [b] w1).setCell (.inl (by simp)) _)) (SlP.chg ⟨s', rfl, HS1.out, hs2, hs3⟩ (by omega) ((Chg.refl [b] w1).setCell (.inl (by simp)) _))) rfl
  intro w1 hg listed hl hx
  refine upon_w' (js := [0, 1, 2, 3, 4, 5, 6, 7, 8, 9, 10, 11, 12, 13, 14, 15, 16, 17, 18, 19]) (by rfl) ?_
  refine upon_e (some 3) (upon_e (some 4) (upon_v (some 5) fun v2 h2 => upon_e (some 6) (upon_e (some 7) (upon_v (some 8) fun v5 h5 => upon_e (some 9) (upon_e (some 10) (upon_v (some 11) fun v8 h8 => upon_e (some 12) (upon_e (some 13) (upon_v (some 14) fun v11 h11 => upon_e (some 15) (upon_e none (upon_e (some 16) (upon_e none (upon_e (some 17) (upon_e none (upon_e (some 18) (upon_e none (upon_n ?_))))))))))))))))
  go_simp
  clear h2 h5 h8 h11
  obtain ⟨C, hC, hCs, hCk⟩ := hx.done 20 hl (by simp [copyW])
  obtain ⟨v5, q5, s5, rfl, n5, r5, k5⟩ := hCk 5
  obtain ⟨v29, q29, s29, rfl, n29, r29, k29⟩ := hCk 29
  obtain ⟨v30, q30, s30, rfl, n30, r30, k30⟩ := hCk 30
  obtain ⟨v31, q31, s31, rfl, n31, r31, k31⟩ := hCk 31
  have hsz37 : C.size = 37 := hCs
  have hCe : C = objCells O { mat := s5, names := s29, links := s30, custom := s31 } := by
    have e : C = ((((objCells O s).setIfInBounds 5 s5.v).setIfInBounds 29 s29.v).setIfInBounds 30 s30.v).setIfInBounds 31 s31.v := by
      refine Array.ext_getElem? fun k => ?_
      by_cases h5 : k = 5
      · subst h5; rw [q5]; rfl
      by_cases h29 : k = 29
      · subst h29; rw [q29]; rfl
      by_cases h30 : k = 30
      · subst h30; rw [q30]; rfl
      by_cases h31 : k = 31
      · subst h31; rw [q31]; rfl
      have hk := hCk k
      have hf : (copyW O s b).find? (fun x => x.1 == k) = none := by
        simp only [copyW, List.find?_cons, List.find?_nil]
        rw [show ((5 : Nat) == k) = false by simp; omega, show ((29 : Nat) == k) = false by simp; omega, show ((30 : Nat) == k) = false by simp; omega, show ((31 : Nat) == k) = false by simp; omega]
      rw [hf] at hk
      rw [Array.getElem?_setIfInBounds_ne (Ne.symm h31), Array.getElem?_setIfInBounds_ne (Ne.symm h30), Array.getElem?_setIfInBounds_ne (Ne.symm h29), Array.getElem?_setIfInBounds_ne (Ne.symm h5)]
      exact hk
    rw [e, os5, os29, os30, os31]
  subst hCe
  have hB1 : Below b w w1 := HB.out.trans (hg.below (fun k hk => by rw [List.mem_singleton.1 hk]; exact Nat.le_refl _) (by have := HSZ.out; omega))
  have h2 : w1.heap[b + 1]? = some (.cells (objCells zObj zObjV) 35 (0, 0)) := (hg.block _ (block_lt HB2.out) (by simp)).trans HB2.out
  have HC := hid hC; have HBW := hid hB1; have H2 := hid h2
  have HM : Hid (ObjM w1 O { mat := s5, names := s29, links := s30, custom := s31 }) := ⟨r5, r29, r30, r31, HO.out.dl⟩
  have HK : Hid (∀ k ∈ ({ mat := s5, names := s29, links := s30, custom := s31 } : ObjV).foot, b + 2 ≤ k) := by
    intro k hk
    rcases mem_foot.1 hk with h' | h' | h' | h'
    · exact k5 k h'
    · exact k29 k h'
    · exact k30 k h'
    · exact k31 k h'
  clear hx hl hC hCs hCk q5 q29 q30 q31 n5 n29 n30 n31 r5 r29 r30 r31 k5 k29 k30 k31 hsz37 hB1 h2 hg HB1 HB2 HB HO HSZ HFB
  generalize ({ mat := s5, names := s29, links := s30, custom := s31 } : ObjV) = s2 at *
  go_wp2_with (first | (refine wpList_load_row rfl 35 _ rfl b rfl _ _ _ _ HC.out Tryd.underlying35 rfl (by rw [objCells_size]; exact oSizeO) ?_) | (refine wpList_store_obj rfl 35 _ _ rfl (b + 1) rfl _ rfl _ _ H2.out rfl (by rw [objCells_size]; exact oSizeO) (oc_one _ _) ?_; intro w3 hb3 hc3 hs3; have HB3 := hid hb3; have HC3 := hid hc3; clear hb3 hc3))
  refine bodyPost_ret (results_cell_row rfl _ _ (b + 1) _ _ _ _ rfl HB3.out Tryd.underlying35 rfl (by rw [objCells_size]; exact oSizeO)) rfl ?_
  refine ⟨s2, rfl, HM.out.keep HC3.out (fun k hk hm => by have := HK.out k hk; have := List.mem_singleton.1 hm; omega), fun k hk => ?_, ?_⟩
  · have := HK.out k hk
    rw [HBE.out]; omega
  · rw [HBE.out]
    exact HBW.out.trans (HC3.out.below (fun k hk => by rw [List.mem_singleton.1 hk]; omega) (by have := block_lt HC.out; omega))
end Go.Proofs.YtdlkobmlnpijgaaDoor
