/- ObjectSame: the walk. -/
import Derived.Test.YtdlkobmlnpijgaaDoorRefSame
import Derived.Test.YtdlkobmlnpijgaaDoorObjCopy
import Derived.Test.YtdlkobmlnpijgaaDoorKnown10
import Derived.Test.YtdlkobmlnpijgaaDoorRaw10
import Derived.Test.YtdlkobmlnpijgaaDoorObjBent
import Derived.Test.YtdlkobmlnpijgaaDoorSame2
namespace Go.Proofs.YtdlkobmlnpijgaaDoor
open Go.RowKit
set_option linter.unusedVariables false
set_option linter.unusedSimpArgs false
set_option maxRecDepth 1000000
set_option maxHeartbeats 6400000
/-- The object, its copy whose parts are altered, the object once more. -/
structure CutSt (w : World) (p1 p3 p4 B : Nat) (O : ObjD) (s1 s3 s4 : ObjV) (wr : World) : Prop where
  b1 : wr.heap[p1]? = some (.cells (objCells O s1) 35 (0, 0))
  b3 : wr.heap[p3]? = some (.cells (objCells O s3) 35 (0, 0))
  b4 : wr.heap[p4]? = some (.cells (objCells O s4) 35 (0, 0))
  m1 : ObjM wr O s1
  m4 : ObjM wr O s4
  mat : ∃ l : List UInt8, wr.ownsRow B 5 1 s3.mat.v s3.mat.n (l.map B8)
  names : ∃ xs : List Value, wr.ownsRow B 9 1 s3.names.v s3.names.n xs
  links : ∃ xs : List Value, wr.ownsRow B 56 2 s3.links.v s3.links.n xs
  custom : ∃ xs : List Value, wr.ownsRow B 58 2 s3.custom.v s3.custom.n xs
  bel : Below w.heap.size w wr
  lo : w.heap.size ≤ B ∧ p1 < B ∧ ∀ k ∈ s1.foot, k < B
  hi : ∀ k, (s3.mat.v.ownBlock = some k ∨ s3.names.v.ownBlock = some k ∨ s3.links.v.ownBlock = some k ∨ s3.custom.v.ownBlock = some k) → k < p3
  sm : s3.mat.n ≤ 140737488355328 ∧ s3.names.n ≤ 140737488355328 ∧ s3.links.n ≤ 140737488355328 ∧ s3.custom.n ≤ 140737488355328
  up : p3 < p4
  up4 : ∀ k ∈ s4.foot, p3 < k
section
variable {w wr w' : World} {p1 p3 p4 B : Nat} {O : ObjD} {s1 s3 s4 : ObjV}
theorem CutSt.chg (h : CutSt w p1 p3 p4 B O s1 s3 s4 wr) {q : Nat} (hq : B ≤ q ∧ q < p3) (hc : Chg [q] wr w')
    (h1 : ∃ l : List UInt8, w'.ownsRow B 5 1 s3.mat.v s3.mat.n (l.map B8)) (h2 : ∃ xs : List Value, w'.ownsRow B 9 1 s3.names.v s3.names.n xs) (h3 : ∃ xs : List Value, w'.ownsRow B 56 2 s3.links.v s3.links.n xs) (h4 : ∃ xs : List Value, w'.ownsRow B 58 2 s3.custom.v s3.custom.n xs) : CutSt w p1 p3 p4 B O s1 s3 s4 w' :=
  have l := h.lo
  ⟨(hc.block _ (block_lt h.b1) (by simp; omega)).trans h.b1, (hc.block _ (block_lt h.b3) (by simp; omega)).trans h.b3, (hc.block _ (block_lt h.b4) (by have := h.up; simp; omega)).trans h.b4,
    h.m1.keep hc (fun k hk hm => by have := l.2.2 k hk; have := List.mem_singleton.1 hm; omega), h.m4.keep hc (fun k hk hm => by have := h.up4 k hk; have := List.mem_singleton.1 hm; omega),
    h1, h2, h3, h4, h.bel.trans (hc.below (fun k hk => by have := List.mem_singleton.1 hk; omega) h.bel.size), l, h.hi, h.sm, h.up, h.up4⟩
theorem CutSt.small (h : CutSt w p1 p3 p4 B O s1 s3 s4 wr) : s3.mat.n ≤ 140737488355328 ∧ s3.names.n ≤ 140737488355328 ∧ s3.links.n ≤ 140737488355328 ∧ s3.custom.n ≤ 140737488355328 := h.sm
theorem CutSt.sMat (h : CutSt w p1 p3 p4 B O s1 s3 s4 wr) {g : Nat} (hg : s3.mat.a = some ⟨g, 0, none⟩) (k : Nat) (c : UInt8) : CutSt w p1 p3 p4 B O s1 s3 s4 (wr.setCell ⟨g, k, none⟩ (B8 c)) := by
  have hob : s3.mat.v.ownBlock = some g := by unfold Sl.v; rw [hg]; rfl
  have hc : Chg [g] wr (wr.setCell ⟨g, k, none⟩ (B8 c)) := (Chg.refl [g] wr).setCell (.inl (by simp)) _
  obtain ⟨xs, ho⟩ := h.mat
  have hlt := ho.lt g hob
  have hne : ∀ {T' : TypeId} {size n : Nat} {v : Value} {ys : List Value}, wr.ownsRow B T' size v n ys → 5 ≠ T' → ∀ q, v.ownBlock = some q → q ∉ [g] := fun h' hT q hq hm => by
    have e := List.mem_singleton.1 hm
    subst e
    exact typ_ne ho h' hT hob hq
  refine h.chg ⟨hlt.1, h.hi g (.inl hob)⟩ hc ?_ ?_ ?_ ?_
  · unfold Sl.v at ho ⊢
    rw [hg] at ho ⊢
    exact ⟨_, ownB_set ho k c⟩
  · obtain ⟨ys, h'⟩ := h.names
    exact ⟨ys, hc.owns h' (hne h' (by decide))⟩
  · obtain ⟨ys, h'⟩ := h.links
    exact ⟨ys, hc.owns h' (hne h' (by decide))⟩
  · obtain ⟨ys, h'⟩ := h.custom
    exact ⟨ys, hc.owns h' (hne h' (by decide))⟩
theorem CutSt.sNames (h : CutSt w p1 p3 p4 B O s1 s3 s4 wr) {g : Nat} (hg : s3.names.a = some ⟨g, 0, none⟩) (k : Nat) (u : Value) : CutSt w p1 p3 p4 B O s1 s3 s4 (wr.setCell ⟨g, k, none⟩ u) := by
  have hob : s3.names.v.ownBlock = some g := by unfold Sl.v; rw [hg]; rfl
  have hc : Chg [g] wr (wr.setCell ⟨g, k, none⟩ u) := (Chg.refl [g] wr).setCell (.inl (by simp)) _
  obtain ⟨xs, ho⟩ := h.names
  have hlt := ho.lt g hob
  have hne : ∀ {T' : TypeId} {size n : Nat} {v : Value} {ys : List Value}, wr.ownsRow B T' size v n ys → 9 ≠ T' → ∀ q, v.ownBlock = some q → q ∉ [g] := fun h' hT q hq hm => by
    have e := List.mem_singleton.1 hm
    subst e
    exact typ_ne ho h' hT hob hq
  refine h.chg ⟨hlt.1, h.hi g (.inr (.inl hob))⟩ hc ?_ ?_ ?_ ?_
  · obtain ⟨ys, h'⟩ := h.mat
    exact ⟨ys, hc.owns h' (hne h' (by decide))⟩
  · unfold Sl.v at ho ⊢
    rw [hg] at ho ⊢
    exact ⟨_, (ho.stored k u).1⟩
  · obtain ⟨ys, h'⟩ := h.links
    exact ⟨ys, hc.owns h' (hne h' (by decide))⟩
  · obtain ⟨ys, h'⟩ := h.custom
    exact ⟨ys, hc.owns h' (hne h' (by decide))⟩
theorem CutSt.sLinks (h : CutSt w p1 p3 p4 B O s1 s3 s4 wr) {g : Nat} (hg : s3.links.a = some ⟨g, 0, none⟩) (k : Nat) (u : Value) : CutSt w p1 p3 p4 B O s1 s3 s4 (wr.setCell ⟨g, k, none⟩ u) := by
  have hob : s3.links.v.ownBlock = some g := by unfold Sl.v; rw [hg]; rfl
  have hc : Chg [g] wr (wr.setCell ⟨g, k, none⟩ u) := (Chg.refl [g] wr).setCell (.inl (by simp)) _
  obtain ⟨xs, ho⟩ := h.links
  have hlt := ho.lt g hob
  have hne : ∀ {T' : TypeId} {size n : Nat} {v : Value} {ys : List Value}, wr.ownsRow B T' size v n ys → 56 ≠ T' → ∀ q, v.ownBlock = some q → q ∉ [g] := fun h' hT q hq hm => by
    have e := List.mem_singleton.1 hm
    subst e
    exact typ_ne ho h' hT hob hq
  refine h.chg ⟨hlt.1, h.hi g (.inr (.inr (.inl hob)))⟩ hc ?_ ?_ ?_ ?_
  · obtain ⟨ys, h'⟩ := h.mat
    exact ⟨ys, hc.owns h' (hne h' (by decide))⟩
  · obtain ⟨ys, h'⟩ := h.names
    exact ⟨ys, hc.owns h' (hne h' (by decide))⟩
  · unfold Sl.v at ho ⊢
    rw [hg] at ho ⊢
    exact ⟨_, (ho.stored k u).1⟩
  · obtain ⟨ys, h'⟩ := h.custom
    exact ⟨ys, hc.owns h' (hne h' (by decide))⟩
theorem CutSt.sCustom (h : CutSt w p1 p3 p4 B O s1 s3 s4 wr) {g : Nat} (hg : s3.custom.a = some ⟨g, 0, none⟩) (k : Nat) (u : Value) : CutSt w p1 p3 p4 B O s1 s3 s4 (wr.setCell ⟨g, k, none⟩ u) := by
  have hob : s3.custom.v.ownBlock = some g := by unfold Sl.v; rw [hg]; rfl
  have hc : Chg [g] wr (wr.setCell ⟨g, k, none⟩ u) := (Chg.refl [g] wr).setCell (.inl (by simp)) _
  obtain ⟨xs, ho⟩ := h.custom
  have hlt := ho.lt g hob
  have hne : ∀ {T' : TypeId} {size n : Nat} {v : Value} {ys : List Value}, wr.ownsRow B T' size v n ys → 58 ≠ T' → ∀ q, v.ownBlock = some q → q ∉ [g] := fun h' hT q hq hm => by
    have e := List.mem_singleton.1 hm
    subst e
    exact typ_ne ho h' hT hob hq
  refine h.chg ⟨hlt.1, h.hi g (.inr (.inr (.inr hob)))⟩ hc ?_ ?_ ?_ ?_
  · obtain ⟨ys, h'⟩ := h.mat
    exact ⟨ys, hc.owns h' (hne h' (by decide))⟩
  · obtain ⟨ys, h'⟩ := h.names
    exact ⟨ys, hc.owns h' (hne h' (by decide))⟩
  · obtain ⟨ys, h'⟩ := h.links
    exact ⟨ys, hc.owns h' (hne h' (by decide))⟩
  · unfold Sl.v at ho ⊢
    rw [hg] at ho ⊢
    exact ⟨_, (ho.stored k u).1⟩
end
theorem ObjM.at_ {w : World} {O : ObjD} {s : ObjV} (h : ObjM w O s) : ∃ wx : World, wx = w := ⟨w, rfl⟩
theorem OwnO.below {w w' : World} {O : ObjD} {s : ObjV} {B : Nat} (h : OwnO w O s B) (hb : Below w.heap.size w w') : OwnO w' O s B :=
  have hc := Chg.of_below hb []
  ⟨hc.owns h.mat (fun k _ hm => by cases hm), hc.owns h.names (fun k _ hm => by cases hm), hc.owns h.links (fun k _ hm => by cases hm), hc.owns h.custom (fun k _ hm => by cases hm)⟩
theorem right_lens {O : ObjD} (h : rightO O = true) : O.mat.length ≤ 128 ∧ O.names.length ≤ 6 ∧ O.links.length ≤ 8 ∧ O.custom.length ≤ 6 := by
  unfold rightO at h
  simp only [Bool.and_eq_true, decide_eq_true_eq] at h
  obtain ⟨-, -, -, -, -, -, h6, -, -, -, h1, h2, h3, -⟩ := h
  exact ⟨h6, (allO_iff.1 h1).2.2, (allO_iff.1 h2).2.2, (allO_iff.1 h3).2.2⟩
theorem small_of_right {O : ObjD} {s : ObjV} {w : World} (h : rightO O = true) (m : ObjM w O s) : s.mat.n ≤ 1099511627776 ∧ s.names.n ≤ 1099511627776 ∧ s.links.n ≤ 1099511627776 ∧ s.custom.n ≤ 1099511627776 := by
  obtain ⟨h1, h2, h3, h4⟩ := right_lens h
  have a1 := m.mat.rd.len
  have a2 := m.names.rd.len
  have a3 := m.links.rd.len
  have a4 := m.custom.rd.len
  unfold linkCells at a3
  unfold custCells at a4
  rw [flat_len] at a3 a4
  simp at a1 a2
  omega
theorem OwnO.lens {O : ObjD} {s : ObjV} {w : World} {B : Nat} (h : rightO O = true) (m : OwnO w O s B) : s.mat.n ≤ 128 ∧ s.names.n ≤ 6 ∧ s.links.n ≤ 8 ∧ s.custom.n ≤ 6 := by
  obtain ⟨h1, h2, h3, h4⟩ := right_lens h
  have a1 := m.mat.1
  have a2 := m.names.1
  have a3 := m.links.1
  have a4 := m.custom.1
  unfold linkCells at a3
  unfold custCells at a4
  rw [flat_len] at a3 a4
  simp at a1 a2
  omega
theorem OwnO.objM {O : ObjD} {s : ObjV} {w : World} {B : Nat} (m : OwnO w O s B) (h : rightO O = true) (hd : O.dates.length = 10) : ObjM w O s := by
  obtain ⟨h1, h2, h3, h4⟩ := m.lens h
  exact ⟨SlR.of_own m.mat (by omega), SlR.of_own m.names (by omega), SlR.of_own m.links (by omega), SlR.of_own m.custom (by omega), hd⟩
theorem objectSame_walk (x y : RawD) (hx : x.ok) (hy : y.ok) (l k : List RawD) (aL : Option Addr) (nL cL : Nat) (aK : Option Addr) (nK cK : Nat) (zh : Int) (hz : -9223372036854775808 ≤ zh ∧ zh ≤ 9223372036854775807) (near : Bool) (w : World) (hl : ArgSl 4 RawR w (.slice aL nL cL) l) (hk : ArgSl 4 RawR w (.slice aK nK cK) k) (hT : UT w) :
    Calls Tryd.prog 9 #[.agg x.cells, .agg y.cells, .slice aL nL cL, .slice aK nK cK, .int .i64 zh, .bool near] w fun e w' => e = .returned (.bool true) ∧ Below w.heap.size w w' := by
  have HK := hid hk; have HLA := hid hl; have HL0 := hid hl; have HT0 := hid hT; have HZ := hid hz
  clear hk hl hT hz
  go_enter Tryd.func9, Tryd.ntmps9
  go_upto_region 1 with (fail)
  have h1 : ((w.alloc (.cells x.cells 41)).alloc (.cells y.cells 41)).heap[w.heap.size]? = some (.cells x.cells 41 (0, 0)) := heap_alloc2_old _ _ _
  have h2 : ((w.alloc (.cells x.cells 41)).alloc (.cells y.cells 41)).heap[w.heap.size + 1]? = some (.cells y.cells 41 (0, 0)) := heap_alloc2_new _ _ _
  have hb : Below w.heap.size w ((w.alloc (.cells x.cells 41)).alloc (.cells y.cells 41)) := ((Below.refl _ _).alloc (Nat.le_refl _) _).alloc (by simp) _
  have HB := hid (Below.refl w.heap.size w)
  have HB' := hid (HB.out.trans (hb.mono HB.out.size))
  have HLA' := hid (argSl_below HLA.out hb)
  have HK' := hid (argSl_below HK.out hb)
  clear HB HLA HK
  have HB := HB'
  have HLA := HLA'
  have HK := HK'
  clear HB' HLA' HK'
  have BXR := hid h1; have BYR := hid h2
  clear h1 h2 hb
  generalize (w.alloc (.cells x.cells 41)).alloc (.cells y.cells 41) = W at *
  go_wp2_with (refine wpList_load_row rfl 41 _ rfl w.heap.size rfl _ _ _ _ BXR.out Tryd.underlying41 rfl (by kernel_rfl) ?_)
  refine (object_any x hx l aL nL cL _ HLA.out).mono ?_
  rintro e ww ⟨s1, rfl, hm, hf, hb⟩
  dsimp only
  have HB' := hid (HB.out.trans (hb.mono HB.out.size))
  have HLA' := hid (argSl_below HLA.out hb)
  have HK' := hid (argSl_below HK.out hb)
  have BXR' := hid ((hb.block _ (block_lt BXR.out)).trans BXR.out)
  have BYR' := hid ((hb.block _ (block_lt BYR.out)).trans BYR.out)
  clear HB HLA HK BXR BYR
  have HB := HB'
  have HLA := HLA'
  have HK := HK'
  have BXR := BXR'
  have BYR := BYR'
  clear HB' HLA' HK' BXR' BYR'
  have M1 := hid hm
  have HR1 := hid (objRaw_right x l)
  clear hm hf hb
  have HO1 := hid (show objRaw x l = objRaw x l from rfl)
  generalize hq1 : objRaw x l = O1 at *
  have HQ1 := hid hq1
  clear hq1 HO1
  have XP := hid (block_lt BXR.out)
  go_upto_region 2 with (first | (refine wpList_alloc_obj rfl 35 rfl _ oZeroO ?_) | (refine wpList_store_obj rfl 35 _ _ rfl _ rfl _ rfl _ _ (block_new _ _) rfl (by rw [objCells_size]; exact oSizeO) (oc_one _ _) ?_; intro w6 hb6 hc6 hs6; have HB6 := hid hb6; have HC6 := hid hc6; clear hb6 hc6 hs6))
  have hb : Below ww.heap.size ww w6 := ((Below.refl _ _).alloc (Nat.le_refl _) _).trans (HC6.out.below (fun k hk => by rw [List.mem_singleton.1 hk]; exact Nat.le_refl _) (by simp))
  have HB' := hid (HB.out.trans (hb.mono HB.out.size))
  have HLA' := hid (argSl_below HLA.out hb)
  have HK' := hid (argSl_below HK.out hb)
  have BXR' := hid ((hb.block _ (block_lt BXR.out)).trans BXR.out)
  have BYR' := hid ((hb.block _ (block_lt BYR.out)).trans BYR.out)
  have M1' := hid (M1.out.below hb)
  clear HB HLA HK BXR BYR M1
  have HB := HB'
  have HLA := HLA'
  have HK := HK'
  have BXR := BXR'
  have BYR := BYR'
  have M1 := M1'
  clear HB' HLA' HK' BXR' BYR' M1'
  have BX1 := HB6
  have p1LT : Hid (ww.heap.size < w6.heap.size) := block_lt HB6.out
  clear HB6 HC6 hb
  obtain ⟨p1, hp1⟩ : ∃ q, q = ww.heap.size := ⟨_, rfl⟩
  rw [← hp1] at BX1 p1LT ⊢
  have Hp1 := hid hp1
  clear hp1
  have XP1 : Hid (w.heap.size < p1) := by show _ < _; rw [Hp1.out]; exact XP.out
  clear XP Hp1
  go_wp2_with (refine wpList_load_row rfl 41 _ rfl (w.heap.size + 1) rfl _ _ _ _ BYR.out Tryd.underlying41 rfl (by kernel_rfl) ?_)
  refine (object_any y hy k aK nK cK _ HK.out).mono ?_
  rintro e ww ⟨s2, rfl, hm, hf, hb⟩
  dsimp only
  have HB' := hid (HB.out.trans (hb.mono HB.out.size))
  have HLA' := hid (argSl_below HLA.out hb)
  have HK' := hid (argSl_below HK.out hb)
  have BXR' := hid ((hb.block _ (block_lt BXR.out)).trans BXR.out)
  have BYR' := hid ((hb.block _ (block_lt BYR.out)).trans BYR.out)
  have M1' := hid (M1.out.below hb)
  have BX1' := hid ((hb.block _ (block_lt BX1.out)).trans BX1.out)
  clear HB HLA HK BXR BYR M1 BX1
  have HB := HB'
  have HLA := HLA'
  have HK := HK'
  have BXR := BXR'
  have BYR := BYR'
  have M1 := M1'
  have BX1 := BX1'
  clear HB' HLA' HK' BXR' BYR' M1' BX1'
  have M2 := hid hm
  clear hm hf
  have P12 : Hid (p1 < ww.heap.size) := Nat.lt_of_lt_of_le p1LT.out hb.size
  clear hb p1LT
  generalize objRaw y k = O2 at *
  have HM1L := hid M1.out.lt
  go_upto_if 27 with (first | (refine wpList_alloc_obj rfl 35 rfl _ oZeroO ?_) | (refine wpList_store_obj rfl 35 _ _ rfl _ rfl _ rfl _ _ (block_new _ _) rfl (by rw [objCells_size]; exact oSizeO) (oc_one _ _) ?_; intro w6 hb6 hc6 hs6; have HB6 := hid hb6; have HC6 := hid hc6; clear hb6 hc6 hs6))
  have hb : Below ww.heap.size ww w6 := ((Below.refl _ _).alloc (Nat.le_refl _) _).trans (HC6.out.below (fun k hk => by rw [List.mem_singleton.1 hk]; exact Nat.le_refl _) (by simp))
  have HB' := hid (HB.out.trans (hb.mono HB.out.size))
  have HLA' := hid (argSl_below HLA.out hb)
  have HK' := hid (argSl_below HK.out hb)
  have BXR' := hid ((hb.block _ (block_lt BXR.out)).trans BXR.out)
  have BYR' := hid ((hb.block _ (block_lt BYR.out)).trans BYR.out)
  have M1' := hid (M1.out.below hb)
  have BX1' := hid ((hb.block _ (block_lt BX1.out)).trans BX1.out)
  have M2' := hid (M2.out.below hb)
  clear HB HLA HK BXR BYR M1 BX1 M2
  have HB := HB'
  have HLA := HLA'
  have HK := HK'
  have BXR := BXR'
  have BYR := BYR'
  have M1 := M1'
  have BX1 := BX1'
  have M2 := M2'
  clear HB' HLA' HK' BXR' BYR' M1' BX1' M2'
  have BX2 := HB6
  have p2LT : Hid (ww.heap.size < w6.heap.size) := block_lt HB6.out
  clear HB6 HC6 hb
  obtain ⟨p2, hp2⟩ : ∃ q, q = ww.heap.size := ⟨_, rfl⟩
  rw [← hp2] at BX2 p2LT ⊢
  have Hp2 := hid hp2
  clear hp2
  have P12' : Hid (p1 < p2) := by show _ < _; rw [Hp2.out]; exact P12.out
  have F1 : Hid (∀ k ∈ s1.foot, k < p2) := fun k hk => by rw [Hp2.out]; exact HM1L.out k hk
  clear P12 Hp2 HM1L
  have P12 := P12'
  clear P12'
  clear HK BYR
  go_cut [] (fun wx => ∃ O s, wx.heap[p2]? = some (.cells (objCells O s) 35 (0, 0)) ∧ wx.heap[p1]? = some (.cells (objCells O1 s1) 35 (0, 0)) ∧ ObjM wx O1 s1 ∧ ObjM wx O s ∧ wx.heap[w.heap.size]? = some (.cells x.cells 41 (0, 0)) ∧ Below w.heap.size w wx)
  case first =>
    cases near with
    | false =>
      go_wp2_with fail
      go_meet
      exact ⟨O2, s2, BX2.out, BX1.out, M1.out, M2.out, BXR.out, HB.out⟩
    | true =>
      clear M2
      go_wp2_with (refine wpList_load_row rfl 41 _ rfl w.heap.size rfl _ _ _ _ BXR.out Tryd.underlying41 rfl (by kernel_rfl) ?_)
      refine (bent_any x hx l aL nL cL zh HZ.out _ HLA.out).mono ?_
      rintro e ww ⟨O3, s3, rfl, hm, hf, hb⟩
      dsimp only
      have HB' := hid (HB.out.trans (hb.mono HB.out.size))
      have HLA' := hid (argSl_below HLA.out hb)
      have BXR' := hid ((hb.block _ (block_lt BXR.out)).trans BXR.out)
      have M1' := hid (M1.out.below hb)
      have BX1' := hid ((hb.block _ (block_lt BX1.out)).trans BX1.out)
      have BX2' := hid ((hb.block _ (block_lt BX2.out)).trans BX2.out)
      clear HB HLA BXR M1 BX1 BX2
      have HB := HB'
      have HLA := HLA'
      have BXR := BXR'
      have M1 := M1'
      have BX1 := BX1'
      have BX2 := BX2'
      clear HB' HLA' BXR' M1' BX1' BX2'
      have M3 := hid hm
      have F3 : Hid (∀ k ∈ s3.foot, k ≠ p2) := fun k hk => by have h1 := hf k hk; have h2 := p2LT.out; omega
      clear hm hf hb
      go_wp2_with (refine wpList_store_obj rfl 35 _ _ rfl p2 rfl _ rfl _ _ BX2.out rfl (by rw [objCells_size]; exact oSizeO) (oc_one _ _) ?_; intro w6 hb6 hc6 hs6; have HB6 := hid hb6; have HC6 := hid hc6; clear hb6 hc6 hs6)
      go_meet
      exact ⟨O3, s3, HB6.out, (HC6.out.block _ (block_lt BX1.out) (by have := P12.out; simp; omega)).trans BX1.out, M1.out.keep HC6.out (fun k hk hm => by have h1 := F1.out k hk; have h3 := List.mem_singleton.1 hm; omega), M3.out.keep HC6.out (fun k hk hm => F3.out k hk (List.mem_singleton.1 hm)),
        (HC6.out.block _ (block_lt BXR.out) (by have := P12.out; have := XP1.out; simp; omega)).trans BXR.out,
        HB.out.trans (HC6.out.below (fun k hk => by have h3 := List.mem_singleton.1 hk; have h4 := P12.out; have h5 := XP1.out; omega) HB.out.size)⟩
  case rest =>
    obtain ⟨O3, s3, hx2, hx1, hm1, hm2, hxr, hb⟩ := hcut
    clear HB BX1 BX2 M1 M2 BXR HLA
    have BX1 := hid hx1; have BX2 := hid hx2; have M1 := hid hm1; have M2 := hid hm2; have BXR := hid hxr; have HB := hid hb
    clear hx1 hx2 hm1 hm2 hxr hb F1
    obtain ⟨wx, hwx⟩ := M1.out.at_
    subst hwx
    have HS1 : Hid (s1.mat.n ≤ 1099511627776 ∧ s1.names.n ≤ 1099511627776 ∧ s1.links.n ≤ 1099511627776 ∧ s1.custom.n ≤ 1099511627776) := small_of_right HR1.out M1.out
    obtain ⟨B, hB⟩ : ∃ z, z = wx.heap.size := ⟨_, rfl⟩
    have HLO : Hid (w.heap.size ≤ B ∧ p1 < B ∧ ∀ k ∈ s1.foot, k < B) := by
      refine ⟨?_, ?_, ?_⟩
      · rw [hB]; exact HB.out.size
      · rw [hB]; exact block_lt BX1.out
      · rw [hB]; exact M1.out.lt
    go_wp2_with (refine wpList_load_row rfl 35 _ rfl p1 rfl _ _ _ _ BX1.out Tryd.underlying35 rfl (by rw [objCells_size]; exact oSizeO) ?_)
    refine (copy2_any O1 s1 _ M1.out HS1.out).mono ?_
    rintro e ww ⟨sc, rfl, hown, hb⟩
    dsimp only
    have BX1' := hid ((hb.block _ (block_lt BX1.out)).trans BX1.out)
    have BX2' := hid ((hb.block _ (block_lt BX2.out)).trans BX2.out)
    have M1' := hid (M1.out.below hb)
    have M2' := hid (M2.out.below hb)
    have BXR' := hid ((hb.block _ (block_lt BXR.out)).trans BXR.out)
    have HB' := hid (HB.out.trans (hb.mono HB.out.size))
    clear BX1 BX2 M1 M2 BXR HB
    have BX1 := BX1'
    have BX2 := BX2'
    have M1 := M1'
    have M2 := M2'
    have BXR := BXR'
    have HB := HB'
    clear BX1' BX2' M1' M2' BXR' HB'
    rw [← hB] at hown
    clear hB hb HS1
    have HOC := hid hown
    clear hown
    have HOCL : Hid (∀ k, (sc.mat.v.ownBlock = some k ∨ sc.names.v.ownBlock = some k ∨ sc.links.v.ownBlock = some k ∨ sc.custom.v.ownBlock = some k) → k < ww.heap.size) := fun k hk => by
      rcases hk with h | h | h | h
      · exact (HOC.out.mat.lt k h).2
      · exact (HOC.out.names.lt k h).2
      · exact (HOC.out.links.lt k h).2
      · exact (HOC.out.custom.lt k h).2
    go_upto_region 6 with (first | (refine wpList_alloc_obj rfl 35 rfl _ oZeroO ?_) | (refine wpList_store_obj rfl 35 _ _ rfl _ rfl _ rfl _ _ (block_new _ _) rfl (by rw [objCells_size]; exact oSizeO) (oc_one _ _) ?_; intro w6 hb6 hc6 hs6; have HB6 := hid hb6; have HC6 := hid hc6; clear hb6 hc6 hs6))
    have hb : Below ww.heap.size ww w6 := ((Below.refl _ _).alloc (Nat.le_refl _) _).trans (HC6.out.below (fun k hk => by rw [List.mem_singleton.1 hk]; exact Nat.le_refl _) (by simp))
    have BX1' := hid ((hb.block _ (block_lt BX1.out)).trans BX1.out)
    have BX2' := hid ((hb.block _ (block_lt BX2.out)).trans BX2.out)
    have M1' := hid (M1.out.below hb)
    have M2' := hid (M2.out.below hb)
    have BXR' := hid ((hb.block _ (block_lt BXR.out)).trans BXR.out)
    have HB' := hid (HB.out.trans (hb.mono HB.out.size))
    clear BX1 BX2 M1 M2 BXR HB
    have BX1 := BX1'
    have BX2 := BX2'
    have M1 := M1'
    have M2 := M2'
    have BXR := BXR'
    have HB := HB'
    clear BX1' BX2' M1' M2' BXR' HB'
    have BX3 := HB6
    have p3LT : Hid (ww.heap.size < w6.heap.size) := block_lt HB6.out
    have HC6K := HC6
    clear HB6 HC6 hb
    obtain ⟨p3, hp3⟩ : ∃ q, q = ww.heap.size := ⟨_, rfl⟩
    rw [← hp3] at BX3 p3LT ⊢
    have Hp3 := hid hp3
    clear hp3
    have HOC' := hid (HOC.out.below (((Below.refl _ _).alloc (Nat.le_refl _) _).trans (HC6K.out.below (fun k hk => by rw [List.mem_singleton.1 hk]; exact Nat.le_refl _) (by simp))))
    clear HOC HC6K
    have HOC := HOC'
    clear HOC'
    have HHI : Hid (∀ k, (sc.mat.v.ownBlock = some k ∨ sc.names.v.ownBlock = some k ∨ sc.links.v.ownBlock = some k ∨ sc.custom.v.ownBlock = some k) → k < p3) := fun k hk => by rw [Hp3.out]; exact HOCL.out k hk
    clear HOCL Hp3 p3LT
    have MC : Hid (ObjM w6 O1 sc) := HOC.out.objM HR1.out M1.out.dl
    have HSM := hid ((sameB_iff M1.out.dl M1.out.dl).2 rfl)
    have HS5 := hid (show sameB O1 O3 = sameB O1 O3 from rfl)
    generalize hsb : sameB O1 O3 = sb at *
    have HSB := hid hsb
    clear hsb HS5
    refine wp_region_each 23 [.eq (.bool true), .eq (.bool false), .eq (.bool false), .eq (.agg (objCells O1 s1)), .eq (.agg (objCells O3 s3)), .eq (.bool sb), .eq (.agg (objCells O1 s1)), .eq (.agg (objCells O3 s3)), .eq (.bool sb), .eq (.bool false), .eq (.bool false), .eq (.bool false), .eq (.agg (objCells O1 s1)), .eq (.agg (objCells O1 sc)), .eq (.bool true), .eq (.bool false), .eq (.bool false), .eq (.bool false), .eq (.agg (objCells O1 s1)), .eq (.agg (objCells O1 sc)), .eq (.bool true), .eq (.bool false), .eq (.bool false)] (by kernel_rfl) (by kernel_rfl) (by kernel_rfl) (by kernel_rfl) ?_ ?_
    · all_goals
        refine each_5 ?_ ?_ ?_ ?_ ?_ (each_5 ?_ ?_ ?_ ?_ ?_ (each_5 ?_ ?_ ?_ ?_ ?_ (each_5 ?_ ?_ ?_ ?_ ?_ (each_c ?_ (each_c ?_ (each_c ?_ (each_n)))))))
        · intro w1 hg Ar seen
          refine does_plain rfl fun K Q' hK => ?_
          go_simp
          refine (known10_any _ ((HT0.out.below HB.out).below hg)).mono ?_
          rintro e u ⟨rfl, hb⟩
          exact hK _ _ hb rfl
        · intro w1 hg Ar seen
          have e0 := seen.de 0 34
          refine does_plain rfl fun K Q' hK => ?_
          go_simp; exact hK _ _ (Grow.refl _) rfl
        · intro w1 hg Ar seen
          have e1 := seen.de 1 35
          refine does_plain rfl fun K Q' hK => ?_
          go_simp; exact hK _ _ (Grow.refl _) rfl
        · intro w1 hg Ar seen
          have e2 := seen.de 2 36
          have s13 := seen.sl 13 (.pointer (some ⟨p1, 0, none⟩))
          refine does_on rfl (by kernel_rfl) e2 fun K Q' hK => ?_
          clear e2
          refine wp_load_row 35 _ rfl p1 (by simp [Act.eval, s13]) _ _ _ _ ((hg.block _ (block_lt BX1.out)).trans BX1.out) Tryd.underlying35 rfl (by rw [objCells_size]; exact oSizeO) ?_
          exact hK _ _ (Grow.refl _) rfl
        · intro w1 hg Ar seen
          have e2 := seen.de 2 36
          have s14 := seen.sl 14 (.pointer (some ⟨p2, 0, none⟩))
          refine does_on rfl (by kernel_rfl) e2 fun K Q' hK => ?_
          clear e2
          refine wp_load_row 35 _ rfl p2 (by simp [Act.eval, s14]) _ _ _ _ ((hg.block _ (block_lt BX2.out)).trans BX2.out) Tryd.underlying35 rfl (by rw [objCells_size]; exact oSizeO) ?_
          exact hK _ _ (Grow.refl _) rfl
        · intro w1 hg Ar seen
          have e3 := seen.de 3 37
          have e4 := seen.de 4 38
          have e2 := seen.de 2 36
          refine does_on rfl (by kernel_rfl) e2 fun K Q' hK => ?_
          clear e2
          go_simp
          refine (same10_any O1 O3 s1 s3 _ (M1.out.below hg) (M2.out.below hg)).mono ?_
          rintro e u ⟨rfl, hb⟩
          exact hK _ _ hb (congrArg Value.bool HSB.out)
        · intro w1 hg Ar seen
          have e2 := seen.de 2 36
          have s13 := seen.sl 13 (.pointer (some ⟨p1, 0, none⟩))
          refine does_on rfl (by kernel_rfl) e2 fun K Q' hK => ?_
          clear e2
          refine wp_load_row 35 _ rfl p1 (by simp [Act.eval, s13]) _ _ _ _ ((hg.block _ (block_lt BX1.out)).trans BX1.out) Tryd.underlying35 rfl (by rw [objCells_size]; exact oSizeO) ?_
          exact hK _ _ (Grow.refl _) rfl
        · intro w1 hg Ar seen
          have e2 := seen.de 2 36
          have s14 := seen.sl 14 (.pointer (some ⟨p2, 0, none⟩))
          refine does_on rfl (by kernel_rfl) e2 fun K Q' hK => ?_
          clear e2
          refine wp_load_row 35 _ rfl p2 (by simp [Act.eval, s14]) _ _ _ _ ((hg.block _ (block_lt BX2.out)).trans BX2.out) Tryd.underlying35 rfl (by rw [objCells_size]; exact oSizeO) ?_
          exact hK _ _ (Grow.refl _) rfl
        · intro w1 hg Ar seen
          have e6 := seen.de 6 40
          have e7 := seen.de 7 41
          have e2 := seen.de 2 36
          refine does_on rfl (by kernel_rfl) e2 fun K Q' hK => ?_
          clear e2
          go_simp
          refine (rsame10_any O1 O3 s1 s3 _ (M1.out.below hg) (M2.out.below hg)).mono ?_
          rintro e u ⟨rfl, hb⟩
          exact hK _ _ hb (congrArg Value.bool HSB.out)
        · intro w1 hg Ar seen
          have e5 := seen.de 5 39
          have e8 := seen.de 8 42
          have e2 := seen.de 2 36
          refine does_on rfl (by kernel_rfl) e2 fun K Q' hK => ?_
          clear e2
          go_simp; exact hK _ _ (Grow.refl _) rfl
        · intro w1 hg Ar seen
          have e2 := seen.de 2 36
          have e9 := seen.de 9 43
          refine does_plain rfl fun K Q' hK => ?_
          go_simp; exact hK _ _ (Grow.refl _) rfl
        · intro w1 hg Ar seen
          have e10 := seen.de 10 44
          refine does_plain rfl fun K Q' hK => ?_
          go_simp; exact hK _ _ (Grow.refl _) rfl
        · intro w1 hg Ar seen
          have e11 := seen.de 11 45
          have s13 := seen.sl 13 (.pointer (some ⟨p1, 0, none⟩))
          refine does_on rfl (by kernel_rfl) e11 fun K Q' hK => ?_
          clear e11
          refine wp_load_row 35 _ rfl p1 (by simp [Act.eval, s13]) _ _ _ _ ((hg.block _ (block_lt BX1.out)).trans BX1.out) Tryd.underlying35 rfl (by rw [objCells_size]; exact oSizeO) ?_
          exact hK _ _ (Grow.refl _) rfl
        · intro w1 hg Ar seen
          have e11 := seen.de 11 45
          have s15 := seen.sl 15 (.pointer (some ⟨p3, 0, none⟩))
          refine does_on rfl (by kernel_rfl) e11 fun K Q' hK => ?_
          clear e11
          refine wp_load_row 35 _ rfl p3 (by simp [Act.eval, s15]) _ _ _ _ ((hg.block _ (block_lt BX3.out)).trans BX3.out) Tryd.underlying35 rfl (by rw [objCells_size]; exact oSizeO) ?_
          exact hK _ _ (Grow.refl _) rfl
        · intro w1 hg Ar seen
          have e12 := seen.de 12 46
          have e13 := seen.de 13 47
          have e11 := seen.de 11 45
          refine does_on rfl (by kernel_rfl) e11 fun K Q' hK => ?_
          clear e11
          go_simp
          refine (same10_any O1 O1 s1 sc _ (M1.out.below hg) (MC.out.below hg)).mono ?_
          rintro e u ⟨rfl, hb⟩
          exact hK _ _ hb (congrArg Value.bool HSM.out)
        · intro w1 hg Ar seen
          have e14 := seen.de 14 48
          have e11 := seen.de 11 45
          refine does_on rfl (by kernel_rfl) e11 fun K Q' hK => ?_
          clear e11
          go_simp; exact hK _ _ (Grow.refl _) rfl
        · intro w1 hg Ar seen
          have e11 := seen.de 11 45
          have e15 := seen.de 15 49
          refine does_plain rfl fun K Q' hK => ?_
          go_simp; exact hK _ _ (Grow.refl _) rfl
        · intro w1 hg Ar seen
          have e16 := seen.de 16 50
          refine does_plain rfl fun K Q' hK => ?_
          go_simp; exact hK _ _ (Grow.refl _) rfl
        · intro w1 hg Ar seen
          have e17 := seen.de 17 51
          have s13 := seen.sl 13 (.pointer (some ⟨p1, 0, none⟩))
          refine does_on rfl (by kernel_rfl) e17 fun K Q' hK => ?_
          clear e17
          refine wp_load_row 35 _ rfl p1 (by simp [Act.eval, s13]) _ _ _ _ ((hg.block _ (block_lt BX1.out)).trans BX1.out) Tryd.underlying35 rfl (by rw [objCells_size]; exact oSizeO) ?_
          exact hK _ _ (Grow.refl _) rfl
        · intro w1 hg Ar seen
          have e17 := seen.de 17 51
          have s15 := seen.sl 15 (.pointer (some ⟨p3, 0, none⟩))
          refine does_on rfl (by kernel_rfl) e17 fun K Q' hK => ?_
          clear e17
          refine wp_load_row 35 _ rfl p3 (by simp [Act.eval, s15]) _ _ _ _ ((hg.block _ (block_lt BX3.out)).trans BX3.out) Tryd.underlying35 rfl (by rw [objCells_size]; exact oSizeO) ?_
          exact hK _ _ (Grow.refl _) rfl
        · intro w1 hg Ar seen
          have e18 := seen.de 18 52
          have e19 := seen.de 19 53
          have e17 := seen.de 17 51
          refine does_on rfl (by kernel_rfl) e17 fun K Q' hK => ?_
          clear e17
          go_simp
          refine (rsame10_any O1 O1 s1 sc _ (M1.out.below hg) (MC.out.below hg)).mono ?_
          rintro e u ⟨rfl, hb⟩
          exact hK _ _ hb (congrArg Value.bool HSM.out)
        · intro w1 hg Ar seen
          have e20 := seen.de 20 54
          have e17 := seen.de 17 51
          refine does_on rfl (by kernel_rfl) e17 fun K Q' hK => ?_
          clear e17
          go_simp; exact hK _ _ (Grow.refl _) rfl
        · intro w1 hg Ar seen
          have e17 := seen.de 17 51
          have e21 := seen.de 21 55
          refine does_plain rfl fun K Q' hK => ?_
          go_simp; exact hK _ _ (Grow.refl _) rfl
    intro w1 hg
    refine upon_w' (js := [0, 1, 2, 3, 4, 5, 6, 7, 8, 9, 10, 11, 12, 13, 14, 15, 16, 17, 18, 19, 20, 21, 22]) (by rfl) ?_
    refine upon_e (some 34) (upon_e (some 35) (upon_e (some 36) (upon_e (some 37) (upon_e (some 38) (upon_e (some 39) (upon_e (some 40) (upon_e (some 41) (upon_e (some 42) (upon_e (some 43) (upon_e (some 44) (upon_e (some 45) (upon_e (some 46) (upon_e (some 47) (upon_e (some 48) (upon_e (some 49) (upon_e (some 50) (upon_e (some 51) (upon_e (some 52) (upon_e (some 53) (upon_e (some 54) (upon_e (some 55) (upon_e (some 56) (upon_n ?_)))))))))))))))))))))))
    go_simp
    have hb := hg
    clear hg
    have HOC' := hid (HOC.out.below hb)
    clear HOC
    have HOC := HOC'
    clear HOC'
    clear M2 BX2
    have BX1' := hid ((hb.block _ (block_lt BX1.out)).trans BX1.out)
    have M1' := hid (M1.out.below hb)
    have BXR' := hid ((hb.block _ (block_lt BXR.out)).trans BXR.out)
    have HB' := hid (HB.out.trans (hb.mono HB.out.size))
    have BX3' := hid ((hb.block _ (block_lt BX3.out)).trans BX3.out)
    clear BX1 M1 BXR HB BX3
    have BX1 := BX1'
    have M1 := M1'
    have BXR := BXR'
    have HB := HB'
    have BX3 := BX3'
    clear BX1' M1' BXR' HB' BX3'
    clear hb MC HSM HSB
    go_simp
    have HLA := hid (argSl_below HL0.out HB.out)
    go_wp2_with (refine wpList_load_row rfl 41 _ rfl w.heap.size rfl _ _ _ _ BXR.out Tryd.underlying41 rfl (by kernel_rfl) ?_)
    refine (object_any x hx l aL nL cL _ HLA.out).mono ?_
    rintro e ww ⟨s4, rfl, hm, hf, hb⟩
    dsimp only
    rw [HQ1.out] at hm ⊢
    have HOC' := hid (HOC.out.below hb)
    clear HOC
    have HOC := HOC'
    clear HOC'
    have HP3 := hid (block_lt BX3.out)
    have HF4 : Hid (∀ k ∈ s4.foot, p3 < k) := fun k hk => Nat.lt_of_lt_of_le (block_lt BX3.out) (hf k hk)
    clear BXR
    have BX1' := hid ((hb.block _ (block_lt BX1.out)).trans BX1.out)
    have M1' := hid (M1.out.below hb)
    have HB' := hid (HB.out.trans (hb.mono HB.out.size))
    have BX3' := hid ((hb.block _ (block_lt BX3.out)).trans BX3.out)
    clear BX1 M1 HB BX3
    have BX1 := BX1'
    have M1 := M1'
    have HB := HB'
    have BX3 := BX3'
    clear BX1' M1' HB' BX3'
    have M4 := hid hm
    have HP3' := hid (Nat.lt_of_lt_of_le HP3.out hb.size)
    clear hm hf hb HLA HP3
    have HP3 := HP3'
    clear HP3'
    go_upto_region 9 with (first | (refine wpList_alloc_obj rfl 35 rfl _ oZeroO ?_) | (refine wpList_store_obj rfl 35 _ _ rfl _ rfl _ rfl _ _ (block_new _ _) rfl (by rw [objCells_size]; exact oSizeO) (oc_one _ _) ?_; intro w6 hb6 hc6 hs6; have HB6 := hid hb6; have HC6 := hid hc6; clear hb6 hc6 hs6))
    have hb : Below ww.heap.size ww w6 := ((Below.refl _ _).alloc (Nat.le_refl _) _).trans (HC6.out.below (fun k hk => by rw [List.mem_singleton.1 hk]; exact Nat.le_refl _) (by simp))
    have BX1' := hid ((hb.block _ (block_lt BX1.out)).trans BX1.out)
    have M1' := hid (M1.out.below hb)
    have HB' := hid (HB.out.trans (hb.mono HB.out.size))
    have BX3' := hid ((hb.block _ (block_lt BX3.out)).trans BX3.out)
    have M4' := hid (M4.out.below hb)
    clear BX1 M1 HB BX3 M4
    have BX1 := BX1'
    have M1 := M1'
    have HB := HB'
    have BX3 := BX3'
    have M4 := M4'
    clear BX1' M1' HB' BX3' M4'
    have BX4 := HB6
    have p4LT : Hid (ww.heap.size < w6.heap.size) := block_lt HB6.out
    have HC6K := HC6
    clear HB6 HC6 hb
    obtain ⟨p4, hp4⟩ : ∃ q, q = ww.heap.size := ⟨_, rfl⟩
    rw [← hp4] at BX4 p4LT ⊢
    have Hp4 := hid hp4
    clear hp4
    have HOC' := hid (HOC.out.below (((Below.refl _ _).alloc (Nat.le_refl _) _).trans (HC6K.out.below (fun k hk => by rw [List.mem_singleton.1 hk]; exact Nat.le_refl _) (by simp))))
    have C0 : Hid (CutSt w p1 p3 p4 B O1 s1 sc s4 w6) := ⟨BX1.out, BX3.out, BX4.out, M1.out, M4.out, ⟨_, HOC'.out.mat⟩, ⟨_, HOC'.out.names⟩, ⟨_, HOC'.out.links⟩, ⟨_, HOC'.out.custom⟩, HB.out, HLO.out, HHI.out, (by have := HOC'.out.lens HR1.out; omega), by rw [Hp4.out]; exact HP3.out, HF4.out⟩
    clear HOC HOC' HC6K HP3 HF4 HHI HLO Hp4 p4LT HB BX1 BX3 BX4 M1 M4 HQ1 HR1 HL0
    go_wp2_with fail
    go_loopw [17] (fun z wr => ∃ k : Nat, k ≤ sc.mat.n ∧ z = .int .i64 k ∧ CutSt w p1 p3 p4 B O1 s1 sc s4 wr) (fun z _ => sc.mat.n - (intOf z).toNat)
    case atStart => exact ⟨0, Nat.zero_le _, rfl, C0.out⟩
    case round =>
      obtain ⟨k, hk, rfl, hs⟩ := hrel
      clear C0
      have S := hid hs
      clear hs
      have hsm : sc.mat.n ≤ 140737488355328 := S.out.small.1
      have d5 := cell_of_block S.out.b3 (oc5 O1 sc)
      by_cases hlt : k < sc.mat.n
      · obtain ⟨lb, ho⟩ := S.out.mat
        obtain ⟨_, _, h3g⟩ := own_slice ho
        obtain ⟨g, hg, hg1, hg2⟩ := h3g (by omega)
        have HG := hid hg
        have ho2 := ho
        unfold Sl.v at ho2
        rw [hg] at ho2 d5
        have hcell := ownB_cell ho2 k hlt
        have hfz := ho2.frozenAt k
        have HS := hid (S.out.sMat hg k)
        clear hg ho ho2
        unfold B8 at hcell
        generalize lb.getD k 0 = xx at *
        go_upto_region 11 with (fail)
        clear hcell hfz d5
        obtain ⟨cb, hcb⟩ := byte_of (((xx.toNat : Int) + 1) % 256) (by omega) (by omega)
        rw [hcb]
        have S2 := hid (HS.out cb)
        clear HS S
        go_wp2_with fail
        go_roundw
        case rel => first | exact ⟨k + 1, by omega, by go_num, S2.out⟩ | ((repeat apply Exists.intro); exact ⟨⟨k + 1, by omega, by go_num, S2.out⟩, rfl⟩)
        case measure => simp [intOf]; omega
      · obtain hkn : k = sc.mat.n := by omega
        subst hkn
        have C0 := S
        clear S
        go_wp2_with fail
        clear d5
        go_loopw [18] (fun z wr => ∃ k : Nat, k ≤ sc.names.n ∧ z = .int .i64 k ∧ CutSt w p1 p3 p4 B O1 s1 sc s4 wr) (fun z _ => sc.names.n - (intOf z).toNat)
        case atStart => exact ⟨0, Nat.zero_le _, rfl, C0.out⟩
        case round =>
          obtain ⟨k, hk, rfl, hs⟩ := hrel
          clear C0
          have S := hid hs
          clear hs
          have hsm : sc.names.n ≤ 140737488355328 := S.out.small.2.1
          have d5 := cell_of_block S.out.b3 (oc29 O1 sc)
          by_cases hlt : k < sc.names.n
          · obtain ⟨xs, ho⟩ := S.out.names
            obtain ⟨_, _, h3g⟩ := own_slice ho
            obtain ⟨g, hg, hg1, hg2⟩ := h3g (by omega)
            have ho2 := ho
            unfold Sl.v at ho2
            rw [hg] at ho2 d5
            have hjx : k < sc.names.n * 1 := by omega
            have hcell := (ho2.cellAt (k) hjx).trans (List.getElem?_eq_getElem (by rw [ho2.1]; exact hjx))
            have hfz := ho2.frozenAt (k)
            have HS := hid (fun u => S.out.sNames hg (k) u)
            generalize xs[k]'_ = xv at hcell
            clear hg ho ho2
            go_upto_region 15 with (fail)
            have S2 := hid (HS.out (.string ⟨#[122]⟩))
            clear HS S hcell hfz d5
            go_wp2_with fail
            go_roundw
            case rel => first | exact ⟨k + 1, by omega, by go_num, S2.out⟩ | ((repeat apply Exists.intro); exact ⟨⟨k + 1, by omega, by go_num, S2.out⟩, rfl⟩)
            case measure => simp [intOf]; omega
          · obtain hkn : k = sc.names.n := by omega
            subst hkn
            have C0 := S
            clear S
            go_wp2_with fail
            clear d5
            go_loopw [19] (fun z wr => ∃ k : Nat, k ≤ sc.links.n ∧ z = .int .i64 k ∧ CutSt w p1 p3 p4 B O1 s1 sc s4 wr) (fun z _ => sc.links.n - (intOf z).toNat)
            case atStart => exact ⟨0, Nat.zero_le _, rfl, C0.out⟩
            case round =>
              obtain ⟨k, hk, rfl, hs⟩ := hrel
              clear C0
              have S := hid hs
              clear hs
              have hsm : sc.links.n ≤ 140737488355328 := S.out.small.2.2.1
              have d5 := cell_of_block S.out.b3 (oc30 O1 sc)
              by_cases hlt : k < sc.links.n
              · obtain ⟨xs, ho⟩ := S.out.links
                obtain ⟨_, _, h3g⟩ := own_slice ho
                obtain ⟨g, hg, hg1, hg2⟩ := h3g (by omega)
                have ho2 := ho
                unfold Sl.v at ho2
                rw [hg] at ho2 d5
                have hjx : k * 2 < sc.links.n * 2 := by omega
                have hcell := (ho2.cellAt (k * 2) hjx).trans (List.getElem?_eq_getElem (by rw [ho2.1]; exact hjx))
                have hfz := ho2.frozenAt (k * 2)
                have HS := hid (fun u => S.out.sLinks hg (k * 2) u)
                generalize xs[k * 2]'_ = xv at hcell
                clear hg ho ho2
                go_upto_region 19 with (fail)
                have S2 := hid (HS.out (.int .i64 0))
                clear HS S hcell hfz d5
                go_wp2_with fail
                go_roundw
                case rel => first | exact ⟨k + 1, by omega, by go_num, S2.out⟩ | ((repeat apply Exists.intro); exact ⟨⟨k + 1, by omega, by go_num, S2.out⟩, rfl⟩)
                case measure => simp [intOf]; omega
              · obtain hkn : k = sc.links.n := by omega
                subst hkn
                have C0 := S
                clear S
                go_wp2_with fail
                clear d5
                go_loopw [20] (fun z wr => ∃ k : Nat, k ≤ sc.custom.n ∧ z = .int .i64 k ∧ CutSt w p1 p3 p4 B O1 s1 sc s4 wr) (fun z _ => sc.custom.n - (intOf z).toNat)
                case atStart => exact ⟨0, Nat.zero_le _, rfl, C0.out⟩
                case round =>
                  obtain ⟨k, hk, rfl, hs⟩ := hrel
                  clear C0
                  have S := hid hs
                  clear hs
                  have hsm : sc.custom.n ≤ 140737488355328 := S.out.small.2.2.2
                  have d5 := cell_of_block S.out.b3 (oc31 O1 sc)
                  by_cases hlt : k < sc.custom.n
                  · obtain ⟨xs, ho⟩ := S.out.custom
                    obtain ⟨_, _, h3g⟩ := own_slice ho
                    obtain ⟨g, hg, hg1, hg2⟩ := h3g (by omega)
                    have ho2 := ho
                    unfold Sl.v at ho2
                    rw [hg] at ho2 d5
                    have hjx : k * 2 + 1 < sc.custom.n * 2 := by omega
                    have hcell := (ho2.cellAt (k * 2 + 1) hjx).trans (List.getElem?_eq_getElem (by rw [ho2.1]; exact hjx))
                    have hfz := ho2.frozenAt (k * 2 + 1)
                    have HS := hid (fun u => S.out.sCustom hg (k * 2 + 1) u)
                    generalize xs[k * 2 + 1]'_ = xv at hcell
                    clear hg ho ho2
                    go_upto_region 23 with (fail)
                    have S2 := hid (HS.out (.string ⟨#[]⟩))
                    clear HS S hcell hfz d5
                    go_wp2_with fail
                    go_roundw
                    case rel => first | exact ⟨k + 1, by omega, by go_num, S2.out⟩ | ((repeat apply Exists.intro); exact ⟨⟨k + 1, by omega, by go_num, S2.out⟩, rfl⟩)
                    case measure => simp [intOf]; omega
                  · obtain hkn : k = sc.custom.n := by omega
                    subst hkn
                    have C0 := S
                    clear S
                    go_wp2_with (first | (refine wpList_load_row rfl 35 _ rfl p1 rfl _ _ _ _ C0.out.b1 Tryd.underlying35 rfl (by rw [objCells_size]; exact oSizeO) ?_) | (refine wpList_load_row rfl 35 _ rfl p4 rfl _ _ _ _ C0.out.b4 Tryd.underlying35 rfl (by rw [objCells_size]; exact oSizeO) ?_))
                    refine (same_any _ _ _ _ C0.out.m1 C0.out.m4).mono ?_
                    rintro e ww ⟨rfl, hb⟩
                    dsimp only
                    go_wp2_with fail
                    go_ret
                    exact ⟨rfl, C0.out.bel.trans (hb.mono C0.out.bel.size)⟩
end Go.Proofs.YtdlkobmlnpijgaaDoor
