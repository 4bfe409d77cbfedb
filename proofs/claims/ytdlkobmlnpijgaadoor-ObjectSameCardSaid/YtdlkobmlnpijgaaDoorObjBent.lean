/- law10's bent. -/
import Derived.Test.YtdlkobmlnpijgaaDoorMSw
import Derived.Test.YtdlkobmlnpijgaaDoorObjRead
import Derived.Deep.DeepCutAuto
import Derived.Deep.CutBlock
import Derived.Deep.DeepMust
namespace Go.Proofs.YtdlkobmlnpijgaaDoor
open Go.RowKit
set_option linter.unusedVariables false
set_option linter.unusedSimpArgs false
set_option maxRecDepth 1000000
set_option maxHeartbeats 6400000
theorem argSl_below {w w' : World} {v : Value} {l : List RawD} (h : ArgSl 4 RawR w v l) (hb : Below w.heap.size w w') : ArgSl 4 RawR w' v l := by
  obtain ⟨a, n, c, hv, hl, h1, h2, h3, hc⟩ := h
  refine ⟨a, n, c, hv, hl, h1, h2, h3, fun k hk => ?_⟩
  obtain ⟨b, off, cs, ha, g0, g1, g3⟩ := hc k hk
  refine ⟨b, off, cs, ha, g0, fun j hj => ?_, g3⟩
  have hj' := g1 j hj
  rw [List.getElem?_eq_getElem (by omega)] at hj' ⊢
  exact cell_later hb hj'
theorem objStep_grow (O : ObjD) (y : RawD) : (objStep O y).names.length ≤ O.names.length + 1 ∧ (objStep O y).links.length ≤ O.links.length + 1 ∧ (objStep O y).custom.length ≤ O.custom.length + 1 := by
  unfold objStep
  split
  · simp [ObjD.setDate]
  · split
    · split <;> simp
    · split
      · split <;> simp
      · split
        · simp
        · split
          · split <;> simp
          · split <;> simp
theorem objFold_grow : ∀ (l : List RawD) (O : ObjD), (l.foldl objStep O).names.length ≤ O.names.length + l.length ∧ (l.foldl objStep O).links.length ≤ O.links.length + l.length ∧ (l.foldl objStep O).custom.length ≤ O.custom.length + l.length
  | [], O => by simp
  | y :: l, O => by
    have h1 := objStep_grow O y
    have h2 := objFold_grow l (objStep O y)
    simp only [List.foldl_cons, List.length_cons]
    omega
theorem objRaw_small (x : RawD) (l : List RawD) : (objRaw x l).names.length ≤ 10 ∧ (objRaw x l).links.length ≤ 10 ∧ (objRaw x l).custom.length ≤ 10 := by
  have h := objFold_grow (l.take 10) ((objInit x).setDate 0 (true, pick x.c 20))
  have hl : (l.take 10).length ≤ 10 := by rw [List.length_take]; omega
  have e : ((objInit x).setDate 0 (true, pick x.c 20)).names.length = 0 ∧ ((objInit x).setDate 0 (true, pick x.c 20)).links.length = 0 ∧ ((objInit x).setDate 0 (true, pick x.c 20)).custom.length = 0 := ⟨rfl, rfl, rfl⟩
  unfold objRaw
  simp only [List.length_take]
  omega
theorem own_none {W : World} {B g size : Nat} {e : TypeId} (h : W.heap[g]? = some (.cells #[] e (0, 0))) (hB : B ≤ g) : W.ownsRow B e size (.slice (some ⟨g, 0, none⟩) 0 0) 0 [] :=
  ⟨by simp, .inr ⟨g, 0, #[], rfl, hB, h, Nat.le_refl _, by unfold maxLen; decide, by simp, by simp⟩⟩
theorem noneS (w : World) : (Instr.buildSlice 29 0 #[]).run Tryd.prog w = .ok (.slice (some ⟨w.heap.size, 0, none⟩) 0 0) (w.alloc (.cells #[] 9)) := by kernel_rfl
theorem noneL (w : World) : (Instr.buildSlice 30 0 #[]).run Tryd.prog w = .ok (.slice (some ⟨w.heap.size, 0, none⟩) 0 0) (w.alloc (.cells #[] 56)) := by kernel_rfl
theorem noneC (w : World) : (Instr.buildSlice 31 0 #[]).run Tryd.prog w = .ok (.slice (some ⟨w.heap.size, 0, none⟩) 0 0) (w.alloc (.cells #[] 58)) := by kernel_rfl
theorem osAt (O : ObjD) (s : ObjV) (hl : O.dates.length = 10) (z : Int) : (objCells O s).setIfInBounds 14 (.int .i64 z) = objCells (O.setDate 3 ((O.dat 3).1, z)) s := by
  have h := osD O s hl 3 (by decide) (O.dat 3).1 z
  have e : (objCells O s).setIfInBounds (7 + 3 * 2) (.bool (O.dat 3).1) = objCells O s := rfl
  rw [e] at h
  exact h
/-- The result's room, the object in the making. -/
structure BtSt (O : ObjD) (s : ObjV) (w : World) (b ob : Nat) (W : World) : Prop where
  res : W.heap[b]? = some (.cells (objCells zObj zObjV) 35 (0, 0))
  box : W.heap[ob]? = some (.cells (objCells O s) 35 (0, 0))
  m : ObjM W O s
  foot : ∀ k ∈ s.foot, w.heap.size ≤ k ∧ k ≠ ob ∧ k ≠ b
  bel : Below w.heap.size w W
  lt : w.heap.size ≤ b ∧ b < ob
section
variable {O O' : ObjD} {s s' : ObjV} {w W W' : World} {b ob : Nat}
theorem BtSt.below (h : BtSt O s w b ob W) (hb : Below W.heap.size W W') : BtSt O s w b ob W' :=
  ⟨(hb.block _ (block_lt h.res)).trans h.res, (hb.block _ (block_lt h.box)).trans h.box, h.m.below hb, h.foot, h.bel.trans (hb.mono (by have := h.lt; have := block_lt h.res; omega)), h.lt⟩
theorem BtSt.set (h : BtSt O s w b ob W) (j : Nat) (v : Value) (he : (objCells O s).setIfInBounds j v = objCells O' s') (hm : ObjM W O' s') (hf : ∀ k ∈ s'.foot, w.heap.size ≤ k ∧ k ≠ ob ∧ k ≠ b) : BtSt O' s' w b ob (W.setCell ⟨ob, j, none⟩ v) := by
  have hc : Chg [ob] W (W.setCell ⟨ob, j, none⟩ v) := (Chg.refl [ob] W).setCell (.inl (by simp)) v
  have hl := h.lt
  exact ⟨(hc.block _ (block_lt h.res) (by simp; omega)).trans h.res, he ▸ block_setCell h.box v, hm.keep hc (fun k hk hm => (hf k hk).2.1 (List.mem_singleton.1 hm)), hf,
    h.bel.trans (hc.below (fun k hk => by have := List.mem_singleton.1 hk; omega) (by have := block_lt h.res; omega)), h.lt⟩
theorem BtSt.cell (h : BtSt O s w b ob W) {j : Nat} {v : Value} (hv : (objCells O s)[j]? = some v) : W.cell? ⟨ob, j, none⟩ = some v := cell_of_block h.box hv
theorem BtSt.fz (h : BtSt O s w b ob W) (j : Nat) : W.frozen? ⟨ob, j, none⟩ = false := frozen_of_block h.box
theorem BtSt.fresh (h : BtSt O s w b ob W) {k : Nat} (hk : W.heap.size ≤ k) : w.heap.size ≤ k ∧ k ≠ ob ∧ k ≠ b := by have := h.bel.size; have := block_lt h.box; have := h.lt; omega
end
theorem bent_any (x : RawD) (hx : x.ok) (l : List RawD) (aL : Option Addr) (nL cL : Nat) (z0 : Int) (hz0 : -9223372036854775808 ≤ z0 ∧ z0 ≤ 9223372036854775807) (w : World) (hal : ArgSl 4 RawR w (.slice aL nL cL) l) :
    Calls Tryd.prog 15 #[.agg x.cells, .slice aL nL cL, .int .i64 z0] w fun e w' => ∃ O s, e = .returned (.agg (objCells O s)) ∧ ObjM w' O s ∧ (∀ k ∈ s.foot, w.heap.size ≤ k) ∧ Below w.heap.size w w' := by
  have HAL := hid hal; clear hal
  have hq := tdiv_in z0 24 (by omega) hz0
  have HWQ : Hid (IntKind.i64.wrap (z0.tdiv 24) = z0.tdiv 24) := IntWalk.i64_in _ hq
  clear hq
  go_enter Tryd.func15, Tryd.ntmps15
  go_upto_region 1 with (refine wpList_alloc_obj rfl 35 rfl _ oZeroO ?_)
  go_simp
  have h1 : ((w.alloc (.cells x.cells 41)).alloc (.cells (objCells zObj zObjV) 35)).heap[w.heap.size]? = some (.cells x.cells 41 (0, 0)) := heap_alloc2_old _ _ _
  have h2 : ((w.alloc (.cells x.cells 41)).alloc (.cells (objCells zObj zObjV) 35)).heap[w.heap.size + 1]? = some (.cells (objCells zObj zObjV) 35 (0, 0)) := heap_alloc2_new _ _ _
  have h3 : Below w.heap.size w ((w.alloc (.cells x.cells 41)).alloc (.cells (objCells zObj zObjV) 35)) := ((Below.refl _ _).alloc (Nat.le_refl _) _).alloc (by simp) _
  have h4 : ((w.alloc (.cells x.cells 41)).alloc (.cells (objCells zObj zObjV) 35)).heap.size = w.heap.size + 2 := by simp
  obtain ⟨b, hb⟩ : ∃ b, b = w.heap.size + 1 := ⟨_, rfl⟩
  rw [← hb] at h2 ⊢
  generalize (w.alloc (.cells x.cells 41)).alloc (.cells (objCells zObj zObjV) 35) = W0 at *
  have hal2 : ArgSl 4 RawR W0 (.slice aL nL cL) l := argSl_below HAL.out h3
  have H1 := hid h1; have H2 := hid h2; have H3 := hid h3; have H4 := hid h4; have HB := hid hb
  clear h1 h2 h3 h4 hb
  go_wp2_with (refine wpList_load_row rfl 41 _ rfl w.heap.size rfl _ _ _ _ H1.out Tryd.underlying41 rfl (by kernel_rfl) ?_)
  refine (object_any x hx l aL nL cL W0 hal2).mono ?_
  rintro e w1 ⟨s, rfl, hm, hf, hb1⟩
  dsimp only
  have SM := hid (objRaw_small x l)
  generalize objRaw x l = O at *
  have SN : Hid (O.names.length ≤ 10) := SM.out.1
  have SL : Hid (O.links.length ≤ 10) := SM.out.2.1
  have SC : Hid (O.custom.length ≤ 10) := SM.out.2.2
  have HM := hid hm; have HF := hid hf; have HB1 := hid hb1
  clear hm hf hb1 SM H1 hal2 HAL
  go_upto_region 2 with (first | (refine wpList_alloc_obj rfl 35 rfl _ oZeroO ?_) | (refine wpList_store_obj rfl 35 _ _ rfl _ rfl _ rfl _ _ (block_new _ _) rfl (by rw [objCells_size]; exact oSizeO) (oc_one _ _) ?_; intro w6 hb6 hc6 hs6; have HB6 := hid hb6; have HC6 := hid hc6; clear hb6 hc6 hs6))
  have hb6 : Below w1.heap.size w1 w6 := ((Below.refl _ _).alloc (Nat.le_refl _) _).trans (HC6.out.below (fun k hk => by rw [List.mem_singleton.1 hk]; exact Nat.le_refl _) (by simp))
  have S : Hid (BtSt O s w b w1.heap.size w6) := by
    have hs1 := HB1.out.size
    have h4 := H4.out
    have hbb := HB.out
    refine ⟨(hb6.block _ (by omega)).trans ((HB1.out.block _ (by omega)).trans H2.out), HB6.out, HM.out.below hb6, fun k hk => ?_, H3.out.trans ((HB1.out.trans (hb6.mono hs1)).mono (by omega)), by omega⟩
    have h1 := HF.out k hk
    have h2 := HM.out.lt k hk
    omega
  clear hb6 HB6 HC6 HM HF HB1 H2 H3 H4 HB
  generalize w1.heap.size = ob at *
  go_wp2_with fail
  refine (pick_any z0 24 _ (by omega) (by omega)).mono ?_
  rintro e u ⟨rfl, rfl⟩
  dsimp only
  have hp := pick_lo z0 24 (by omega)
  have hp2 := pick_hi z0 24 (by omega)
  generalize pick z0 24 = p0 at *
  generalize w6 = W at *
  go_upto_block 0 with (fail)
  go_cut [] (fun wx => ∃ O' s', BtSt O' s' w b ob wx)
  case first =>
    have hc : p0 = 0 ∨ p0 = 1 ∨ p0 = 2 ∨ p0 = 3 ∨ p0 = 4 ∨ p0 = 5 ∨ p0 = 6 ∨ p0 = 7 ∨ p0 = 8 ∨ p0 = 9 ∨ p0 = 10 ∨ p0 = 11 ∨ 12 ≤ p0 := by omega
    clear hp hp2
    rcases hc with rfl | rfl | rfl | rfl | rfl | rfl | rfl | rfl | rfl | rfl | rfl | rfl | hge
    · have dd := S.out.cell (j := 0) (oc0 O s)
      have hfz := fun j => S.out.fz j
      go_wp2_with fail
      go_meet
      exact ⟨_, _, S.out.set 0 _ ((rfl : _ = objCells { O with id := ⟨#[]⟩ } s)) (S.out.m.data rfl rfl rfl rfl S.out.m.dl) S.out.foot⟩
    · have hwq := HWQ.out
      go_wp2_with fail
      clear hwq
      refine (pick_any (z0.tdiv 24) 10 _ (by omega) (by omega)).mono ?_
      rintro e u ⟨rfl, rfl⟩
      dsimp only
      have hp := pick_lo (z0.tdiv 24) 10 (by omega)
      have hp2 := pick_hi (z0.tdiv 24) 10 (by omega)
      generalize pick (z0.tdiv 24) 10 = y at *
      have dd := S.out.cell (j := 1) (oc1 O s)
      have hfz := fun j => S.out.fz j
      go_wp2_with fail
      go_meet
      exact ⟨_, _, S.out.set 1 _ ((rfl : _ = objCells { O with typ := y } s)) (S.out.m.data rfl rfl rfl rfl S.out.m.dl) S.out.foot⟩
    · have hwq := HWQ.out
      go_wp2_with fail
      clear hwq
      refine (pick_any (z0.tdiv 24) 9 _ (by omega) (by omega)).mono ?_
      rintro e u ⟨rfl, rfl⟩
      dsimp only
      have hp := pick_lo (z0.tdiv 24) 9 (by omega)
      have hp2 := pick_hi (z0.tdiv 24) 9 (by omega)
      generalize pick (z0.tdiv 24) 9 = y at *
      have dd := S.out.cell (j := 6) (oc6 O s)
      have hfz := fun j => S.out.fz j
      go_wp2_with fail
      go_meet
      exact ⟨_, _, S.out.set 6 _ (os6 O s _) (S.out.m.data rfl rfl rfl rfl S.out.m.dl) S.out.foot⟩
    · have hwq := HWQ.out
      go_wp2_with fail
      clear hwq
      refine (pick_any (z0.tdiv 24) 4 _ (by omega) (by omega)).mono ?_
      rintro e u ⟨rfl, rfl⟩
      dsimp only
      have hp := pick_lo (z0.tdiv 24) 4 (by omega)
      have hp2 := pick_hi (z0.tdiv 24) 4 (by omega)
      generalize pick (z0.tdiv 24) 4 = y at *
      have hs : IntKind.i64.wrap (1048574 + y) = 1048574 + y := IntWalk.i64_in _ (by omega)
      have dd := S.out.cell (j := 4) (oc4 O s)
      have hfz := fun j => S.out.fz j
      go_wp2_with fail
      go_meet
      exact ⟨_, _, S.out.set 4 _ ((rfl : _ = objCells { O with mask := 1048574 + y } s)) (S.out.m.data rfl rfl rfl rfl S.out.m.dl) S.out.foot⟩
    · have dd := S.out.cell (j := 14) (ocT O s 3 (by decide))
      have hfz := fun j => S.out.fz j
      go_wp2_with fail
      go_meet
      exact ⟨_, _, S.out.set 14 _ (osAt O s S.out.m.dl z0) (S.out.m.data rfl rfl rfl rfl (by rw [setDate_len]; exact S.out.m.dl)) S.out.foot⟩
    · have dd := S.out.cell (j := 28) (oc28 O s)
      have hfz := fun j => S.out.fz j
      go_wp2_with fail
      go_meet
      exact ⟨_, _, S.out.set 28 _ (os28 O s _) (S.out.m.data rfl rfl rfl rfl S.out.m.dl) S.out.foot⟩
    · obtain ⟨i, hi, hz0, hz1, hz2⟩ := info_parts oInfoS
      have hbs := fun w => noneS w
      have NL : Hid (s.names.n ≤ 10) := by
        have h1 := SN.out
        have h2 := S.out.m.names.len1
        simp at h2
        show _ ≤ _
        omega
      have dd := S.out.cell (j := 29) (oc29 O s)
      have dd0 := fun o => cell_alloc dd o
      go_wp2_with (first
       | (at_builtin; (refine wpList_append_c rfl _ _ 29 rfl W.heap.size 9 i _ 1 16 Tryd.underlying29 hi hz0 hz1 hz2 rfl (by decide) (.slice (some ⟨W.heap.size, 0, none⟩) 0 0) 0 [] rfl (own_none (block_new W _) (Nat.le_refl _)) _ s.names.n _ (O.names.map Value.string) rfl (S.out.m.names.rd.below ((Below.refl _ _).alloc (Nat.le_refl _) _)) (strs_one O.names) S.out.m.names.no (by unfold maxLen; have := NL.out; omega) (by have := NL.out; omega) (by simp) ?_); intro a1 c1 w1 hown hgw hfr; have hb1 : Below W.heap.size W w1 := ((Below.refl _ _).alloc (Nat.le_refl _) _).grown hgw (by simp) (by intro q hq; cases hq; exact Nat.le_refl _); simp only [Nat.zero_add, List.nil_append] at hown ⊢; have HO1 := hid hown; have HB1 := hid hb1; clear hown hgw hfr hb1)
       | (at_builtin; go_must (refine wpList_append_c rfl _ _ 29 rfl W.heap.size 9 i _ 1 16 Tryd.underlying29 hi hz0 hz1 hz2 rfl (by decide) (.slice a1 (s.names.n) c1) (s.names.n) _ rfl (((Chg.refl [] _).alloc _).owns HO1.out (fun k _ hm => by cases hm)) _ 1 _ [.string ⟨#[111, 110, 101]⟩] rfl (RdC.new _ _ _ _ [.string ⟨#[111, 110, 101]⟩] rfl 1 rfl _ (by simp)) (strs_one [⟨#[111, 110, 101]⟩]) (fun hx => by cases hx) (by unfold maxLen; have := NL.out; omega) (by have := NL.out; omega) (by have := HB1.out.size; simp; omega) ?_); intro a2 c2 w2 hown hgw hfr; have hb2 : Below W.heap.size W w2 := (HB1.out.alloc HB1.out.size _).grown hgw (by have := HB1.out.size; simp; omega) (fun q hq => (HO1.out.lt q hq).1); have HO2 := hid hown; have HB2 := hid hb2; have e2 := cell_later HB2.out dd; have hfz : ∀ j, w2.frozen? ⟨ob, j, none⟩ = false := fun j => frozen_of_block ((HB2.out.block _ (block_lt S.out.box)).trans S.out.box); clear hown hgw hfr hb2))
      go_meet
      have S2 := S.out.below HB2.out
      have hown : w2.ownsRow W.heap.size 9 1 (.slice a2 (s.names.n + 1) c2) (s.names.n + 1) ((O.names ++ [(⟨#[111, 110, 101]⟩ : ByteArray)]).map Value.string) := by
        rw [List.map_append]; exact HO2.out
      have hsl := SlR.of_own (s := ⟨a2, s.names.n + 1, c2⟩) hown (by have := NL.out; show s.names.n + 1 ≤ 140737488355328; omega)
      refine ⟨{ O with names := O.names ++ [(⟨#[111, 110, 101]⟩ : ByteArray)] }, { s with names := ⟨a2, s.names.n + 1, c2⟩ }, S2.set 29 _ (os29 O s a2 _ c2 : _ = objCells { O with names := O.names ++ [(⟨#[111, 110, 101]⟩ : ByteArray)] } { s with names := ⟨a2, s.names.n + 1, c2⟩ }) ?_ ?_⟩
      · exact ⟨S2.m.mat, hsl, S2.m.links, S2.m.custom, S2.m.dl⟩
      · intro k hk
        rcases mem_foot.1 hk with h | h | h | h
        · exact S.out.foot k (mem_foot.2 (.inl h))
        · exact S.out.fresh (blk_own (s := ⟨a2, s.names.n + 1, c2⟩) hown k h)
        · exact S.out.foot k (mem_foot.2 (.inr (.inr (.inl h))))
        · exact S.out.foot k (mem_foot.2 (.inr (.inr (.inr h))))
    · obtain ⟨i, hi, hz0, hz1, hz2⟩ := info_parts oInfoL
      have hbs := fun w => noneL w
      have NL : Hid (s.links.n ≤ 10) := by
        have h1 := SL.out
        have h2 := S.out.m.links.len2
        unfold linkCells at h2; rw [flat_len] at h2
        show _ ≤ _
        omega
      have dd := S.out.cell (j := 30) (oc30 O s)
      have dd0 := fun o => cell_alloc dd o
      have hwq := HWQ.out
      go_wp2_with (at_builtin; (refine wpList_append_c rfl _ _ 30 rfl W.heap.size 56 i _ 2 24 Tryd.underlying30 hi hz0 hz1 hz2 rfl (by decide) (.slice (some ⟨W.heap.size, 0, none⟩) 0 0) 0 [] rfl (own_none (block_new W _) (Nat.le_refl _)) _ s.links.n _ (linkCells O.links) rfl (S.out.m.links.rd.below ((Below.refl _ _).alloc (Nat.le_refl _) _)) (link_one O.links) S.out.m.links.no (by unfold maxLen; have := NL.out; omega) (by have := NL.out; omega) (by simp) ?_); intro a1 c1 w1 hown hgw hfr; have hb1 : Below W.heap.size W w1 := ((Below.refl _ _).alloc (Nat.le_refl _) _).grown hgw (by simp) (by intro q hq; cases hq; exact Nat.le_refl _); simp only [Nat.zero_add, List.nil_append] at hown ⊢; have HO1 := hid hown; have HB1 := hid hb1; clear hown hgw hfr hb1)
      clear hwq
      refine (pick_any (z0.tdiv 24) 13 _ (by omega) (by omega)).mono ?_
      rintro e u ⟨rfl, rfl⟩
      dsimp only
      have hp := pick_lo (z0.tdiv 24) 13 (by omega)
      have hp2 := pick_hi (z0.tdiv 24) 13 (by omega)
      generalize pick (z0.tdiv 24) 13 = y at *
      have hs : IntKind.i64.wrap (100 + y) = 100 + y := IntWalk.i64_in _ (by omega)
      go_wp2_with (at_builtin; go_must (refine wpList_append_c rfl _ _ 30 rfl W.heap.size 56 i _ 2 24 Tryd.underlying30 hi hz0 hz1 hz2 rfl (by decide) (.slice a1 (s.links.n) c1) (s.links.n) _ rfl (((Chg.refl [] _).alloc _).owns HO1.out (fun k _ hm => by cases hm)) _ 1 _ [.int .i64 (100 + y), .string ⟨#[49]⟩] rfl (RdC.new _ _ _ _ [.int .i64 (100 + y), .string ⟨#[49]⟩] rfl 2 rfl _ (by simp)) (link_one [(100 + y, ⟨#[49]⟩)]) (fun hx => by cases hx) (by unfold maxLen; have := NL.out; omega) (by have := NL.out; omega) (by have := HB1.out.size; simp; omega) ?_); intro a2 c2 w2 hown hgw hfr; have hb2 : Below W.heap.size W w2 := (HB1.out.alloc HB1.out.size _).grown hgw (by have := HB1.out.size; simp; omega) (fun q hq => (HO1.out.lt q hq).1); have HO2 := hid hown; have HB2 := hid hb2; have e2 := cell_later HB2.out dd; have hfz : ∀ j, w2.frozen? ⟨ob, j, none⟩ = false := fun j => frozen_of_block ((HB2.out.block _ (block_lt S.out.box)).trans S.out.box); clear hown hgw hfr hb2)
      go_meet
      have S2 := S.out.below HB2.out
      have hown : w2.ownsRow W.heap.size 56 2 (.slice a2 (s.links.n + 1) c2) (s.links.n + 1) (linkCells (O.links ++ [((100 + y, ⟨#[49]⟩) : Int × ByteArray)])) := by
        unfold linkCells; rw [List.flatMap_append]; exact HO2.out
      have hsl := SlR.of_own (s := ⟨a2, s.links.n + 1, c2⟩) hown (by have := NL.out; show s.links.n + 1 ≤ 140737488355328; omega)
      refine ⟨{ O with links := O.links ++ [((100 + y, ⟨#[49]⟩) : Int × ByteArray)] }, { s with links := ⟨a2, s.links.n + 1, c2⟩ }, S2.set 30 _ (os30 O s a2 _ c2 : _ = objCells { O with links := O.links ++ [((100 + y, ⟨#[49]⟩) : Int × ByteArray)] } { s with links := ⟨a2, s.links.n + 1, c2⟩ }) ?_ ?_⟩
      · exact ⟨S2.m.mat, S2.m.names, hsl, S2.m.custom, S2.m.dl⟩
      · intro k hk
        rcases mem_foot.1 hk with h | h | h | h
        · exact S.out.foot k (mem_foot.2 (.inl h))
        · exact S.out.foot k (mem_foot.2 (.inr (.inl h)))
        · exact S.out.fresh (blk_own (s := ⟨a2, s.links.n + 1, c2⟩) hown k h)
        · exact S.out.foot k (mem_foot.2 (.inr (.inr (.inr h))))
    · obtain ⟨i, hi, hz0, hz1, hz2⟩ := info_parts oInfoC
      have hbs := fun w => noneC w
      have NL : Hid (s.custom.n ≤ 10) := by
        have h1 := SC.out
        have h2 := S.out.m.custom.len2
        unfold custCells at h2; rw [flat_len] at h2
        show _ ≤ _
        omega
      have dd := S.out.cell (j := 31) (oc31 O s)
      have dd0 := fun o => cell_alloc dd o
      go_wp2_with (first
       | (at_builtin; (refine wpList_append_c rfl _ _ 31 rfl W.heap.size 58 i _ 2 32 Tryd.underlying31 hi hz0 hz1 hz2 rfl (by decide) (.slice (some ⟨W.heap.size, 0, none⟩) 0 0) 0 [] rfl (own_none (block_new W _) (Nat.le_refl _)) _ s.custom.n _ (custCells O.custom) rfl (S.out.m.custom.rd.below ((Below.refl _ _).alloc (Nat.le_refl _) _)) (cust_one O.custom) S.out.m.custom.no (by unfold maxLen; have := NL.out; omega) (by have := NL.out; omega) (by simp) ?_); intro a1 c1 w1 hown hgw hfr; have hb1 : Below W.heap.size W w1 := ((Below.refl _ _).alloc (Nat.le_refl _) _).grown hgw (by simp) (by intro q hq; cases hq; exact Nat.le_refl _); simp only [Nat.zero_add, List.nil_append] at hown ⊢; have HO1 := hid hown; have HB1 := hid hb1; clear hown hgw hfr hb1)
       | (at_builtin; go_must (refine wpList_append_c rfl _ _ 31 rfl W.heap.size 58 i _ 2 32 Tryd.underlying31 hi hz0 hz1 hz2 rfl (by decide) (.slice a1 (s.custom.n) c1) (s.custom.n) _ rfl (((Chg.refl [] _).alloc _).owns HO1.out (fun k _ hm => by cases hm)) _ 1 _ [.string ⟨#[120, 45, 98]⟩, .string ⟨#[111, 110, 101]⟩] rfl (RdC.new _ _ _ _ [.string ⟨#[120, 45, 98]⟩, .string ⟨#[111, 110, 101]⟩] rfl 2 rfl _ (by simp)) (cust_one [(⟨#[120, 45, 98]⟩, ⟨#[111, 110, 101]⟩)]) (fun hx => by cases hx) (by unfold maxLen; have := NL.out; omega) (by have := NL.out; omega) (by have := HB1.out.size; simp; omega) ?_); intro a2 c2 w2 hown hgw hfr; have hb2 : Below W.heap.size W w2 := (HB1.out.alloc HB1.out.size _).grown hgw (by have := HB1.out.size; simp; omega) (fun q hq => (HO1.out.lt q hq).1); have HO2 := hid hown; have HB2 := hid hb2; have e2 := cell_later HB2.out dd; have hfz : ∀ j, w2.frozen? ⟨ob, j, none⟩ = false := fun j => frozen_of_block ((HB2.out.block _ (block_lt S.out.box)).trans S.out.box); clear hown hgw hfr hb2))
      go_meet
      have S2 := S.out.below HB2.out
      have hown : w2.ownsRow W.heap.size 58 2 (.slice a2 (s.custom.n + 1) c2) (s.custom.n + 1) (custCells (O.custom ++ [((⟨#[120, 45, 98]⟩, ⟨#[111, 110, 101]⟩) : ByteArray × ByteArray)])) := by
        unfold custCells; rw [List.flatMap_append]; exact HO2.out
      have hsl := SlR.of_own (s := ⟨a2, s.custom.n + 1, c2⟩) hown (by have := NL.out; show s.custom.n + 1 ≤ 140737488355328; omega)
      refine ⟨{ O with custom := O.custom ++ [((⟨#[120, 45, 98]⟩, ⟨#[111, 110, 101]⟩) : ByteArray × ByteArray)] }, { s with custom := ⟨a2, s.custom.n + 1, c2⟩ }, S2.set 31 _ (os31 O s a2 _ c2 : _ = objCells { O with custom := O.custom ++ [((⟨#[120, 45, 98]⟩, ⟨#[111, 110, 101]⟩) : ByteArray × ByteArray)] } { s with custom := ⟨a2, s.custom.n + 1, c2⟩ }) ?_ ?_⟩
      · exact ⟨S2.m.mat, S2.m.names, S2.m.links, hsl, S2.m.dl⟩
      · intro k hk
        rcases mem_foot.1 hk with h | h | h | h
        · exact S.out.foot k (mem_foot.2 (.inl h))
        · exact S.out.foot k (mem_foot.2 (.inr (.inl h)))
        · exact S.out.foot k (mem_foot.2 (.inr (.inr (.inl h))))
        · exact S.out.fresh (blk_own (s := ⟨a2, s.custom.n + 1, c2⟩) hown k h)
    · have hwq := HWQ.out
      go_wp2_with fail
      clear hwq
      refine (pick_any (z0.tdiv 24) 70 _ (by omega) (by omega)).mono ?_
      rintro e u ⟨rfl, rfl⟩
      dsimp only
      have hp := pick_lo (z0.tdiv 24) 70 (by omega)
      have hp2 := pick_hi (z0.tdiv 24) 70 (by omega)
      generalize pick (z0.tdiv 24) 70 = y at *
      have dd := S.out.cell (j := 34) (oc34 O s)
      have hfz := fun j => S.out.fz j
      go_wp2_with fail
      go_meet
      exact ⟨_, _, S.out.set 34 _ ((rfl : _ = objCells { O with count := y } s)) (S.out.m.data rfl rfl rfl rfl S.out.m.dl) S.out.foot⟩
    · obtain ⟨i, hi, hz0, hz1, hz2⟩ := info_parts infoB
      have dd := S.out.cell (j := 5) (oc5 O s)
      have hwq := HWQ.out
      go_wp2_with fail
      clear hwq
      refine (pick_any (z0.tdiv 24) 5 _ (by omega) (by omega)).mono ?_
      rintro e u ⟨rfl, rfl⟩
      dsimp only
      have hp := pick_lo (z0.tdiv 24) 5 (by omega)
      have hp2 := pick_hi (z0.tdiv 24) 5 (by omega)
      generalize pick (z0.tdiv 24) 5 = y at *
      obtain ⟨k, rfl⟩ := Int.eq_ofNat_of_zero_le hp
      obtain ⟨m, hm⟩ : ∃ m : Nat, m = 126 + k := ⟨_, rfl⟩
      have hs : IntKind.i64.wrap (126 + (k : Int)) = (m : Int) := by rw [IntWalk.i64_in _ (by omega)]; omega
      have hmm : m ≤ 131 := by omega
      clear hm hp hp2
      go_wp2_with (at_make; refine wpList_make_full _ rfl _ _ 22 rfl W.heap.size 5 i _ 1 Tryd.underlying22 hi hz0 hz1 .i64 .i64 _ _ m rfl rfl rfl rfl (by rw [hz2]; omega) (by unfold maxLen; omega) (Nat.le_refl _) ?_; intro w2 hown hg; rw [made_bytes] at hown; have HB2 : Hid (Below W.heap.size W w2) := (Below.refl _ _).grown hg (Nat.le_refl _) (fun k h => by cases h); have HO2 := hid hown; clear hown hg; have e2 := cell_later HB2.out dd; have hfz : ∀ j, w2.frozen? ⟨ob, j, none⟩ = false := fun j => frozen_of_block ((HB2.out.block _ (block_lt S.out.box)).trans S.out.box))
      go_meet
      have S2 := S.out.below HB2.out
      have hsl := SlR.of_own (s := ⟨some ⟨W.heap.size, 0, none⟩, m, m⟩) HO2.out (by show m ≤ 140737488355328; omega)
      refine ⟨{ O with mat := List.replicate m 0 }, { s with mat := ⟨some ⟨W.heap.size, 0, none⟩, m, m⟩ }, S2.set 5 _ (os5 O s (some ⟨W.heap.size, 0, none⟩) m m : _ = objCells { O with mat := List.replicate m 0 } { s with mat := ⟨some ⟨W.heap.size, 0, none⟩, m, m⟩ }) ?_ ?_⟩
      · exact ⟨hsl, S2.m.names, S2.m.links, S2.m.custom, S2.m.dl⟩
      · intro k hk
        rcases mem_foot.1 hk with h | h | h | h
        · exact S.out.fresh (blk_own (s := ⟨some ⟨W.heap.size, 0, none⟩, m, m⟩) HO2.out k h)
        · exact S.out.foot k (mem_foot.2 (.inr (.inl h)))
        · exact S.out.foot k (mem_foot.2 (.inr (.inr (.inl h))))
        · exact S.out.foot k (mem_foot.2 (.inr (.inr (.inr h))))
    · have hwq := HWQ.out
      go_wp2_with fail
      clear hwq
      refine (pick_any (z0.tdiv 24) 3 _ (by omega) (by omega)).mono ?_
      rintro e u ⟨rfl, rfl⟩
      dsimp only
      have hp := pick_lo (z0.tdiv 24) 3 (by omega)
      have hp2 := pick_hi (z0.tdiv 24) 3 (by omega)
      generalize pick (z0.tdiv 24) 3 = y at *
      have hs : IntKind.i64.wrap (99 + y) = 99 + y := IntWalk.i64_in _ (by omega)
      have dd := S.out.cell (j := 2) (oc2 O s)
      have hfz := fun j => S.out.fz j
      go_wp2_with fail
      go_meet
      exact ⟨_, _, S.out.set 2 _ ((rfl : _ = objCells { O with alg := 99 + y } s)) (S.out.m.data rfl rfl rfl rfl S.out.m.dl) S.out.foot⟩
    · have n0 : (p0 == 0) = false := by simp; omega
      have n1 : (p0 == 1) = false := by simp; omega
      have n2 : (p0 == 2) = false := by simp; omega
      have n3 : (p0 == 3) = false := by simp; omega
      have n4 : (p0 == 4) = false := by simp; omega
      have n5 : (p0 == 5) = false := by simp; omega
      have n6 : (p0 == 6) = false := by simp; omega
      have n7 : (p0 == 7) = false := by simp; omega
      have n8 : (p0 == 8) = false := by simp; omega
      have n9 : (p0 == 9) = false := by simp; omega
      have n10 : (p0 == 10) = false := by simp; omega
      have n11 : (p0 == 11) = false := by simp; omega
      go_wp2_with fail
      go_meet
      exact ⟨_, _, S.out⟩
  case rest =>
    obtain ⟨O', s', hs⟩ := hcut
    clear S
    have S := hid hs
    clear hs
    go_wp2_with (first | (refine wpList_load_row rfl 35 _ rfl ob rfl _ _ _ _ S.out.box Tryd.underlying35 rfl (by rw [objCells_size]; exact oSizeO) ?_) | (refine wpList_store_obj rfl 35 _ _ rfl b rfl _ rfl _ _ S.out.res rfl (by rw [objCells_size]; exact oSizeO) (oc_one _ _) ?_; intro w9 hb9 hc9 hs9; have HB9 := hid hb9; have HC9 := hid hc9; clear hb9 hc9 hs9))
    refine bodyPost_ret (results_cell_row rfl _ _ b _ _ _ _ rfl HB9.out Tryd.underlying35 rfl (by rw [objCells_size]; exact oSizeO)) rfl ?_
    exact ⟨O', s', rfl, S.out.m.keep HC9.out (fun k hk hm => (S.out.foot k hk).2.2 (List.mem_singleton.1 hm)), fun k hk => (S.out.foot k hk).1, S.out.bel.trans (HC9.out.below (fun k hk => by rw [List.mem_singleton.1 hk]; exact S.out.lt.1) (by have := block_lt S.out.res; have := S.out.lt.1; omega))⟩
end Go.Proofs.YtdlkobmlnpijgaaDoor
