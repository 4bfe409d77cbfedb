/- life: revocable, Revoke; utf8.ValidString of two texts. -/
import Derived.Test.YtgenbpndphdgnaaDoorActs
import Derived.Deep.DeepMust
namespace Go.Proofs.YtgenbpndphdgnaaDoor
open Go.RowKit
set_option linter.unusedVariables false
set_option linter.unusedSimpArgs false
set_option maxRecDepth 100000
set_option maxHeartbeats 4000000

def revocB (st r : Int) : Bool := if st = 2 then true else if st = 1 ∨ st = 3 ∨ st = 5 then r == 2 else false
theorem revocable_any (a b : Int) (w : World) : Calls Tryd.prog 25 #[.int .i64 a, .int .i64 b] w fun e w' => e = .returned (.bool (revocB a b)) ∧ w = w' := by
  go_enter Tryd.func25, Tryd.ntmps25
  go_wp2
  all_goals (go_ret; exact ⟨bool_ret (by simp_all [revocB]), rfl⟩)
/-- An object's box, a date's, a result's room. -/
structure Box3 (T D : TypeId) (O : ObjD) (s : ObjV) (d : Bool × Int) (w W : World) (b : Nat) : Prop where
  obj : W.heap[b]? = some (.cells (objCells O s) T (0, 0))
  occ : W.heap[b + 1]? = some (.cells #[.bool d.1, .int .i64 d.2] D (0, 0))
  res : W.heap[b + 1 + 1]? = some (.cells (objCells zObj zObjV) T (0, 0))
  bel : Below b w W
  size : b + 3 ≤ W.heap.size
theorem box3_start {T D : TypeId} {O : ObjD} {s : ObjV} {d : Bool × Int} {w : World} {b : Nat} (hb : w.heap.size = b) :
    Box3 T D O s d w (((w.alloc (.cells (objCells O s) T)).alloc (.cells #[.bool d.1, .int .i64 d.2] D)).alloc (.cells (objCells zObj zObjV) T)) b := by
  subst hb
  have h0 := block_new w (.cells (objCells O s) T)
  have s0 : (w.alloc (.cells (objCells O s) T)).heap.size = w.heap.size + 1 := by simp
  have c0 : Below w.heap.size w (w.alloc (.cells (objCells O s) T)) := (Below.refl _ _).alloc (Nat.le_refl _) _
  generalize w.alloc (.cells (objCells O s) T) = W1 at *
  have h1 := block_new W1 (.cells #[.bool d.1, .int .i64 d.2] D)
  have s1 : (W1.alloc (.cells #[.bool d.1, .int .i64 d.2] D)).heap.size = W1.heap.size + 1 := by simp
  have c1 : Below W1.heap.size W1 (W1.alloc (.cells #[.bool d.1, .int .i64 d.2] D)) := (Below.refl _ _).alloc (Nat.le_refl _) _
  generalize W1.alloc (.cells #[.bool d.1, .int .i64 d.2] D) = W2 at *
  have h2 := block_new W2 (.cells (objCells zObj zObjV) T)
  have s2 : (W2.alloc (.cells (objCells zObj zObjV) T)).heap.size = W2.heap.size + 1 := by simp
  have c2 : Below W2.heap.size W2 (W2.alloc (.cells (objCells zObj zObjV) T)) := (Below.refl _ _).alloc (Nat.le_refl _) _
  generalize W2.alloc (.cells (objCells zObj zObjV) T) = W3 at *
  rw [s0] at h1 s1 c1
  rw [s1] at h2 s2 c2
  exact ⟨(c2.block _ (by omega)).trans ((c1.block _ (by omega)).trans h0), (c2.block _ (by omega)).trans h1, h2, c0.trans ((c1.mono (by omega)).trans (c2.mono (by omega))), by omega⟩
section
variable {T D : TypeId} {O O' : ObjD} {s s' : ObjV} {d d' : Bool × Int} {w W W' : World} {b : Nat}
theorem Box3.below (h : Box3 T D O s d w W b) (hb : Below W.heap.size W W') : Box3 T D O s d w W' b :=
  ⟨(hb.block _ (block_lt h.obj)).trans h.obj, (hb.block _ (block_lt h.occ)).trans h.occ, (hb.block _ (block_lt h.res)).trans h.res, h.bel.trans (hb.mono (by have := h.size; omega)), Nat.le_trans h.size hb.size⟩
theorem Box3.store (h : Box3 T D O s d w W b) (h1 : W'.heap[b]? = some (.cells (objCells O' s') T (0, 0))) (hc : Chg [b] W W') : Box3 T D O' s' d w W' b :=
  ⟨h1, (hc.block _ (block_lt h.occ) (by simp)).trans h.occ, (hc.block _ (block_lt h.res) (by simp; try omega)).trans h.res, h.bel.trans (hc.below (fun k hk => by rw [List.mem_singleton.1 hk]; exact Nat.le_refl _) (by have := h.size; omega)), Nat.le_trans h.size hc.size⟩
theorem Box3.storeD (h : Box3 T D O s d w W b) (h1 : W'.heap[b + 1]? = some (.cells #[.bool d'.1, .int .i64 d'.2] D (0, 0))) (hc : Chg [b + 1] W W') : Box3 T D O s d' w W' b :=
  ⟨(hc.block _ (block_lt h.obj) (by simp)).trans h.obj, h1, (hc.block _ (block_lt h.res) (by simp; try omega)).trans h.res, h.bel.trans (hc.below (fun k hk => by rw [List.mem_singleton.1 hk]; omega) (by have := h.size; omega)), Nat.le_trans h.size hc.size⟩
theorem Box3.cell (h : Box3 T D O s d w W b) {j : Nat} {v : Value} (hv : (objCells O s)[j]? = some v) : W.cell? ⟨b, j, none⟩ = some v := cell_of_block h.obj hv
theorem Box3.fz (h : Box3 T D O s d w W b) (j : Nat) : W.frozen? ⟨b, j, none⟩ = false := frozen_of_block h.obj
theorem Box3.set (h : Box3 T D O s d w W b) (j : Nat) (v : Value) (he : (objCells O s).setIfInBounds j v = objCells O' s') : Box3 T D O' s' d w (W.setCell ⟨b, j, none⟩ v) b :=
  h.store (he ▸ block_setCell h.obj v) ((Chg.refl [b] W).setCell (.inl (by simp)) v)
theorem Box3.date (h : Box3 T D O s d w W b) (hl : O.dates.length = 10) (i : Nat) (hi : i < 10) (x : Bool) (t : Int) : Box3 T D (O.setDate i (x, t)) s d w ((W.setCell ⟨b, 7 + i * 2, none⟩ (.bool x)).setCell ⟨b, 7 + i * 2 + 1, none⟩ (.int .i64 t)) b := by
  refine h.store ?_ (((Chg.refl [b] W).setCell (.inl (by simp)) _).setCell (.inl (by simp)) _)
  rw [← osD O s hl i hi]
  exact block_setCell (block_setCell h.obj _) _
end
/-- Two dates laid one behind the other among other operations. -/
def DX (T : TypeId) (b : Nat) (s : ObjV) (O0 O1 O2 : ObjD) (listed : Array Bool) (w : World) : Prop :=
  w.heap[b]? = some (.cells (objCells (if listed.getD 8 false = true then O2 else if listed.getD 5 false = true then O1 else O0) s) T (0, 0))
theorem dgetD_set_ne {a : Array Bool} {i j : Nat} (h : i ≠ j) : (a.setIfInBounds i true).getD j false = a.getD j false := by
  simp only [Array.getD_eq_getD_getElem?]
  rw [Array.getElem?_setIfInBounds_ne h]
section
variable {T : TypeId} {b : Nat} {s : ObjV} {O0 O1 O2 : ObjD} {listed : Array Bool} {w w' : World} {i : Nat}
theorem DX.start (h : w.heap[b]? = some (.cells (objCells O0 s) T (0, 0))) (n : Nat) : DX T b s O0 O1 O2 (Array.replicate n false) w.drew := by
  have e : ∀ k, (Array.replicate n false).getD k false = false := fun k => by simp only [Array.getD_eq_getD_getElem?]; rcases Nat.lt_or_ge k n with h' | h' <;> simp [h', Nat.not_lt.2]
  unfold DX
  rw [e, e]
  exact h
theorem DX.same (h : DX T b s O0 O1 O2 listed w) (hi : (i != 5 && i != 8) = true) : DX T b s O0 O1 O2 (listed.setIfInBounds i true) w := by
  simp only [Bool.and_eq_true, bne_iff_ne, ne_eq] at hi
  unfold DX at *
  rw [dgetD_set_ne hi.2, dgetD_set_ne hi.1]
  exact h
theorem DX.pass (h : DX T b s O0 O1 O2 listed w) (hb : w'.heap[b]? = w.heap[b]?) : DX T b s O0 O1 O2 listed w' := by
  unfold DX at *
  rw [hb]; exact h
theorem DX.lt (h : DX T b s O0 O1 O2 listed w) : b < w.heap.size := block_lt h
theorem DX.old (h : DX T b s O0 O1 O2 listed w) (h1 : listed.getD 5 false = false) (h2 : listed.getD 8 false = false) : w.heap[b]? = some (.cells (objCells O0 s) T (0, 0)) := by
  unfold DX at h; rw [h1, h2] at h; exact h
theorem DX.mid (h : DX T b s O0 O1 O2 listed w) (h1 : listed.getD 5 false = true) (h2 : listed.getD 8 false = false) : w.heap[b]? = some (.cells (objCells O1 s) T (0, 0)) := by
  unfold DX at h; rw [h1, h2] at h; exact h
theorem DX.fin (h : DX T b s O0 O1 O2 listed w) (h2 : listed.getD 8 false = true) : w.heap[b]? = some (.cells (objCells O2 s) T (0, 0)) := by
  unfold DX at h; rw [h2] at h; exact h
theorem DX.one (hi : 5 < listed.size) (h2 : listed.getD 8 false = false) (h : w.heap[b]? = some (.cells (objCells O1 s) T (0, 0))) : DX T b s O0 O1 O2 (listed.setIfInBounds 5 true) w := by
  unfold DX
  rw [dgetD_set_ne (by decide), h2, show (listed.setIfInBounds 5 true).getD 5 false = true by simp [hi]]
  exact h
theorem DX.two (hi : 8 < listed.size) (h : w.heap[b]? = some (.cells (objCells O2 s) T (0, 0))) : DX T b s O0 O1 O2 (listed.setIfInBounds 8 true) w := by
  unfold DX
  rw [show (listed.setIfInBounds 8 true).getD 8 false = true by simp [hi]]
  exact h
theorem date_block {O : ObjD} (h : w.heap[b]? = some (.cells (objCells O s) T (0, 0))) (hl : O.dates.length = 10) (i : Nat) (hi : i < 10) (x : Bool) (t : Int) :
    ((w.setCell ⟨b, 7 + i * 2, none⟩ (.bool x)).setCell ⟨b, 7 + i * 2 + 1, none⟩ (.int .i64 t)).heap[b]? = some (.cells (objCells (O.setDate i (x, t)) s) T (0, 0)) := by
  rw [← osD O s hl i hi]
  exact block_setCell (block_setCell h _) _
end
theorem chg1_trans {b : Nat} (x y z : World) (h : Chg [b] x y) (k : Chg [b] y z) : Chg [b] x z := h.trans k (fun k hk => .inl hk)
theorem rev_field (O : ObjD) (s : ObjV) (r now : Int) (msg : ByteArray) (w : World) (h : ObjM w O s) (hr7 : 7 < r) :
    Calls Tryd.prog 10 #[.agg (objCells O s), .int .i64 r, .string msg, .agg #[.bool false, .int .i64 0], .int .i64 now] w (ActRes w.heap.size w (zObj, 7)) := by
  have H := hid h; clear h
  generalize hbe : w.heap.size = b
  have HBE := hid hbe; clear hbe
  go_enter Tryd.func10, Tryd.ntmps10
  go_upto_region 1 with (refine wpList_alloc_obj rfl 35 rfl _ oZeroO ?_)
  go_simp
  have B0 := hid (box3_start (T := 35) (D := 27) (O := O) (s := s) (d := (false, 0)) (w := w) HBE.out)
  simp only at B0
  have hO := H.out.below (B0.out.bel.mono (by rw [HBE.out]; exact Nat.le_refl _))
  rw [HBE.out]
  generalize ((w.alloc (.cells (objCells O s) 35)).alloc (.cells #[.bool false, .int .i64 0] 27)).alloc (.cells (objCells zObj zObjV) 35) = W at *
  have HO := hid hO
  clear hO H
  have k0 : W.cell? ⟨b + 1, 0, none⟩ = some (.bool false) := cell_of_block (j := 0) B0.out.occ rfl
  have k1 : W.cell? ⟨b + 1, 1, none⟩ = some (.int .i64 0) := cell_of_block (j := 1) B0.out.occ rfl
  have hd1 : decide (r < 1) = false := by simpa using (by omega : 1 ≤ r)
  have hd7 : decide (7 < r) = true := by simpa using hr7
  go_upto_region 2 with (fail)
  go_wp2_with (first | (refine wpList_build_obj rfl 35 _ rfl #[] (by simp [Act.eval]) _ (buildZ _) ?_) | (refine wpList_store_obj rfl 35 _ _ rfl (b + 1 + 1) rfl _ rfl _ _ B0.out.res rfl (by rw [objCells_size]; exact oSizeO) (oc_one _ _) ?_; intro w6 hb6 hc6 hs6; have HB6 := hid hb6; have HC6 := hid hc6; clear hb6 hc6 hs6) | go_in)
  refine bodyPost_ret (results_obj_tmp rfl _ _ (b + 1 + 1) _ _ _ _ rfl HB6.out Tryd.underlying35 rfl (by rw [objCells_size]; exact oSizeO) _ rfl) rfl ?_
  exact ⟨zObjV, rfl, ObjM.zero _, (fun k hk => by simp [zObjV, ObjV.foot, Sl.blk] at hk), B0.out.bel.trans (HC6.out.below (fun k hk => by rw [List.mem_singleton.1 hk]; omega) (by have := B0.out.size; omega))⟩
theorem rev_archN (O : ObjD) (s : ObjV) (r now : Int) (msg : ByteArray) (w : World) (h : ObjM w O s) (hr1 : 1 ≤ r) (hr7 : r ≤ 7) (hm : msg.size ≤ 120) (hv : ∀ w, Calls Tryd.prog 24 #[.string msg] w fun e w' => e = .returned (.bool true) ∧ w = w') (ha : O.arch = true) :
    Calls Tryd.prog 10 #[.agg (objCells O s), .int .i64 r, .string msg, .agg #[.bool false, .int .i64 0], .int .i64 now] w (ActRes w.heap.size w (zObj, 13)) := by
  have H := hid h; clear h
  generalize hbe : w.heap.size = b
  have HBE := hid hbe; clear hbe
  go_enter Tryd.func10, Tryd.ntmps10
  go_upto_region 1 with (refine wpList_alloc_obj rfl 35 rfl _ oZeroO ?_)
  go_simp
  have B0 := hid (box3_start (T := 35) (D := 27) (O := O) (s := s) (d := (false, 0)) (w := w) HBE.out)
  simp only at B0
  have hO := H.out.below (B0.out.bel.mono (by rw [HBE.out]; exact Nat.le_refl _))
  rw [HBE.out]
  generalize ((w.alloc (.cells (objCells O s) 35)).alloc (.cells #[.bool false, .int .i64 0] 27)).alloc (.cells (objCells zObj zObjV) 35) = W at *
  have HO := hid hO
  clear hO H
  have k0 : W.cell? ⟨b + 1, 0, none⟩ = some (.bool false) := cell_of_block (j := 0) B0.out.occ rfl
  have k1 : W.cell? ⟨b + 1, 1, none⟩ = some (.int .i64 0) := cell_of_block (j := 1) B0.out.occ rfl
  have hd1 : decide (r < 1) = false := by simpa using hr1
  have hd7 : decide (7 < r) = false := by simpa using hr7
  have hdl : decide (120 < (msg.size : Int)) = false := by simp; omega
  have HV := hid hv; clear hv
  have hc36 := B0.out.cell (oc36 O s)
  rw [ha] at hc36
  go_upto_region 3 with (go_at_call 24; refine (HV.out _).mono ?_; rintro e u ⟨rfl, rfl⟩)
  go_wp2_with (first | (refine wpList_build_obj rfl 35 _ rfl #[] (by simp [Act.eval]) _ (buildZ _) ?_) | (refine wpList_store_obj rfl 35 _ _ rfl (b + 1 + 1) rfl _ rfl _ _ B0.out.res rfl (by rw [objCells_size]; exact oSizeO) (oc_one _ _) ?_; intro w6 hb6 hc6 hs6; have HB6 := hid hb6; have HC6 := hid hc6; clear hb6 hc6 hs6) | go_in)
  refine bodyPost_ret (results_obj_tmp rfl _ _ (b + 1 + 1) _ _ _ _ rfl HB6.out Tryd.underlying35 rfl (by rw [objCells_size]; exact oSizeO) _ rfl) rfl ?_
  exact ⟨zObjV, rfl, ObjM.zero _, (fun k hk => by simp [zObjV, ObjV.foot, Sl.blk] at hk), B0.out.bel.trans (HC6.out.below (fun k hk => by rw [List.mem_singleton.1 hk]; omega) (by have := B0.out.size; omega))⟩
theorem rev_notN (O : ObjD) (s : ObjV) (r now : Int) (msg : ByteArray) (w : World) (h : ObjM w O s) (hr1 : 1 ≤ r) (hr7 : r ≤ 7) (hm : msg.size ≤ 120) (hv : ∀ w, Calls Tryd.prog 24 #[.string msg] w fun e w' => e = .returned (.bool true) ∧ w = w') (ha : O.arch = false) (hrv : revocB O.st r = false) :
    Calls Tryd.prog 10 #[.agg (objCells O s), .int .i64 r, .string msg, .agg #[.bool false, .int .i64 0], .int .i64 now] w (ActRes w.heap.size w (zObj, 11)) := by
  have H := hid h; clear h
  generalize hbe : w.heap.size = b
  have HBE := hid hbe; clear hbe
  go_enter Tryd.func10, Tryd.ntmps10
  go_upto_region 1 with (refine wpList_alloc_obj rfl 35 rfl _ oZeroO ?_)
  go_simp
  have B0 := hid (box3_start (T := 35) (D := 27) (O := O) (s := s) (d := (false, 0)) (w := w) HBE.out)
  simp only at B0
  have hO := H.out.below (B0.out.bel.mono (by rw [HBE.out]; exact Nat.le_refl _))
  rw [HBE.out]
  generalize ((w.alloc (.cells (objCells O s) 35)).alloc (.cells #[.bool false, .int .i64 0] 27)).alloc (.cells (objCells zObj zObjV) 35) = W at *
  have HO := hid hO
  clear hO H
  have k0 : W.cell? ⟨b + 1, 0, none⟩ = some (.bool false) := cell_of_block (j := 0) B0.out.occ rfl
  have k1 : W.cell? ⟨b + 1, 1, none⟩ = some (.int .i64 0) := cell_of_block (j := 1) B0.out.occ rfl
  have hd1 : decide (r < 1) = false := by simpa using hr1
  have hd7 : decide (7 < r) = false := by simpa using hr7
  have hdl : decide (120 < (msg.size : Int)) = false := by simp; omega
  have HV := hid hv; clear hv
  have HRV := hid hrv; clear hrv
  have hc36 := B0.out.cell (oc36 O s)
  have hc6 := B0.out.cell (oc6 O s)
  rw [ha] at hc36
  go_upto_region 3 with (go_at_call 24; refine (HV.out _).mono ?_; rintro e u ⟨rfl, rfl⟩)
  go_wp2_with (first | (go_at_call 25; refine (revocable_any _ _ _).mono ?_; rintro e u ⟨rfl, rfl⟩; rw [HRV.out]) | (refine wpList_build_obj rfl 35 _ rfl #[] (by simp [Act.eval]) _ (buildZ _) ?_) | (refine wpList_store_obj rfl 35 _ _ rfl (b + 1 + 1) rfl _ rfl _ _ B0.out.res rfl (by rw [objCells_size]; exact oSizeO) (oc_one _ _) ?_; intro w6 hb6 hc6 hs6; have HB6 := hid hb6; have HC6 := hid hc6; clear hb6 hc6 hs6) | go_in)
  refine bodyPost_ret (results_obj_tmp rfl _ _ (b + 1 + 1) _ _ _ _ rfl HB6.out Tryd.underlying35 rfl (by rw [objCells_size]; exact oSizeO) _ rfl) rfl ?_
  exact ⟨zObjV, rfl, ObjM.zero _, (fun k hk => by simp [zObjV, ObjV.foot, Sl.blk] at hk), B0.out.bel.trans (HC6.out.below (fun k hk => by rw [List.mem_singleton.1 hk]; omega) (by have := B0.out.size; omega))⟩
theorem rev_archH (O : ObjD) (s : ObjV) (r ot now : Int) (msg : ByteArray) (w : World) (h : ObjM w O s) (hr1 : 1 ≤ r) (hr7 : r ≤ 7) (hm : msg.size ≤ 120) (hv : ∀ w, Calls Tryd.prog 24 #[.string msg] w fun e w' => e = .returned (.bool true) ∧ w = w') (hot : ot ≤ now) (ha : O.arch = true) :
    Calls Tryd.prog 10 #[.agg (objCells O s), .int .i64 r, .string msg, .agg #[.bool true, .int .i64 ot], .int .i64 now] w (ActRes w.heap.size w (zObj, 13)) := by
  have H := hid h; clear h
  generalize hbe : w.heap.size = b
  have HBE := hid hbe; clear hbe
  go_enter Tryd.func10, Tryd.ntmps10
  go_upto_region 1 with (refine wpList_alloc_obj rfl 35 rfl _ oZeroO ?_)
  go_simp
  have B0 := hid (box3_start (T := 35) (D := 27) (O := O) (s := s) (d := (true, ot)) (w := w) HBE.out)
  simp only at B0
  have hO := H.out.below (B0.out.bel.mono (by rw [HBE.out]; exact Nat.le_refl _))
  rw [HBE.out]
  generalize ((w.alloc (.cells (objCells O s) 35)).alloc (.cells #[.bool true, .int .i64 ot] 27)).alloc (.cells (objCells zObj zObjV) 35) = W at *
  have HO := hid hO
  clear hO H
  have k0 : W.cell? ⟨b + 1, 0, none⟩ = some (.bool true) := cell_of_block (j := 0) B0.out.occ rfl
  have k1 : W.cell? ⟨b + 1, 1, none⟩ = some (.int .i64 ot) := cell_of_block (j := 1) B0.out.occ rfl
  have hd1 : decide (r < 1) = false := by simpa using hr1
  have hd7 : decide (7 < r) = false := by simpa using hr7
  have hdl : decide (120 < (msg.size : Int)) = false := by simp; omega
  have HV := hid hv; clear hv
  have hdo : decide (now < ot) = false := by simpa using hot
  have hc36 := B0.out.cell (oc36 O s)
  rw [ha] at hc36
  go_upto_region 3 with (go_at_call 24; refine (HV.out _).mono ?_; rintro e u ⟨rfl, rfl⟩)
  go_wp2_with (first | (refine wpList_build_obj rfl 35 _ rfl #[] (by simp [Act.eval]) _ (buildZ _) ?_) | (refine wpList_store_obj rfl 35 _ _ rfl (b + 1 + 1) rfl _ rfl _ _ B0.out.res rfl (by rw [objCells_size]; exact oSizeO) (oc_one _ _) ?_; intro w6 hb6 hc6 hs6; have HB6 := hid hb6; have HC6 := hid hc6; clear hb6 hc6 hs6) | go_in)
  refine bodyPost_ret (results_obj_tmp rfl _ _ (b + 1 + 1) _ _ _ _ rfl HB6.out Tryd.underlying35 rfl (by rw [objCells_size]; exact oSizeO) _ rfl) rfl ?_
  exact ⟨zObjV, rfl, ObjM.zero _, (fun k hk => by simp [zObjV, ObjV.foot, Sl.blk] at hk), B0.out.bel.trans (HC6.out.below (fun k hk => by rw [List.mem_singleton.1 hk]; omega) (by have := B0.out.size; omega))⟩
theorem rev_notH (O : ObjD) (s : ObjV) (r ot now : Int) (msg : ByteArray) (w : World) (h : ObjM w O s) (hr1 : 1 ≤ r) (hr7 : r ≤ 7) (hm : msg.size ≤ 120) (hv : ∀ w, Calls Tryd.prog 24 #[.string msg] w fun e w' => e = .returned (.bool true) ∧ w = w') (hot : ot ≤ now) (ha : O.arch = false) (hrv : revocB O.st r = false) :
    Calls Tryd.prog 10 #[.agg (objCells O s), .int .i64 r, .string msg, .agg #[.bool true, .int .i64 ot], .int .i64 now] w (ActRes w.heap.size w (zObj, 11)) := by
  have H := hid h; clear h
  generalize hbe : w.heap.size = b
  have HBE := hid hbe; clear hbe
  go_enter Tryd.func10, Tryd.ntmps10
  go_upto_region 1 with (refine wpList_alloc_obj rfl 35 rfl _ oZeroO ?_)
  go_simp
  have B0 := hid (box3_start (T := 35) (D := 27) (O := O) (s := s) (d := (true, ot)) (w := w) HBE.out)
  simp only at B0
  have hO := H.out.below (B0.out.bel.mono (by rw [HBE.out]; exact Nat.le_refl _))
  rw [HBE.out]
  generalize ((w.alloc (.cells (objCells O s) 35)).alloc (.cells #[.bool true, .int .i64 ot] 27)).alloc (.cells (objCells zObj zObjV) 35) = W at *
  have HO := hid hO
  clear hO H
  have k0 : W.cell? ⟨b + 1, 0, none⟩ = some (.bool true) := cell_of_block (j := 0) B0.out.occ rfl
  have k1 : W.cell? ⟨b + 1, 1, none⟩ = some (.int .i64 ot) := cell_of_block (j := 1) B0.out.occ rfl
  have hd1 : decide (r < 1) = false := by simpa using hr1
  have hd7 : decide (7 < r) = false := by simpa using hr7
  have hdl : decide (120 < (msg.size : Int)) = false := by simp; omega
  have HV := hid hv; clear hv
  have hdo : decide (now < ot) = false := by simpa using hot
  have HRV := hid hrv; clear hrv
  have hc36 := B0.out.cell (oc36 O s)
  have hc6 := B0.out.cell (oc6 O s)
  rw [ha] at hc36
  go_upto_region 3 with (go_at_call 24; refine (HV.out _).mono ?_; rintro e u ⟨rfl, rfl⟩)
  go_wp2_with (first | (go_at_call 25; refine (revocable_any _ _ _).mono ?_; rintro e u ⟨rfl, rfl⟩; rw [HRV.out]) | (refine wpList_build_obj rfl 35 _ rfl #[] (by simp [Act.eval]) _ (buildZ _) ?_) | (refine wpList_store_obj rfl 35 _ _ rfl (b + 1 + 1) rfl _ rfl _ _ B0.out.res rfl (by rw [objCells_size]; exact oSizeO) (oc_one _ _) ?_; intro w6 hb6 hc6 hs6; have HB6 := hid hb6; have HC6 := hid hc6; clear hb6 hc6 hs6) | go_in)
  refine bodyPost_ret (results_obj_tmp rfl _ _ (b + 1 + 1) _ _ _ _ rfl HB6.out Tryd.underlying35 rfl (by rw [objCells_size]; exact oSizeO) _ rfl) rfl ?_
  exact ⟨zObjV, rfl, ObjM.zero _, (fun k hk => by simp [zObjV, ObjV.foot, Sl.blk] at hk), B0.out.bel.trans (HC6.out.below (fun k hk => by rw [List.mem_singleton.1 hk]; omega) (by have := B0.out.size; omega))⟩
theorem rev_okN (O : ObjD) (s : ObjV) (r now : Int) (msg : ByteArray) (w : World) (h : ObjM w O s) (hr1 : 1 ≤ r) (hr7 : r ≤ 7) (hm : msg.size ≤ 120) (hv : ∀ w, Calls Tryd.prog 24 #[.string msg] w fun e w' => e = .returned (.bool true) ∧ w = w') (ha : O.arch = false) (hrv : revocB O.st r = true) (hr2 : r ≠ 2) :
    Calls Tryd.prog 10 #[.agg (objCells O s), .int .i64 r, .string msg, .agg #[.bool false, .int .i64 0], .int .i64 now] w (ActRes w.heap.size w ({ (O.setDate 9 (true, now)).setDate 4 (true, now) with reason := r, msg := msg, st := 3 }, 0)) := by
  have H := hid h; clear h
  generalize hbe : w.heap.size = b
  have HBE := hid hbe; clear hbe
  go_enter Tryd.func10, Tryd.ntmps10
  go_upto_region 1 with (refine wpList_alloc_obj rfl 35 rfl _ oZeroO ?_)
  go_simp
  have B0 := hid (box3_start (T := 35) (D := 27) (O := O) (s := s) (d := (false, 0)) (w := w) HBE.out)
  simp only at B0
  have hO := H.out.below (B0.out.bel.mono (by rw [HBE.out]; exact Nat.le_refl _))
  rw [HBE.out]
  generalize ((w.alloc (.cells (objCells O s) 35)).alloc (.cells #[.bool false, .int .i64 0] 27)).alloc (.cells (objCells zObj zObjV) 35) = W at *
  have HO := hid hO
  clear hO H
  have k0 : W.cell? ⟨b + 1, 0, none⟩ = some (.bool false) := cell_of_block (j := 0) B0.out.occ rfl
  have k1 : W.cell? ⟨b + 1, 1, none⟩ = some (.int .i64 0) := cell_of_block (j := 1) B0.out.occ rfl
  have hd1 : decide (r < 1) = false := by simpa using hr1
  have hd7 : decide (7 < r) = false := by simpa using hr7
  have hdl : decide (120 < (msg.size : Int)) = false := by simp; omega
  have HV := hid hv; clear hv
  have HRV := hid hrv; clear hrv
  have hc36 := B0.out.cell (oc36 O s)
  have hc6 := B0.out.cell (oc6 O s)
  rw [ha] at hc36
  go_upto_region 3 with (go_at_call 24; refine (HV.out _).mono ?_; rintro e u ⟨rfl, rfl⟩)
  go_wp2_with (first | (go_at_call 25; refine (revocable_any _ _ _).mono ?_; rintro e u ⟨rfl, rfl⟩; rw [HRV.out]) | (refine wpList_load_row rfl 35 _ rfl b rfl _ _ _ _ B0.out.obj Tryd.underlying35 rfl (by rw [objCells_size]; exact oSizeO) ?_) | fail)
  refine (change_any O s now _ HO.out).mono ?_
  rintro e w2 ⟨s2, rfl, hm2, hf2, hb2⟩
  have B2 := hid (B0.out.below hb2)
  have HM2 := hid hm2
  have HF2 := hid (fun k hk => Nat.le_trans B0.out.size (hf2 k hk))
  clear hm2 hf2 hb2 B0 HO k0 k1 hc36 hc6 HV HRV hd1 hd7 hdl
  go_upto_region 8 with (refine wpList_store_obj rfl 35 _ _ rfl b rfl _ rfl _ _ B2.out.obj rfl (by rw [objCells_size]; exact oSizeO) (oc_one _ _) ?_; intro w3 hb3 hc3 hs3; have B3 := hid (B2.out.store hb3 hc3); have HM3 := hid (HM2.out.keep hc3 (fun k hk hm => by have := HF2.out k hk; have := List.mem_singleton.1 hm; omega)); clear hb3 hc3 hs3)
  clear B2 HM2
  have hst : (O.setDate 9 (true, now)).st = O.st := rfl
  generalize hO1 : O.setDate 9 (true, now) = O1 at *
  have hfz := B3.out.fz
  have c27 := B3.out.cell (oc27 O1 s2)
  have c28 := B3.out.cell (oc28 O1 s2)
  have B4 := hid ((B3.out.set 27 (.int .i64 r) (os27 O1 s2 r)).set 28 (.string msg) (os28 _ s2 msg))
  have HM4 := hid (HM3.out.keep (((Chg.refl [b] w3).setCell (p := ⟨b, 27, none⟩) (.inl (by simp)) (.int .i64 r)).setCell (p := ⟨b, 28, none⟩) (.inl (by simp)) (.string msg)) (fun k hk hm => by have := HF2.out k hk; have := List.mem_singleton.1 hm; omega))
  go_upto_region 10 with (fail)
  clear hfz c27 c28 B3 HM3
  generalize (w3.setCell ⟨b, 27, none⟩ (.int .i64 r)).setCell ⟨b, 28, none⟩ (.string msg) = w4 at *
  have HDL := hid HM4.out.dl
  have HM4 := hid (HM4.out.data (O' := { O1 with reason := r, msg := msg }) rfl rfl rfl rfl HDL.out)
  have hne : (r == 2) = false := by simpa using hr2
  go_wp2_with fail
  refine (at_any now _).mono ?_
  rintro e w5 ⟨rfl, hb5⟩
  have b5 := B4.out.below hb5
  have HM5 := hid (HM4.out.below hb5)
  clear hb5 B4 HM4 hne
  have hfz := b5.fz
  have c6 := b5.cell (oc6 _ s2)
  have c15 := b5.cell (j := 15) rfl
  have c16 := b5.cell (j := 16) rfl
  have B5 := hid ((b5.set 6 (.int .i64 3) (os6 _ s2 3)).date HDL.out 4 (by decide) true now)
  have HM5 := hid (HM5.out.keep (((((Chg.refl [b] w5).setCell (p := ⟨b, 6, none⟩) (.inl (by simp)) (.int .i64 3))).setCell (p := ⟨b, 15, none⟩) (.inl (by simp)) (.bool true)).setCell (p := ⟨b, 16, none⟩) (.inl (by simp)) (.int .i64 now)) (fun k hk hm => by have := HF2.out k hk; have := List.mem_singleton.1 hm; omega))
  clear b5
  go_upto_region 12 with (fail)
  simp only [Nat.reduceMul, Nat.reduceAdd] at B5
  generalize ((w5.setCell ⟨b, 6, none⟩ (.int .i64 3)).setCell ⟨b, 15, none⟩ (.bool true)).setCell ⟨b, 16, none⟩ (.int .i64 now) = w7 at *
  clear hfz c6 c15 c16
  have HM6 := hid (HM5.out.data (O' := { O1.setDate 4 (true, now) with reason := r, msg := msg, st := 3 }) rfl rfl rfl rfl (by have := HDL.out; simpa [ObjD.setDate] using this))
  clear HM5
  go_wp2_with (first | (refine wpList_load_row rfl 35 _ rfl b rfl _ _ _ _ B5.out.obj Tryd.underlying35 rfl (by rw [objCells_size]; exact oSizeO) ?_) | (refine wpList_store_obj rfl 35 _ _ rfl (b + 1 + 1) rfl _ rfl _ _ B5.out.res rfl (by rw [objCells_size]; exact oSizeO) (oc_one _ _) ?_; intro w6 hb6 hc6 hs6; have HB6 := hid hb6; have HC6 := hid hc6; clear hb6 hc6 hs6) | go_in)
  refine bodyPost_ret (results_obj_tmp rfl _ _ (b + 1 + 1) _ _ _ _ rfl HB6.out Tryd.underlying35 rfl (by rw [objCells_size]; exact oSizeO) _ rfl) rfl ?_
  refine ⟨s2, rfl, HM6.out.keep HC6.out (fun k hk hm => by have := HF2.out k hk; have := List.mem_singleton.1 hm; omega), fun k hk => by have := HF2.out k hk; omega, ?_⟩
  exact B5.out.bel.trans (HC6.out.below (fun k hk => by rw [List.mem_singleton.1 hk]; omega) (by have := B5.out.size; omega))
theorem rev_okH (O : ObjD) (s : ObjV) (r ot now : Int) (msg : ByteArray) (w : World) (h : ObjM w O s) (hr1 : 1 ≤ r) (hr7 : r ≤ 7) (hm : msg.size ≤ 120) (hv : ∀ w, Calls Tryd.prog 24 #[.string msg] w fun e w' => e = .returned (.bool true) ∧ w = w') (hot : ot ≤ now) (ha : O.arch = false) (hrv : revocB O.st r = true) (hr2 : r ≠ 2) :
    Calls Tryd.prog 10 #[.agg (objCells O s), .int .i64 r, .string msg, .agg #[.bool true, .int .i64 ot], .int .i64 now] w (ActRes w.heap.size w ({ (O.setDate 9 (true, now)).setDate 4 (true, now) with reason := r, msg := msg, st := 3 }, 0)) := by
  have H := hid h; clear h
  generalize hbe : w.heap.size = b
  have HBE := hid hbe; clear hbe
  go_enter Tryd.func10, Tryd.ntmps10
  go_upto_region 1 with (refine wpList_alloc_obj rfl 35 rfl _ oZeroO ?_)
  go_simp
  have B0 := hid (box3_start (T := 35) (D := 27) (O := O) (s := s) (d := (true, ot)) (w := w) HBE.out)
  simp only at B0
  have hO := H.out.below (B0.out.bel.mono (by rw [HBE.out]; exact Nat.le_refl _))
  rw [HBE.out]
  generalize ((w.alloc (.cells (objCells O s) 35)).alloc (.cells #[.bool true, .int .i64 ot] 27)).alloc (.cells (objCells zObj zObjV) 35) = W at *
  have HO := hid hO
  clear hO H
  have k0 : W.cell? ⟨b + 1, 0, none⟩ = some (.bool true) := cell_of_block (j := 0) B0.out.occ rfl
  have k1 : W.cell? ⟨b + 1, 1, none⟩ = some (.int .i64 ot) := cell_of_block (j := 1) B0.out.occ rfl
  have hd1 : decide (r < 1) = false := by simpa using hr1
  have hd7 : decide (7 < r) = false := by simpa using hr7
  have hdl : decide (120 < (msg.size : Int)) = false := by simp; omega
  have HV := hid hv; clear hv
  have hdo : decide (now < ot) = false := by simpa using hot
  have HRV := hid hrv; clear hrv
  have hc36 := B0.out.cell (oc36 O s)
  have hc6 := B0.out.cell (oc6 O s)
  rw [ha] at hc36
  go_upto_region 3 with (go_at_call 24; refine (HV.out _).mono ?_; rintro e u ⟨rfl, rfl⟩)
  go_wp2_with (first | (go_at_call 25; refine (revocable_any _ _ _).mono ?_; rintro e u ⟨rfl, rfl⟩; rw [HRV.out]) | (refine wpList_load_row rfl 35 _ rfl b rfl _ _ _ _ B0.out.obj Tryd.underlying35 rfl (by rw [objCells_size]; exact oSizeO) ?_) | fail)
  refine (change_any O s now _ HO.out).mono ?_
  rintro e w2 ⟨s2, rfl, hm2, hf2, hb2⟩
  have B2 := hid (B0.out.below hb2)
  have HM2 := hid hm2
  have HF2 := hid (fun k hk => Nat.le_trans B0.out.size (hf2 k hk))
  clear hm2 hf2 hb2 B0 HO k0 k1 hc36 hc6 HV HRV hd1 hd7 hdl hdo
  go_upto_region 8 with (refine wpList_store_obj rfl 35 _ _ rfl b rfl _ rfl _ _ B2.out.obj rfl (by rw [objCells_size]; exact oSizeO) (oc_one _ _) ?_; intro w3 hb3 hc3 hs3; have B3 := hid (B2.out.store hb3 hc3); have HM3 := hid (HM2.out.keep hc3 (fun k hk hm => by have := HF2.out k hk; have := List.mem_singleton.1 hm; omega)); clear hb3 hc3 hs3)
  clear B2 HM2
  have hst : (O.setDate 9 (true, now)).st = O.st := rfl
  generalize hO1 : O.setDate 9 (true, now) = O1 at *
  have hfz := B3.out.fz
  have c27 := B3.out.cell (oc27 O1 s2)
  have c28 := B3.out.cell (oc28 O1 s2)
  have B4 := hid ((B3.out.set 27 (.int .i64 r) (os27 O1 s2 r)).set 28 (.string msg) (os28 _ s2 msg))
  have HM4 := hid (HM3.out.keep (((Chg.refl [b] w3).setCell (p := ⟨b, 27, none⟩) (.inl (by simp)) (.int .i64 r)).setCell (p := ⟨b, 28, none⟩) (.inl (by simp)) (.string msg)) (fun k hk hm => by have := HF2.out k hk; have := List.mem_singleton.1 hm; omega))
  go_upto_region 10 with (fail)
  clear hfz c27 c28 B3 HM3
  generalize (w3.setCell ⟨b, 27, none⟩ (.int .i64 r)).setCell ⟨b, 28, none⟩ (.string msg) = w4 at *
  have HDL := hid HM4.out.dl
  have HM4 := hid (HM4.out.data (O' := { O1 with reason := r, msg := msg }) rfl rfl rfl rfl HDL.out)
  have hne : (r == 2) = false := by simpa using hr2
  go_wp2_with fail
  refine (at_any now _).mono ?_
  rintro e w5 ⟨rfl, hb5⟩
  have b5 := B4.out.below hb5
  have HM5 := hid (HM4.out.below hb5)
  clear hb5 B4 HM4 hne
  have hfz := b5.fz
  have c6 := b5.cell (oc6 _ s2)
  have c15 := b5.cell (j := 15) rfl
  have c16 := b5.cell (j := 16) rfl
  have B5 := hid ((b5.set 6 (.int .i64 3) (os6 _ s2 3)).date HDL.out 4 (by decide) true now)
  have HM5 := hid (HM5.out.keep (((((Chg.refl [b] w5).setCell (p := ⟨b, 6, none⟩) (.inl (by simp)) (.int .i64 3))).setCell (p := ⟨b, 15, none⟩) (.inl (by simp)) (.bool true)).setCell (p := ⟨b, 16, none⟩) (.inl (by simp)) (.int .i64 now)) (fun k hk hm => by have := HF2.out k hk; have := List.mem_singleton.1 hm; omega))
  clear b5
  go_upto_region 12 with (fail)
  simp only [Nat.reduceMul, Nat.reduceAdd] at B5
  generalize ((w5.setCell ⟨b, 6, none⟩ (.int .i64 3)).setCell ⟨b, 15, none⟩ (.bool true)).setCell ⟨b, 16, none⟩ (.int .i64 now) = w7 at *
  clear hfz c6 c15 c16
  have HM6 := hid (HM5.out.data (O' := { O1.setDate 4 (true, now) with reason := r, msg := msg, st := 3 }) rfl rfl rfl rfl (by have := HDL.out; simpa [ObjD.setDate] using this))
  clear HM5
  go_wp2_with (first | (refine wpList_load_row rfl 35 _ rfl b rfl _ _ _ _ B5.out.obj Tryd.underlying35 rfl (by rw [objCells_size]; exact oSizeO) ?_) | (refine wpList_store_obj rfl 35 _ _ rfl (b + 1 + 1) rfl _ rfl _ _ B5.out.res rfl (by rw [objCells_size]; exact oSizeO) (oc_one _ _) ?_; intro w6 hb6 hc6 hs6; have HB6 := hid hb6; have HC6 := hid hc6; clear hb6 hc6 hs6) | go_in)
  refine bodyPost_ret (results_obj_tmp rfl _ _ (b + 1 + 1) _ _ _ _ rfl HB6.out Tryd.underlying35 rfl (by rw [objCells_size]; exact oSizeO) _ rfl) rfl ?_
  refine ⟨s2, rfl, HM6.out.keep HC6.out (fun k hk hm => by have := HF2.out k hk; have := List.mem_singleton.1 hm; omega), fun k hk => by have := HF2.out k hk; omega, ?_⟩
  exact B5.out.bel.trans (HC6.out.below (fun k hk => by rw [List.mem_singleton.1 hk]; omega) (by have := B5.out.size; omega))
theorem rev_twoN (O : ObjD) (s : ObjV) (now : Int) (msg : ByteArray) (w : World) (h : ObjM w O s) (hm : msg.size ≤ 120) (hv : ∀ w, Calls Tryd.prog 24 #[.string msg] w fun e w' => e = .returned (.bool true) ∧ w = w') (ha : O.arch = false) (hrv : revocB O.st 2 = true) (h5 : O.st ≠ 5) :
    Calls Tryd.prog 10 #[.agg (objCells O s), .int .i64 2, .string msg, .agg #[.bool false, .int .i64 0], .int .i64 now] w (ActRes w.heap.size w ({ ((O.setDate 9 (true, now)).setDate 7 (true, now)).setDate 6 ((O.setDate 9 (true, now)).dat 0) with reason := 2, msg := msg, st := 4 }, 0)) := by
  have H := hid h; clear h
  generalize hbe : w.heap.size = b
  have HBE := hid hbe; clear hbe
  go_enter Tryd.func10, Tryd.ntmps10
  go_upto_region 1 with (refine wpList_alloc_obj rfl 35 rfl _ oZeroO ?_)
  go_simp
  have B0 := hid (box3_start (T := 35) (D := 27) (O := O) (s := s) (d := (false, 0)) (w := w) HBE.out)
  simp only at B0
  have hO := H.out.below (B0.out.bel.mono (by rw [HBE.out]; exact Nat.le_refl _))
  rw [HBE.out]
  generalize ((w.alloc (.cells (objCells O s) 35)).alloc (.cells #[.bool false, .int .i64 0] 27)).alloc (.cells (objCells zObj zObjV) 35) = W at *
  have HO := hid hO
  clear hO H
  have k0 : W.cell? ⟨b + 1, 0, none⟩ = some (.bool false) := cell_of_block (j := 0) B0.out.occ rfl
  have k1 : W.cell? ⟨b + 1, 1, none⟩ = some (.int .i64 0) := cell_of_block (j := 1) B0.out.occ rfl
  have hd1 : True := trivial
  have hd7 : True := trivial
  have hdl : decide (120 < (msg.size : Int)) = false := by simp; omega
  have HV := hid hv; clear hv
  have H5 := hid h5; clear h5
  have HRV := hid hrv; clear hrv
  have hc36 := B0.out.cell (oc36 O s)
  have hc6 := B0.out.cell (oc6 O s)
  rw [ha] at hc36
  go_upto_region 3 with (go_at_call 24; refine (HV.out _).mono ?_; rintro e u ⟨rfl, rfl⟩)
  go_wp2_with (first | (go_at_call 25; refine (revocable_any _ _ _).mono ?_; rintro e u ⟨rfl, rfl⟩; rw [HRV.out]) | (refine wpList_load_row rfl 35 _ rfl b rfl _ _ _ _ B0.out.obj Tryd.underlying35 rfl (by rw [objCells_size]; exact oSizeO) ?_) | fail)
  refine (change_any O s now _ HO.out).mono ?_
  rintro e w2 ⟨s2, rfl, hm2, hf2, hb2⟩
  have B2 := hid (B0.out.below hb2)
  have HM2 := hid hm2
  have HF2 := hid (fun k hk => Nat.le_trans B0.out.size (hf2 k hk))
  clear hm2 hf2 hb2 B0 HO k0 k1 hc36 hc6 HV HRV hd1 hd7 hdl
  go_upto_region 8 with (refine wpList_store_obj rfl 35 _ _ rfl b rfl _ rfl _ _ B2.out.obj rfl (by rw [objCells_size]; exact oSizeO) (oc_one _ _) ?_; intro w3 hb3 hc3 hs3; have B3 := hid (B2.out.store hb3 hc3); have HM3 := hid (HM2.out.keep hc3 (fun k hk hm => by have := HF2.out k hk; have := List.mem_singleton.1 hm; omega)); clear hb3 hc3 hs3)
  clear B2 HM2
  have hst : (O.setDate 9 (true, now)).st = O.st := rfl
  generalize hO1 : O.setDate 9 (true, now) = O1 at *
  have hfz := B3.out.fz
  have c27 := B3.out.cell (oc27 O1 s2)
  have c28 := B3.out.cell (oc28 O1 s2)
  have B4 := hid ((B3.out.set 27 (.int .i64 2) (os27 O1 s2 2)).set 28 (.string msg) (os28 _ s2 msg))
  have HM4 := hid (HM3.out.keep (((Chg.refl [b] w3).setCell (p := ⟨b, 27, none⟩) (.inl (by simp)) (.int .i64 2)).setCell (p := ⟨b, 28, none⟩) (.inl (by simp)) (.string msg)) (fun k hk hm => by have := HF2.out k hk; have := List.mem_singleton.1 hm; omega))
  go_upto_region 10 with (fail)
  clear hfz c27 c28 B3 HM3
  generalize (w3.setCell ⟨b, 27, none⟩ (.int .i64 2)).setCell ⟨b, 28, none⟩ (.string msg) = w4 at *
  have HDL := hid HM4.out.dl
  have HM4 := hid (HM4.out.data (O' := { O1 with reason := 2, msg := msg }) rfl rfl rfl rfl HDL.out)
  have h5 := H5.out
  have c6 := B4.out.cell (oc6 _ s2)
  rw [show ({ O1 with reason := 2, msg := msg } : ObjD).st = O.st from hst] at c6
  have hn5 : (O.st == 5) = false := by simpa using h5
  clear h5
  have hfz := B4.out.fz
  have B5 := hid (B4.out.set 6 (.int .i64 4) (os6 _ s2 4))
  have HM5 := hid (HM4.out.keep ((Chg.refl [b] w4).setCell (p := ⟨b, 6, none⟩) (.inl (by simp)) (.int .i64 4)) (fun k hk hm => by have := HF2.out k hk; have := List.mem_singleton.1 hm; omega))
  go_upto_region 15 with (fail)
  clear hfz c6 B4 HM4 hn5
  generalize w4.setCell ⟨b, 6, none⟩ (.int .i64 4) = w5 at *
  have HM5 := hid (HM5.out.data (O' := { O1 with reason := 2, msg := msg, st := 4 }) rfl rfl rfl rfl HDL.out)
  have k0 : w5.cell? ⟨b + 1, 0, none⟩ = some (.bool false) := cell_of_block (j := 0) B5.out.occ rfl
  have k1 : w5.cell? ⟨b + 1, 1, none⟩ = some (.int .i64 0) := cell_of_block (j := 1) B5.out.occ rfl
  have hfz : ∀ j, w5.frozen? ⟨b + 1, j, none⟩ = false := fun j => frozen_of_block B5.out.occ
  have c7 : w5.cell? ⟨b, 7, none⟩ = some (.bool (O1.dat 0).1) := B5.out.cell (j := 7) rfl
  have c8 : w5.cell? ⟨b, 8, none⟩ = some (.int .i64 (O1.dat 0).2) := B5.out.cell (j := 8) rfl
  generalize hd0 : O1.dat 0 = d0 at *
  obtain ⟨oh, ot⟩ := d0
  simp only at c7 c8
  have B7 := hid (B5.out.storeD (d' := (oh, ot)) (W' := (w5.setCell ⟨b + 1, 0, none⟩ (.bool oh)).setCell ⟨b + 1, 1, none⟩ (.int .i64 ot)) (by
    have := block_setCell (j := 1) (block_setCell (j := 0) B5.out.occ (.bool oh)) (.int .i64 ot)
    exact this) (((Chg.refl [b + 1] w5).setCell (.inl (by simp)) _).setCell (.inl (by simp)) _))
  have HM7 := hid (HM5.out.keep (((Chg.refl [b + 1] w5).setCell (p := ⟨b + 1, 0, none⟩) (.inl (by simp)) (.bool oh)).setCell (p := ⟨b + 1, 1, none⟩) (.inl (by simp)) (.int .i64 ot)) (fun k hk hm => by have := HF2.out k hk; have := List.mem_singleton.1 hm; omega))
  go_upto_region 17 with (fail)
  clear hfz k0 k1 c7 c8
  generalize (w5.setCell ⟨b + 1, 0, none⟩ (.bool oh)).setCell ⟨b + 1, 1, none⟩ (.int .i64 ot) = w7 at *
  clear B5 HM5
  have HL0 := hid HDL.out
  refine wp_region_eachX (m := 9) (Chg [b]) [.eq (.int .i64 now), .eq (.agg #[.bool true, .int .i64 now]), .eq (.agg #[.bool oh, .int .i64 ot]), .eq (.pointer (some ⟨b, 7, none⟩)), .eq (.pointer (some ⟨b, 21, none⟩)), .eq (undef), .eq (.pointer (some ⟨b, 7, none⟩)), .eq (.pointer (some ⟨b, 19, none⟩)), .eq (undef)] (DX 35 b s2 { O1 with reason := 2, msg := msg, st := 4 } { O1.setDate 7 (true, now) with reason := 2, msg := msg, st := 4 } { (O1.setDate 7 (true, now)).setDate 6 (oh, ot) with reason := 2, msg := msg, st := 4 }) (by kernel_rfl) (by kernel_rfl) (by kernel_rfl) (by kernel_rfl) (chg1_trans) (by exact (Chg.refl _ _).drew) (by exact DX.start B7.out.obj 9) ?_ ?_
  · as_aux_lemma =>
      refine each_c (o' := _) ?_ (each_c (o' := _) ?_ (each_c (o' := _) ?_ (each_c (o' := _) ?_ (each_c (o' := _) ?_ (each_c (o' := _) ?_ (each_c (o' := _) ?_ (each_c (o' := _) ?_ (each_c (o' := _) ?_ (each_n)))))))))
      -- 0: move t4
      · intro w1 hg listed up hx Ar seen
        have s4 := seen.slot 4 (v := .int .i64 now) (by kernel_rfl) rfl
        refine doesY_plain rfl fun K Q' hK => ?_
        go_simp; exact hK _ _ (Chg.refl _ _) (hx.same (by kernel_rfl)) rfl
      -- 1: call fn23<life.at> [t89] T[2]
      · intro w1 hg listed up hx Ar seen
        obtain ⟨v0, e0, h0⟩ := seen.dep 0 (d := 89) (by kernel_rfl) (by kernel_rfl) rfl
        rcases h0 with rfl
        refine doesY_plain rfl fun K Q' hK => ?_
        go_simp
        refine (at_any now _).mono ?_
        rintro e u ⟨rfl, hb⟩
        exact hK _ _ (Chg.of_below hb _) ((hx.pass (hb.block _ hx.lt)).same (by kernel_rfl)) rfl
      -- 2: load 27 t8
      · intro w1 hg listed up hx Ar seen
        have s8 := seen.slot 8 (v := .pointer (some ⟨b + 1, 0, none⟩)) (by kernel_rfl) rfl
        refine doesY_plain rfl fun K Q' hK => ?_
        have hq := (hg.block _ (block_lt B7.out.occ) (by simp)).trans B7.out.occ; have q0 := cell_of_block (j := 0) hq rfl; have q1 := cell_of_block (j := 1) hq rfl; simp only at q0 q1; clear hq
        go_simp; exact hK _ _ (Chg.refl _ _) (hx.same (by kernel_rfl)) rfl
      -- 3: fieldAddr 35 t5 7
      · intro w1 hg listed up hx Ar seen
        have s5 := seen.slot 5 (v := .pointer (some ⟨b, 0, none⟩)) (by kernel_rfl) rfl
        refine doesY_plain rfl fun K Q' hK => ?_
        go_simp; exact hK _ _ (Chg.refl _ _) (hx.same (by kernel_rfl)) rfl
      -- 4: indexAddr 28 t92 7:i64
      · intro w1 hg listed up hx Ar seen
        obtain ⟨v3, e3, h3⟩ := seen.dep 3 (d := 92) (by kernel_rfl) (by kernel_rfl) rfl
        rcases h3 with rfl
        refine doesY_plain rfl fun K Q' hK => ?_
        go_simp; exact hK _ _ (Chg.refl _ _) (hx.same (by kernel_rfl)) rfl
      -- 5: store 27 t93 t90
      · intro w1 hg listed up hx Ar seen
        obtain ⟨v1, e1, h1⟩ := seen.dep 1 (d := 90) (by kernel_rfl) (by kernel_rfl) rfl
        rcases h1 with rfl
        obtain ⟨v4, e4, h4⟩ := seen.dep 4 (d := 93) (by kernel_rfl) (by kernel_rfl) rfl
        rcases h4 with rfl
        refine doesY_plain rfl fun K Q' hK => ?_
        have ho := hx.old up.self (up.later 8 (by kernel_rfl))
        have c21 := cell_of_block (j := 21) ho rfl
        have c22 := cell_of_block (j := 22) ho rfl
        have hf : ∀ j, w1.frozen? ⟨b, j, none⟩ = false := fun j => frozen_of_block ho
        have hn := date_block ho HDL.out 7 (by decide) true now
        simp only [Nat.reduceMul, Nat.reduceAdd] at hn
        clear ho
        go_simp
        exact hK undef _ (((Chg.refl [b] w1).setCell (.inl (by simp)) _).setCell (.inl (by simp)) _) (DX.one (by rw [up.size]; decide) (up.later 8 (by kernel_rfl)) hn) rfl
      -- 6: fieldAddr 35 t5 7
      · intro w1 hg listed up hx Ar seen
        have s5 := seen.slot 5 (v := .pointer (some ⟨b, 0, none⟩)) (by kernel_rfl) rfl
        refine doesY_plain rfl fun K Q' hK => ?_
        go_simp; exact hK _ _ (Chg.refl _ _) (hx.same (by kernel_rfl)) rfl
      -- 7: indexAddr 28 t94 6:i64
      · intro w1 hg listed up hx Ar seen
        obtain ⟨v6, e6, h6⟩ := seen.dep 6 (d := 94) (by kernel_rfl) (by kernel_rfl) rfl
        rcases h6 with rfl
        refine doesY_plain rfl fun K Q' hK => ?_
        go_simp; exact hK _ _ (Chg.refl _ _) (hx.same (by kernel_rfl)) rfl
      -- 8: store 27 t95 t91
      · intro w1 hg listed up hx Ar seen
        obtain ⟨v2, e2, h2⟩ := seen.dep 2 (d := 91) (by kernel_rfl) (by kernel_rfl) rfl
        rcases h2 with rfl
        obtain ⟨v7, e7, h7⟩ := seen.dep 7 (d := 95) (by kernel_rfl) (by kernel_rfl) rfl
        rcases h7 with rfl
        refine doesY_plain rfl fun K Q' hK => ?_
        have ho := hx.mid (up.did 5 (by decide)) up.self
        have c19 := cell_of_block (j := 19) ho rfl
        have c20 := cell_of_block (j := 20) ho rfl
        have hf : ∀ j, w1.frozen? ⟨b, j, none⟩ = false := fun j => frozen_of_block ho
        have hn := date_block ho (by have := HL0.out; simpa [ObjD.setDate] using this) 6 (by decide) oh ot
        simp only [Nat.reduceMul, Nat.reduceAdd] at hn
        clear ho
        go_simp
        exact hK undef _ (((Chg.refl [b] w1).setCell (.inl (by simp)) _).setCell (.inl (by simp)) _) (DX.two (by rw [up.size]; decide) hn) rfl
  intro w1 hg listed hl hx
  refine upon_w' (js := [0, 1, 2, 3, 4, 5, 6, 7, 8]) (by rfl) ?_
  refine upon_c (x := some 89) (by kernel_rfl) rfl fun v0 h0 => ?_
  rcases h0 with rfl
  refine upon_c (x := some 90) (by kernel_rfl) rfl fun v1 h1 => ?_
  rcases h1 with rfl
  refine upon_c (x := some 91) (by kernel_rfl) rfl fun v2 h2 => ?_
  rcases h2 with rfl
  refine upon_c (x := some 92) (by kernel_rfl) rfl fun v3 h3 => ?_
  rcases h3 with rfl
  refine upon_c (x := some 93) (by kernel_rfl) rfl fun v4 h4 => ?_
  rcases h4 with rfl
  refine upon_c (x := none) (by kernel_rfl) rfl fun v5 h5 => ?_
  rcases h5 with rfl
  refine upon_c (x := some 94) (by kernel_rfl) rfl fun v6 h6 => ?_
  rcases h6 with rfl
  refine upon_c (x := some 95) (by kernel_rfl) rfl fun v7 h7 => ?_
  rcases h7 with rfl
  refine upon_c (x := none) (by kernel_rfl) rfl fun v8 h8 => ?_
  rcases h8 with rfl
  refine upon_n ?_
  go_simp
  have B5 := hid (B7.out.store (hx.fin (hl 8 (by decide))) hg)
  have HM5 := hid (HM7.out.keep hg (fun k hk hm => by have := HF2.out k hk; have := List.mem_singleton.1 hm; omega))
  clear B7 HM7 hg hx hl
  have HM6 := hid (HM5.out.data (O' := { (O1.setDate 7 (true, now)).setDate 6 (oh, ot) with reason := 2, msg := msg, st := 4 }) rfl rfl rfl rfl (by have := HDL.out; simpa [ObjD.setDate] using this))
  clear HM5
  go_wp2_with (first | (refine wpList_load_row rfl 35 _ rfl b rfl _ _ _ _ B5.out.obj Tryd.underlying35 rfl (by rw [objCells_size]; exact oSizeO) ?_) | (refine wpList_store_obj rfl 35 _ _ rfl (b + 1 + 1) rfl _ rfl _ _ B5.out.res rfl (by rw [objCells_size]; exact oSizeO) (oc_one _ _) ?_; intro w6 hb6 hc6 hs6; have HB6 := hid hb6; have HC6 := hid hc6; clear hb6 hc6 hs6) | go_in)
  refine bodyPost_ret (results_obj_tmp rfl _ _ (b + 1 + 1) _ _ _ _ rfl HB6.out Tryd.underlying35 rfl (by rw [objCells_size]; exact oSizeO) _ rfl) rfl ?_
  refine ⟨s2, rfl, HM6.out.keep HC6.out (fun k hk hm => by have := HF2.out k hk; have := List.mem_singleton.1 hm; omega), fun k hk => by have := HF2.out k hk; omega, ?_⟩
  exact B5.out.bel.trans (HC6.out.below (fun k hk => by rw [List.mem_singleton.1 hk]; omega) (by have := B5.out.size; omega))
theorem rev_twoN5 (O : ObjD) (s : ObjV) (now : Int) (msg : ByteArray) (w : World) (h : ObjM w O s) (hm : msg.size ≤ 120) (hv : ∀ w, Calls Tryd.prog 24 #[.string msg] w fun e w' => e = .returned (.bool true) ∧ w = w') (ha : O.arch = false) (hrv : revocB O.st 2 = true) (h5 : O.st = 5) :
    Calls Tryd.prog 10 #[.agg (objCells O s), .int .i64 2, .string msg, .agg #[.bool false, .int .i64 0], .int .i64 now] w (ActRes w.heap.size w ({ ((O.setDate 9 (true, now)).setDate 7 (true, now)).setDate 6 ((O.setDate 9 (true, now)).dat 0) with reason := 2, msg := msg, st := 6 }, 0)) := by
  have H := hid h; clear h
  generalize hbe : w.heap.size = b
  have HBE := hid hbe; clear hbe
  go_enter Tryd.func10, Tryd.ntmps10
  go_upto_region 1 with (refine wpList_alloc_obj rfl 35 rfl _ oZeroO ?_)
  go_simp
  have B0 := hid (box3_start (T := 35) (D := 27) (O := O) (s := s) (d := (false, 0)) (w := w) HBE.out)
  simp only at B0
  have hO := H.out.below (B0.out.bel.mono (by rw [HBE.out]; exact Nat.le_refl _))
  rw [HBE.out]
  generalize ((w.alloc (.cells (objCells O s) 35)).alloc (.cells #[.bool false, .int .i64 0] 27)).alloc (.cells (objCells zObj zObjV) 35) = W at *
  have HO := hid hO
  clear hO H
  have k0 : W.cell? ⟨b + 1, 0, none⟩ = some (.bool false) := cell_of_block (j := 0) B0.out.occ rfl
  have k1 : W.cell? ⟨b + 1, 1, none⟩ = some (.int .i64 0) := cell_of_block (j := 1) B0.out.occ rfl
  have hd1 : True := trivial
  have hd7 : True := trivial
  have hdl : decide (120 < (msg.size : Int)) = false := by simp; omega
  have HV := hid hv; clear hv
  have H5 := hid h5; clear h5
  have HRV := hid hrv; clear hrv
  have hc36 := B0.out.cell (oc36 O s)
  have hc6 := B0.out.cell (oc6 O s)
  rw [ha] at hc36
  go_upto_region 3 with (go_at_call 24; refine (HV.out _).mono ?_; rintro e u ⟨rfl, rfl⟩)
  go_wp2_with (first | (go_at_call 25; refine (revocable_any _ _ _).mono ?_; rintro e u ⟨rfl, rfl⟩; rw [HRV.out]) | (refine wpList_load_row rfl 35 _ rfl b rfl _ _ _ _ B0.out.obj Tryd.underlying35 rfl (by rw [objCells_size]; exact oSizeO) ?_) | fail)
  refine (change_any O s now _ HO.out).mono ?_
  rintro e w2 ⟨s2, rfl, hm2, hf2, hb2⟩
  have B2 := hid (B0.out.below hb2)
  have HM2 := hid hm2
  have HF2 := hid (fun k hk => Nat.le_trans B0.out.size (hf2 k hk))
  clear hm2 hf2 hb2 B0 HO k0 k1 hc36 hc6 HV HRV hd1 hd7 hdl
  go_upto_region 8 with (refine wpList_store_obj rfl 35 _ _ rfl b rfl _ rfl _ _ B2.out.obj rfl (by rw [objCells_size]; exact oSizeO) (oc_one _ _) ?_; intro w3 hb3 hc3 hs3; have B3 := hid (B2.out.store hb3 hc3); have HM3 := hid (HM2.out.keep hc3 (fun k hk hm => by have := HF2.out k hk; have := List.mem_singleton.1 hm; omega)); clear hb3 hc3 hs3)
  clear B2 HM2
  have hst : (O.setDate 9 (true, now)).st = O.st := rfl
  generalize hO1 : O.setDate 9 (true, now) = O1 at *
  have hfz := B3.out.fz
  have c27 := B3.out.cell (oc27 O1 s2)
  have c28 := B3.out.cell (oc28 O1 s2)
  have B4 := hid ((B3.out.set 27 (.int .i64 2) (os27 O1 s2 2)).set 28 (.string msg) (os28 _ s2 msg))
  have HM4 := hid (HM3.out.keep (((Chg.refl [b] w3).setCell (p := ⟨b, 27, none⟩) (.inl (by simp)) (.int .i64 2)).setCell (p := ⟨b, 28, none⟩) (.inl (by simp)) (.string msg)) (fun k hk hm => by have := HF2.out k hk; have := List.mem_singleton.1 hm; omega))
  go_upto_region 10 with (fail)
  clear hfz c27 c28 B3 HM3
  generalize (w3.setCell ⟨b, 27, none⟩ (.int .i64 2)).setCell ⟨b, 28, none⟩ (.string msg) = w4 at *
  have HDL := hid HM4.out.dl
  have HM4 := hid (HM4.out.data (O' := { O1 with reason := 2, msg := msg }) rfl rfl rfl rfl HDL.out)
  have h5 := H5.out
  have c6 := B4.out.cell (oc6 _ s2)
  rw [show ({ O1 with reason := 2, msg := msg } : ObjD).st = O.st from hst] at c6
  rw [h5] at c6
  clear h5
  have hfz := B4.out.fz
  have B5 := hid (B4.out.set 6 (.int .i64 6) (os6 _ s2 6))
  have HM5 := hid (HM4.out.keep ((Chg.refl [b] w4).setCell (p := ⟨b, 6, none⟩) (.inl (by simp)) (.int .i64 6)) (fun k hk hm => by have := HF2.out k hk; have := List.mem_singleton.1 hm; omega))
  go_upto_region 15 with (fail)
  clear hfz c6 B4 HM4
  generalize w4.setCell ⟨b, 6, none⟩ (.int .i64 6) = w5 at *
  have HM5 := hid (HM5.out.data (O' := { O1 with reason := 2, msg := msg, st := 6 }) rfl rfl rfl rfl HDL.out)
  have k0 : w5.cell? ⟨b + 1, 0, none⟩ = some (.bool false) := cell_of_block (j := 0) B5.out.occ rfl
  have k1 : w5.cell? ⟨b + 1, 1, none⟩ = some (.int .i64 0) := cell_of_block (j := 1) B5.out.occ rfl
  have hfz : ∀ j, w5.frozen? ⟨b + 1, j, none⟩ = false := fun j => frozen_of_block B5.out.occ
  have c7 : w5.cell? ⟨b, 7, none⟩ = some (.bool (O1.dat 0).1) := B5.out.cell (j := 7) rfl
  have c8 : w5.cell? ⟨b, 8, none⟩ = some (.int .i64 (O1.dat 0).2) := B5.out.cell (j := 8) rfl
  generalize hd0 : O1.dat 0 = d0 at *
  obtain ⟨oh, ot⟩ := d0
  simp only at c7 c8
  have B7 := hid (B5.out.storeD (d' := (oh, ot)) (W' := (w5.setCell ⟨b + 1, 0, none⟩ (.bool oh)).setCell ⟨b + 1, 1, none⟩ (.int .i64 ot)) (by
    have := block_setCell (j := 1) (block_setCell (j := 0) B5.out.occ (.bool oh)) (.int .i64 ot)
    exact this) (((Chg.refl [b + 1] w5).setCell (.inl (by simp)) _).setCell (.inl (by simp)) _))
  have HM7 := hid (HM5.out.keep (((Chg.refl [b + 1] w5).setCell (p := ⟨b + 1, 0, none⟩) (.inl (by simp)) (.bool oh)).setCell (p := ⟨b + 1, 1, none⟩) (.inl (by simp)) (.int .i64 ot)) (fun k hk hm => by have := HF2.out k hk; have := List.mem_singleton.1 hm; omega))
  go_upto_region 17 with (fail)
  clear hfz k0 k1 c7 c8
  generalize (w5.setCell ⟨b + 1, 0, none⟩ (.bool oh)).setCell ⟨b + 1, 1, none⟩ (.int .i64 ot) = w7 at *
  clear B5 HM5
  have HL0 := hid HDL.out
  refine wp_region_eachX (m := 9) (Chg [b]) [.eq (.int .i64 now), .eq (.agg #[.bool true, .int .i64 now]), .eq (.agg #[.bool oh, .int .i64 ot]), .eq (.pointer (some ⟨b, 7, none⟩)), .eq (.pointer (some ⟨b, 21, none⟩)), .eq (undef), .eq (.pointer (some ⟨b, 7, none⟩)), .eq (.pointer (some ⟨b, 19, none⟩)), .eq (undef)] (DX 35 b s2 { O1 with reason := 2, msg := msg, st := 6 } { O1.setDate 7 (true, now) with reason := 2, msg := msg, st := 6 } { (O1.setDate 7 (true, now)).setDate 6 (oh, ot) with reason := 2, msg := msg, st := 6 }) (by kernel_rfl) (by kernel_rfl) (by kernel_rfl) (by kernel_rfl) (chg1_trans) (by exact (Chg.refl _ _).drew) (by exact DX.start B7.out.obj 9) ?_ ?_
  · as_aux_lemma =>
      refine each_c (o' := _) ?_ (each_c (o' := _) ?_ (each_c (o' := _) ?_ (each_c (o' := _) ?_ (each_c (o' := _) ?_ (each_c (o' := _) ?_ (each_c (o' := _) ?_ (each_c (o' := _) ?_ (each_c (o' := _) ?_ (each_n)))))))))
      -- 0: move t4
      · intro w1 hg listed up hx Ar seen
        have s4 := seen.slot 4 (v := .int .i64 now) (by kernel_rfl) rfl
        refine doesY_plain rfl fun K Q' hK => ?_
        go_simp; exact hK _ _ (Chg.refl _ _) (hx.same (by kernel_rfl)) rfl
      -- 1: call fn23<life.at> [t89] T[2]
      · intro w1 hg listed up hx Ar seen
        obtain ⟨v0, e0, h0⟩ := seen.dep 0 (d := 89) (by kernel_rfl) (by kernel_rfl) rfl
        rcases h0 with rfl
        refine doesY_plain rfl fun K Q' hK => ?_
        go_simp
        refine (at_any now _).mono ?_
        rintro e u ⟨rfl, hb⟩
        exact hK _ _ (Chg.of_below hb _) ((hx.pass (hb.block _ hx.lt)).same (by kernel_rfl)) rfl
      -- 2: load 27 t8
      · intro w1 hg listed up hx Ar seen
        have s8 := seen.slot 8 (v := .pointer (some ⟨b + 1, 0, none⟩)) (by kernel_rfl) rfl
        refine doesY_plain rfl fun K Q' hK => ?_
        have hq := (hg.block _ (block_lt B7.out.occ) (by simp)).trans B7.out.occ; have q0 := cell_of_block (j := 0) hq rfl; have q1 := cell_of_block (j := 1) hq rfl; simp only at q0 q1; clear hq
        go_simp; exact hK _ _ (Chg.refl _ _) (hx.same (by kernel_rfl)) rfl
      -- 3: fieldAddr 35 t5 7
      · intro w1 hg listed up hx Ar seen
        have s5 := seen.slot 5 (v := .pointer (some ⟨b, 0, none⟩)) (by kernel_rfl) rfl
        refine doesY_plain rfl fun K Q' hK => ?_
        go_simp; exact hK _ _ (Chg.refl _ _) (hx.same (by kernel_rfl)) rfl
      -- 4: indexAddr 28 t92 7:i64
      · intro w1 hg listed up hx Ar seen
        obtain ⟨v3, e3, h3⟩ := seen.dep 3 (d := 92) (by kernel_rfl) (by kernel_rfl) rfl
        rcases h3 with rfl
        refine doesY_plain rfl fun K Q' hK => ?_
        go_simp; exact hK _ _ (Chg.refl _ _) (hx.same (by kernel_rfl)) rfl
      -- 5: store 27 t93 t90
      · intro w1 hg listed up hx Ar seen
        obtain ⟨v1, e1, h1⟩ := seen.dep 1 (d := 90) (by kernel_rfl) (by kernel_rfl) rfl
        rcases h1 with rfl
        obtain ⟨v4, e4, h4⟩ := seen.dep 4 (d := 93) (by kernel_rfl) (by kernel_rfl) rfl
        rcases h4 with rfl
        refine doesY_plain rfl fun K Q' hK => ?_
        have ho := hx.old up.self (up.later 8 (by kernel_rfl))
        have c21 := cell_of_block (j := 21) ho rfl
        have c22 := cell_of_block (j := 22) ho rfl
        have hf : ∀ j, w1.frozen? ⟨b, j, none⟩ = false := fun j => frozen_of_block ho
        have hn := date_block ho HDL.out 7 (by decide) true now
        simp only [Nat.reduceMul, Nat.reduceAdd] at hn
        clear ho
        go_simp
        exact hK undef _ (((Chg.refl [b] w1).setCell (.inl (by simp)) _).setCell (.inl (by simp)) _) (DX.one (by rw [up.size]; decide) (up.later 8 (by kernel_rfl)) hn) rfl
      -- 6: fieldAddr 35 t5 7
      · intro w1 hg listed up hx Ar seen
        have s5 := seen.slot 5 (v := .pointer (some ⟨b, 0, none⟩)) (by kernel_rfl) rfl
        refine doesY_plain rfl fun K Q' hK => ?_
        go_simp; exact hK _ _ (Chg.refl _ _) (hx.same (by kernel_rfl)) rfl
      -- 7: indexAddr 28 t94 6:i64
      · intro w1 hg listed up hx Ar seen
        obtain ⟨v6, e6, h6⟩ := seen.dep 6 (d := 94) (by kernel_rfl) (by kernel_rfl) rfl
        rcases h6 with rfl
        refine doesY_plain rfl fun K Q' hK => ?_
        go_simp; exact hK _ _ (Chg.refl _ _) (hx.same (by kernel_rfl)) rfl
      -- 8: store 27 t95 t91
      · intro w1 hg listed up hx Ar seen
        obtain ⟨v2, e2, h2⟩ := seen.dep 2 (d := 91) (by kernel_rfl) (by kernel_rfl) rfl
        rcases h2 with rfl
        obtain ⟨v7, e7, h7⟩ := seen.dep 7 (d := 95) (by kernel_rfl) (by kernel_rfl) rfl
        rcases h7 with rfl
        refine doesY_plain rfl fun K Q' hK => ?_
        have ho := hx.mid (up.did 5 (by decide)) up.self
        have c19 := cell_of_block (j := 19) ho rfl
        have c20 := cell_of_block (j := 20) ho rfl
        have hf : ∀ j, w1.frozen? ⟨b, j, none⟩ = false := fun j => frozen_of_block ho
        have hn := date_block ho (by have := HL0.out; simpa [ObjD.setDate] using this) 6 (by decide) oh ot
        simp only [Nat.reduceMul, Nat.reduceAdd] at hn
        clear ho
        go_simp
        exact hK undef _ (((Chg.refl [b] w1).setCell (.inl (by simp)) _).setCell (.inl (by simp)) _) (DX.two (by rw [up.size]; decide) hn) rfl
  intro w1 hg listed hl hx
  refine upon_w' (js := [0, 1, 2, 3, 4, 5, 6, 7, 8]) (by rfl) ?_
  refine upon_c (x := some 89) (by kernel_rfl) rfl fun v0 h0 => ?_
  rcases h0 with rfl
  refine upon_c (x := some 90) (by kernel_rfl) rfl fun v1 h1 => ?_
  rcases h1 with rfl
  refine upon_c (x := some 91) (by kernel_rfl) rfl fun v2 h2 => ?_
  rcases h2 with rfl
  refine upon_c (x := some 92) (by kernel_rfl) rfl fun v3 h3 => ?_
  rcases h3 with rfl
  refine upon_c (x := some 93) (by kernel_rfl) rfl fun v4 h4 => ?_
  rcases h4 with rfl
  refine upon_c (x := none) (by kernel_rfl) rfl fun v5 h5 => ?_
  rcases h5 with rfl
  refine upon_c (x := some 94) (by kernel_rfl) rfl fun v6 h6 => ?_
  rcases h6 with rfl
  refine upon_c (x := some 95) (by kernel_rfl) rfl fun v7 h7 => ?_
  rcases h7 with rfl
  refine upon_c (x := none) (by kernel_rfl) rfl fun v8 h8 => ?_
  rcases h8 with rfl
  refine upon_n ?_
  go_simp
  have B5 := hid (B7.out.store (hx.fin (hl 8 (by decide))) hg)
  have HM5 := hid (HM7.out.keep hg (fun k hk hm => by have := HF2.out k hk; have := List.mem_singleton.1 hm; omega))
  clear B7 HM7 hg hx hl
  have HM6 := hid (HM5.out.data (O' := { (O1.setDate 7 (true, now)).setDate 6 (oh, ot) with reason := 2, msg := msg, st := 6 }) rfl rfl rfl rfl (by have := HDL.out; simpa [ObjD.setDate] using this))
  clear HM5
  go_wp2_with (first | (refine wpList_load_row rfl 35 _ rfl b rfl _ _ _ _ B5.out.obj Tryd.underlying35 rfl (by rw [objCells_size]; exact oSizeO) ?_) | (refine wpList_store_obj rfl 35 _ _ rfl (b + 1 + 1) rfl _ rfl _ _ B5.out.res rfl (by rw [objCells_size]; exact oSizeO) (oc_one _ _) ?_; intro w6 hb6 hc6 hs6; have HB6 := hid hb6; have HC6 := hid hc6; clear hb6 hc6 hs6) | go_in)
  refine bodyPost_ret (results_obj_tmp rfl _ _ (b + 1 + 1) _ _ _ _ rfl HB6.out Tryd.underlying35 rfl (by rw [objCells_size]; exact oSizeO) _ rfl) rfl ?_
  refine ⟨s2, rfl, HM6.out.keep HC6.out (fun k hk hm => by have := HF2.out k hk; have := List.mem_singleton.1 hm; omega), fun k hk => by have := HF2.out k hk; omega, ?_⟩
  exact B5.out.bel.trans (HC6.out.below (fun k hk => by rw [List.mem_singleton.1 hk]; omega) (by have := B5.out.size; omega))
theorem rev_twoH (O : ObjD) (s : ObjV) (ot now : Int) (msg : ByteArray) (w : World) (h : ObjM w O s) (hm : msg.size ≤ 120) (hv : ∀ w, Calls Tryd.prog 24 #[.string msg] w fun e w' => e = .returned (.bool true) ∧ w = w') (hot : ot ≤ now) (ha : O.arch = false) (hrv : revocB O.st 2 = true) (h5 : O.st ≠ 5) :
    Calls Tryd.prog 10 #[.agg (objCells O s), .int .i64 2, .string msg, .agg #[.bool true, .int .i64 ot], .int .i64 now] w (ActRes w.heap.size w ({ ((O.setDate 9 (true, now)).setDate 7 (true, now)).setDate 6 (true, ot) with reason := 2, msg := msg, st := 4 }, 0)) := by
  have H := hid h; clear h
  generalize hbe : w.heap.size = b
  have HBE := hid hbe; clear hbe
  go_enter Tryd.func10, Tryd.ntmps10
  go_upto_region 1 with (refine wpList_alloc_obj rfl 35 rfl _ oZeroO ?_)
  go_simp
  have B0 := hid (box3_start (T := 35) (D := 27) (O := O) (s := s) (d := (true, ot)) (w := w) HBE.out)
  simp only at B0
  have hO := H.out.below (B0.out.bel.mono (by rw [HBE.out]; exact Nat.le_refl _))
  rw [HBE.out]
  generalize ((w.alloc (.cells (objCells O s) 35)).alloc (.cells #[.bool true, .int .i64 ot] 27)).alloc (.cells (objCells zObj zObjV) 35) = W at *
  have HO := hid hO
  clear hO H
  have k0 : W.cell? ⟨b + 1, 0, none⟩ = some (.bool true) := cell_of_block (j := 0) B0.out.occ rfl
  have k1 : W.cell? ⟨b + 1, 1, none⟩ = some (.int .i64 ot) := cell_of_block (j := 1) B0.out.occ rfl
  have hd1 : True := trivial
  have hd7 : True := trivial
  have hdl : decide (120 < (msg.size : Int)) = false := by simp; omega
  have HV := hid hv; clear hv
  have hdo : decide (now < ot) = false := by simpa using hot
  have H5 := hid h5; clear h5
  have HRV := hid hrv; clear hrv
  have hc36 := B0.out.cell (oc36 O s)
  have hc6 := B0.out.cell (oc6 O s)
  rw [ha] at hc36
  go_upto_region 3 with (go_at_call 24; refine (HV.out _).mono ?_; rintro e u ⟨rfl, rfl⟩)
  go_wp2_with (first | (go_at_call 25; refine (revocable_any _ _ _).mono ?_; rintro e u ⟨rfl, rfl⟩; rw [HRV.out]) | (refine wpList_load_row rfl 35 _ rfl b rfl _ _ _ _ B0.out.obj Tryd.underlying35 rfl (by rw [objCells_size]; exact oSizeO) ?_) | fail)
  refine (change_any O s now _ HO.out).mono ?_
  rintro e w2 ⟨s2, rfl, hm2, hf2, hb2⟩
  have B2 := hid (B0.out.below hb2)
  have HM2 := hid hm2
  have HF2 := hid (fun k hk => Nat.le_trans B0.out.size (hf2 k hk))
  clear hm2 hf2 hb2 B0 HO k0 k1 hc36 hc6 HV HRV hd1 hd7 hdl hdo
  go_upto_region 8 with (refine wpList_store_obj rfl 35 _ _ rfl b rfl _ rfl _ _ B2.out.obj rfl (by rw [objCells_size]; exact oSizeO) (oc_one _ _) ?_; intro w3 hb3 hc3 hs3; have B3 := hid (B2.out.store hb3 hc3); have HM3 := hid (HM2.out.keep hc3 (fun k hk hm => by have := HF2.out k hk; have := List.mem_singleton.1 hm; omega)); clear hb3 hc3 hs3)
  clear B2 HM2
  have hst : (O.setDate 9 (true, now)).st = O.st := rfl
  generalize hO1 : O.setDate 9 (true, now) = O1 at *
  have hfz := B3.out.fz
  have c27 := B3.out.cell (oc27 O1 s2)
  have c28 := B3.out.cell (oc28 O1 s2)
  have B4 := hid ((B3.out.set 27 (.int .i64 2) (os27 O1 s2 2)).set 28 (.string msg) (os28 _ s2 msg))
  have HM4 := hid (HM3.out.keep (((Chg.refl [b] w3).setCell (p := ⟨b, 27, none⟩) (.inl (by simp)) (.int .i64 2)).setCell (p := ⟨b, 28, none⟩) (.inl (by simp)) (.string msg)) (fun k hk hm => by have := HF2.out k hk; have := List.mem_singleton.1 hm; omega))
  go_upto_region 10 with (fail)
  clear hfz c27 c28 B3 HM3
  generalize (w3.setCell ⟨b, 27, none⟩ (.int .i64 2)).setCell ⟨b, 28, none⟩ (.string msg) = w4 at *
  have HDL := hid HM4.out.dl
  have HM4 := hid (HM4.out.data (O' := { O1 with reason := 2, msg := msg }) rfl rfl rfl rfl HDL.out)
  have h5 := H5.out
  have c6 := B4.out.cell (oc6 _ s2)
  rw [show ({ O1 with reason := 2, msg := msg } : ObjD).st = O.st from hst] at c6
  have hn5 : (O.st == 5) = false := by simpa using h5
  clear h5
  have hfz := B4.out.fz
  have B5 := hid (B4.out.set 6 (.int .i64 4) (os6 _ s2 4))
  have HM5 := hid (HM4.out.keep ((Chg.refl [b] w4).setCell (p := ⟨b, 6, none⟩) (.inl (by simp)) (.int .i64 4)) (fun k hk hm => by have := HF2.out k hk; have := List.mem_singleton.1 hm; omega))
  go_upto_region 15 with (fail)
  clear hfz c6 B4 HM4 hn5
  generalize w4.setCell ⟨b, 6, none⟩ (.int .i64 4) = w5 at *
  have HM5 := hid (HM5.out.data (O' := { O1 with reason := 2, msg := msg, st := 4 }) rfl rfl rfl rfl HDL.out)
  have k0 : w5.cell? ⟨b + 1, 0, none⟩ = some (.bool true) := cell_of_block (j := 0) B5.out.occ rfl
  go_upto_region 17 with (fail)
  clear k0
  have B7 := B5
  have HM7 := HM5
  generalize w5 = w7 at *
  clear B5 HM5
  have HL0 := hid HDL.out
  refine wp_region_eachX (m := 9) (Chg [b]) [.eq (.int .i64 now), .eq (.agg #[.bool true, .int .i64 now]), .eq (.agg #[.bool true, .int .i64 ot]), .eq (.pointer (some ⟨b, 7, none⟩)), .eq (.pointer (some ⟨b, 21, none⟩)), .eq (undef), .eq (.pointer (some ⟨b, 7, none⟩)), .eq (.pointer (some ⟨b, 19, none⟩)), .eq (undef)] (DX 35 b s2 { O1 with reason := 2, msg := msg, st := 4 } { O1.setDate 7 (true, now) with reason := 2, msg := msg, st := 4 } { (O1.setDate 7 (true, now)).setDate 6 (true, ot) with reason := 2, msg := msg, st := 4 }) (by kernel_rfl) (by kernel_rfl) (by kernel_rfl) (by kernel_rfl) (chg1_trans) (by exact (Chg.refl _ _).drew) (by exact DX.start B7.out.obj 9) ?_ ?_
  · as_aux_lemma =>
      refine each_c (o' := _) ?_ (each_c (o' := _) ?_ (each_c (o' := _) ?_ (each_c (o' := _) ?_ (each_c (o' := _) ?_ (each_c (o' := _) ?_ (each_c (o' := _) ?_ (each_c (o' := _) ?_ (each_c (o' := _) ?_ (each_n)))))))))
      -- 0: move t4
      · intro w1 hg listed up hx Ar seen
        have s4 := seen.slot 4 (v := .int .i64 now) (by kernel_rfl) rfl
        refine doesY_plain rfl fun K Q' hK => ?_
        go_simp; exact hK _ _ (Chg.refl _ _) (hx.same (by kernel_rfl)) rfl
      -- 1: call fn23<life.at> [t89] T[2]
      · intro w1 hg listed up hx Ar seen
        obtain ⟨v0, e0, h0⟩ := seen.dep 0 (d := 89) (by kernel_rfl) (by kernel_rfl) rfl
        rcases h0 with rfl
        refine doesY_plain rfl fun K Q' hK => ?_
        go_simp
        refine (at_any now _).mono ?_
        rintro e u ⟨rfl, hb⟩
        exact hK _ _ (Chg.of_below hb _) ((hx.pass (hb.block _ hx.lt)).same (by kernel_rfl)) rfl
      -- 2: load 27 t8
      · intro w1 hg listed up hx Ar seen
        have s8 := seen.slot 8 (v := .pointer (some ⟨b + 1, 0, none⟩)) (by kernel_rfl) rfl
        refine doesY_plain rfl fun K Q' hK => ?_
        have hq := (hg.block _ (block_lt B7.out.occ) (by simp)).trans B7.out.occ; have q0 := cell_of_block (j := 0) hq rfl; have q1 := cell_of_block (j := 1) hq rfl; simp only at q0 q1; clear hq
        go_simp; exact hK _ _ (Chg.refl _ _) (hx.same (by kernel_rfl)) rfl
      -- 3: fieldAddr 35 t5 7
      · intro w1 hg listed up hx Ar seen
        have s5 := seen.slot 5 (v := .pointer (some ⟨b, 0, none⟩)) (by kernel_rfl) rfl
        refine doesY_plain rfl fun K Q' hK => ?_
        go_simp; exact hK _ _ (Chg.refl _ _) (hx.same (by kernel_rfl)) rfl
      -- 4: indexAddr 28 t92 7:i64
      · intro w1 hg listed up hx Ar seen
        obtain ⟨v3, e3, h3⟩ := seen.dep 3 (d := 92) (by kernel_rfl) (by kernel_rfl) rfl
        rcases h3 with rfl
        refine doesY_plain rfl fun K Q' hK => ?_
        go_simp; exact hK _ _ (Chg.refl _ _) (hx.same (by kernel_rfl)) rfl
      -- 5: store 27 t93 t90
      · intro w1 hg listed up hx Ar seen
        obtain ⟨v1, e1, h1⟩ := seen.dep 1 (d := 90) (by kernel_rfl) (by kernel_rfl) rfl
        rcases h1 with rfl
        obtain ⟨v4, e4, h4⟩ := seen.dep 4 (d := 93) (by kernel_rfl) (by kernel_rfl) rfl
        rcases h4 with rfl
        refine doesY_plain rfl fun K Q' hK => ?_
        have ho := hx.old up.self (up.later 8 (by kernel_rfl))
        have c21 := cell_of_block (j := 21) ho rfl
        have c22 := cell_of_block (j := 22) ho rfl
        have hf : ∀ j, w1.frozen? ⟨b, j, none⟩ = false := fun j => frozen_of_block ho
        have hn := date_block ho HDL.out 7 (by decide) true now
        simp only [Nat.reduceMul, Nat.reduceAdd] at hn
        clear ho
        go_simp
        exact hK undef _ (((Chg.refl [b] w1).setCell (.inl (by simp)) _).setCell (.inl (by simp)) _) (DX.one (by rw [up.size]; decide) (up.later 8 (by kernel_rfl)) hn) rfl
      -- 6: fieldAddr 35 t5 7
      · intro w1 hg listed up hx Ar seen
        have s5 := seen.slot 5 (v := .pointer (some ⟨b, 0, none⟩)) (by kernel_rfl) rfl
        refine doesY_plain rfl fun K Q' hK => ?_
        go_simp; exact hK _ _ (Chg.refl _ _) (hx.same (by kernel_rfl)) rfl
      -- 7: indexAddr 28 t94 6:i64
      · intro w1 hg listed up hx Ar seen
        obtain ⟨v6, e6, h6⟩ := seen.dep 6 (d := 94) (by kernel_rfl) (by kernel_rfl) rfl
        rcases h6 with rfl
        refine doesY_plain rfl fun K Q' hK => ?_
        go_simp; exact hK _ _ (Chg.refl _ _) (hx.same (by kernel_rfl)) rfl
      -- 8: store 27 t95 t91
      · intro w1 hg listed up hx Ar seen
        obtain ⟨v2, e2, h2⟩ := seen.dep 2 (d := 91) (by kernel_rfl) (by kernel_rfl) rfl
        rcases h2 with rfl
        obtain ⟨v7, e7, h7⟩ := seen.dep 7 (d := 95) (by kernel_rfl) (by kernel_rfl) rfl
        rcases h7 with rfl
        refine doesY_plain rfl fun K Q' hK => ?_
        have ho := hx.mid (up.did 5 (by decide)) up.self
        have c19 := cell_of_block (j := 19) ho rfl
        have c20 := cell_of_block (j := 20) ho rfl
        have hf : ∀ j, w1.frozen? ⟨b, j, none⟩ = false := fun j => frozen_of_block ho
        have hn := date_block ho (by have := HL0.out; simpa [ObjD.setDate] using this) 6 (by decide) true ot
        simp only [Nat.reduceMul, Nat.reduceAdd] at hn
        clear ho
        go_simp
        exact hK undef _ (((Chg.refl [b] w1).setCell (.inl (by simp)) _).setCell (.inl (by simp)) _) (DX.two (by rw [up.size]; decide) hn) rfl
  intro w1 hg listed hl hx
  refine upon_w' (js := [0, 1, 2, 3, 4, 5, 6, 7, 8]) (by rfl) ?_
  refine upon_c (x := some 89) (by kernel_rfl) rfl fun v0 h0 => ?_
  rcases h0 with rfl
  refine upon_c (x := some 90) (by kernel_rfl) rfl fun v1 h1 => ?_
  rcases h1 with rfl
  refine upon_c (x := some 91) (by kernel_rfl) rfl fun v2 h2 => ?_
  rcases h2 with rfl
  refine upon_c (x := some 92) (by kernel_rfl) rfl fun v3 h3 => ?_
  rcases h3 with rfl
  refine upon_c (x := some 93) (by kernel_rfl) rfl fun v4 h4 => ?_
  rcases h4 with rfl
  refine upon_c (x := none) (by kernel_rfl) rfl fun v5 h5 => ?_
  rcases h5 with rfl
  refine upon_c (x := some 94) (by kernel_rfl) rfl fun v6 h6 => ?_
  rcases h6 with rfl
  refine upon_c (x := some 95) (by kernel_rfl) rfl fun v7 h7 => ?_
  rcases h7 with rfl
  refine upon_c (x := none) (by kernel_rfl) rfl fun v8 h8 => ?_
  rcases h8 with rfl
  refine upon_n ?_
  go_simp
  have B5 := hid (B7.out.store (hx.fin (hl 8 (by decide))) hg)
  have HM5 := hid (HM7.out.keep hg (fun k hk hm => by have := HF2.out k hk; have := List.mem_singleton.1 hm; omega))
  clear B7 HM7 hg hx hl
  have HM6 := hid (HM5.out.data (O' := { (O1.setDate 7 (true, now)).setDate 6 (true, ot) with reason := 2, msg := msg, st := 4 }) rfl rfl rfl rfl (by have := HDL.out; simpa [ObjD.setDate] using this))
  clear HM5
  go_wp2_with (first | (refine wpList_load_row rfl 35 _ rfl b rfl _ _ _ _ B5.out.obj Tryd.underlying35 rfl (by rw [objCells_size]; exact oSizeO) ?_) | (refine wpList_store_obj rfl 35 _ _ rfl (b + 1 + 1) rfl _ rfl _ _ B5.out.res rfl (by rw [objCells_size]; exact oSizeO) (oc_one _ _) ?_; intro w6 hb6 hc6 hs6; have HB6 := hid hb6; have HC6 := hid hc6; clear hb6 hc6 hs6) | go_in)
  refine bodyPost_ret (results_obj_tmp rfl _ _ (b + 1 + 1) _ _ _ _ rfl HB6.out Tryd.underlying35 rfl (by rw [objCells_size]; exact oSizeO) _ rfl) rfl ?_
  refine ⟨s2, rfl, HM6.out.keep HC6.out (fun k hk hm => by have := HF2.out k hk; have := List.mem_singleton.1 hm; omega), fun k hk => by have := HF2.out k hk; omega, ?_⟩
  exact B5.out.bel.trans (HC6.out.below (fun k hk => by rw [List.mem_singleton.1 hk]; omega) (by have := B5.out.size; omega))
theorem rev_twoH5 (O : ObjD) (s : ObjV) (ot now : Int) (msg : ByteArray) (w : World) (h : ObjM w O s) (hm : msg.size ≤ 120) (hv : ∀ w, Calls Tryd.prog 24 #[.string msg] w fun e w' => e = .returned (.bool true) ∧ w = w') (hot : ot ≤ now) (ha : O.arch = false) (hrv : revocB O.st 2 = true) (h5 : O.st = 5) :
    Calls Tryd.prog 10 #[.agg (objCells O s), .int .i64 2, .string msg, .agg #[.bool true, .int .i64 ot], .int .i64 now] w (ActRes w.heap.size w ({ ((O.setDate 9 (true, now)).setDate 7 (true, now)).setDate 6 (true, ot) with reason := 2, msg := msg, st := 6 }, 0)) := by
  have H := hid h; clear h
  generalize hbe : w.heap.size = b
  have HBE := hid hbe; clear hbe
  go_enter Tryd.func10, Tryd.ntmps10
  go_upto_region 1 with (refine wpList_alloc_obj rfl 35 rfl _ oZeroO ?_)
  go_simp
  have B0 := hid (box3_start (T := 35) (D := 27) (O := O) (s := s) (d := (true, ot)) (w := w) HBE.out)
  simp only at B0
  have hO := H.out.below (B0.out.bel.mono (by rw [HBE.out]; exact Nat.le_refl _))
  rw [HBE.out]
  generalize ((w.alloc (.cells (objCells O s) 35)).alloc (.cells #[.bool true, .int .i64 ot] 27)).alloc (.cells (objCells zObj zObjV) 35) = W at *
  have HO := hid hO
  clear hO H
  have k0 : W.cell? ⟨b + 1, 0, none⟩ = some (.bool true) := cell_of_block (j := 0) B0.out.occ rfl
  have k1 : W.cell? ⟨b + 1, 1, none⟩ = some (.int .i64 ot) := cell_of_block (j := 1) B0.out.occ rfl
  have hd1 : True := trivial
  have hd7 : True := trivial
  have hdl : decide (120 < (msg.size : Int)) = false := by simp; omega
  have HV := hid hv; clear hv
  have hdo : decide (now < ot) = false := by simpa using hot
  have H5 := hid h5; clear h5
  have HRV := hid hrv; clear hrv
  have hc36 := B0.out.cell (oc36 O s)
  have hc6 := B0.out.cell (oc6 O s)
  rw [ha] at hc36
  go_upto_region 3 with (go_at_call 24; refine (HV.out _).mono ?_; rintro e u ⟨rfl, rfl⟩)
  go_wp2_with (first | (go_at_call 25; refine (revocable_any _ _ _).mono ?_; rintro e u ⟨rfl, rfl⟩; rw [HRV.out]) | (refine wpList_load_row rfl 35 _ rfl b rfl _ _ _ _ B0.out.obj Tryd.underlying35 rfl (by rw [objCells_size]; exact oSizeO) ?_) | fail)
  refine (change_any O s now _ HO.out).mono ?_
  rintro e w2 ⟨s2, rfl, hm2, hf2, hb2⟩
  have B2 := hid (B0.out.below hb2)
  have HM2 := hid hm2
  have HF2 := hid (fun k hk => Nat.le_trans B0.out.size (hf2 k hk))
  clear hm2 hf2 hb2 B0 HO k0 k1 hc36 hc6 HV HRV hd1 hd7 hdl hdo
  go_upto_region 8 with (refine wpList_store_obj rfl 35 _ _ rfl b rfl _ rfl _ _ B2.out.obj rfl (by rw [objCells_size]; exact oSizeO) (oc_one _ _) ?_; intro w3 hb3 hc3 hs3; have B3 := hid (B2.out.store hb3 hc3); have HM3 := hid (HM2.out.keep hc3 (fun k hk hm => by have := HF2.out k hk; have := List.mem_singleton.1 hm; omega)); clear hb3 hc3 hs3)
  clear B2 HM2
  have hst : (O.setDate 9 (true, now)).st = O.st := rfl
  generalize hO1 : O.setDate 9 (true, now) = O1 at *
  have hfz := B3.out.fz
  have c27 := B3.out.cell (oc27 O1 s2)
  have c28 := B3.out.cell (oc28 O1 s2)
  have B4 := hid ((B3.out.set 27 (.int .i64 2) (os27 O1 s2 2)).set 28 (.string msg) (os28 _ s2 msg))
  have HM4 := hid (HM3.out.keep (((Chg.refl [b] w3).setCell (p := ⟨b, 27, none⟩) (.inl (by simp)) (.int .i64 2)).setCell (p := ⟨b, 28, none⟩) (.inl (by simp)) (.string msg)) (fun k hk hm => by have := HF2.out k hk; have := List.mem_singleton.1 hm; omega))
  go_upto_region 10 with (fail)
  clear hfz c27 c28 B3 HM3
  generalize (w3.setCell ⟨b, 27, none⟩ (.int .i64 2)).setCell ⟨b, 28, none⟩ (.string msg) = w4 at *
  have HDL := hid HM4.out.dl
  have HM4 := hid (HM4.out.data (O' := { O1 with reason := 2, msg := msg }) rfl rfl rfl rfl HDL.out)
  have h5 := H5.out
  have c6 := B4.out.cell (oc6 _ s2)
  rw [show ({ O1 with reason := 2, msg := msg } : ObjD).st = O.st from hst] at c6
  rw [h5] at c6
  clear h5
  have hfz := B4.out.fz
  have B5 := hid (B4.out.set 6 (.int .i64 6) (os6 _ s2 6))
  have HM5 := hid (HM4.out.keep ((Chg.refl [b] w4).setCell (p := ⟨b, 6, none⟩) (.inl (by simp)) (.int .i64 6)) (fun k hk hm => by have := HF2.out k hk; have := List.mem_singleton.1 hm; omega))
  go_upto_region 15 with (fail)
  clear hfz c6 B4 HM4
  generalize w4.setCell ⟨b, 6, none⟩ (.int .i64 6) = w5 at *
  have HM5 := hid (HM5.out.data (O' := { O1 with reason := 2, msg := msg, st := 6 }) rfl rfl rfl rfl HDL.out)
  have k0 : w5.cell? ⟨b + 1, 0, none⟩ = some (.bool true) := cell_of_block (j := 0) B5.out.occ rfl
  go_upto_region 17 with (fail)
  clear k0
  have B7 := B5
  have HM7 := HM5
  generalize w5 = w7 at *
  clear B5 HM5
  have HL0 := hid HDL.out
  refine wp_region_eachX (m := 9) (Chg [b]) [.eq (.int .i64 now), .eq (.agg #[.bool true, .int .i64 now]), .eq (.agg #[.bool true, .int .i64 ot]), .eq (.pointer (some ⟨b, 7, none⟩)), .eq (.pointer (some ⟨b, 21, none⟩)), .eq (undef), .eq (.pointer (some ⟨b, 7, none⟩)), .eq (.pointer (some ⟨b, 19, none⟩)), .eq (undef)] (DX 35 b s2 { O1 with reason := 2, msg := msg, st := 6 } { O1.setDate 7 (true, now) with reason := 2, msg := msg, st := 6 } { (O1.setDate 7 (true, now)).setDate 6 (true, ot) with reason := 2, msg := msg, st := 6 }) (by kernel_rfl) (by kernel_rfl) (by kernel_rfl) (by kernel_rfl) (chg1_trans) (by exact (Chg.refl _ _).drew) (by exact DX.start B7.out.obj 9) ?_ ?_
  · as_aux_lemma =>
      refine each_c (o' := _) ?_ (each_c (o' := _) ?_ (each_c (o' := _) ?_ (each_c (o' := _) ?_ (each_c (o' := _) ?_ (each_c (o' := _) ?_ (each_c (o' := _) ?_ (each_c (o' := _) ?_ (each_c (o' := _) ?_ (each_n)))))))))
      -- 0: move t4
      · intro w1 hg listed up hx Ar seen
        have s4 := seen.slot 4 (v := .int .i64 now) (by kernel_rfl) rfl
        refine doesY_plain rfl fun K Q' hK => ?_
        go_simp; exact hK _ _ (Chg.refl _ _) (hx.same (by kernel_rfl)) rfl
      -- 1: call fn23<life.at> [t89] T[2]
      · intro w1 hg listed up hx Ar seen
        obtain ⟨v0, e0, h0⟩ := seen.dep 0 (d := 89) (by kernel_rfl) (by kernel_rfl) rfl
        rcases h0 with rfl
        refine doesY_plain rfl fun K Q' hK => ?_
        go_simp
        refine (at_any now _).mono ?_
        rintro e u ⟨rfl, hb⟩
        exact hK _ _ (Chg.of_below hb _) ((hx.pass (hb.block _ hx.lt)).same (by kernel_rfl)) rfl
      -- 2: load 27 t8
      · intro w1 hg listed up hx Ar seen
        have s8 := seen.slot 8 (v := .pointer (some ⟨b + 1, 0, none⟩)) (by kernel_rfl) rfl
        refine doesY_plain rfl fun K Q' hK => ?_
        have hq := (hg.block _ (block_lt B7.out.occ) (by simp)).trans B7.out.occ; have q0 := cell_of_block (j := 0) hq rfl; have q1 := cell_of_block (j := 1) hq rfl; simp only at q0 q1; clear hq
        go_simp; exact hK _ _ (Chg.refl _ _) (hx.same (by kernel_rfl)) rfl
      -- 3: fieldAddr 35 t5 7
      · intro w1 hg listed up hx Ar seen
        have s5 := seen.slot 5 (v := .pointer (some ⟨b, 0, none⟩)) (by kernel_rfl) rfl
        refine doesY_plain rfl fun K Q' hK => ?_
        go_simp; exact hK _ _ (Chg.refl _ _) (hx.same (by kernel_rfl)) rfl
      -- 4: indexAddr 28 t92 7:i64
      · intro w1 hg listed up hx Ar seen
        obtain ⟨v3, e3, h3⟩ := seen.dep 3 (d := 92) (by kernel_rfl) (by kernel_rfl) rfl
        rcases h3 with rfl
        refine doesY_plain rfl fun K Q' hK => ?_
        go_simp; exact hK _ _ (Chg.refl _ _) (hx.same (by kernel_rfl)) rfl
      -- 5: store 27 t93 t90
      · intro w1 hg listed up hx Ar seen
        obtain ⟨v1, e1, h1⟩ := seen.dep 1 (d := 90) (by kernel_rfl) (by kernel_rfl) rfl
        rcases h1 with rfl
        obtain ⟨v4, e4, h4⟩ := seen.dep 4 (d := 93) (by kernel_rfl) (by kernel_rfl) rfl
        rcases h4 with rfl
        refine doesY_plain rfl fun K Q' hK => ?_
        have ho := hx.old up.self (up.later 8 (by kernel_rfl))
        have c21 := cell_of_block (j := 21) ho rfl
        have c22 := cell_of_block (j := 22) ho rfl
        have hf : ∀ j, w1.frozen? ⟨b, j, none⟩ = false := fun j => frozen_of_block ho
        have hn := date_block ho HDL.out 7 (by decide) true now
        simp only [Nat.reduceMul, Nat.reduceAdd] at hn
        clear ho
        go_simp
        exact hK undef _ (((Chg.refl [b] w1).setCell (.inl (by simp)) _).setCell (.inl (by simp)) _) (DX.one (by rw [up.size]; decide) (up.later 8 (by kernel_rfl)) hn) rfl
      -- 6: fieldAddr 35 t5 7
      · intro w1 hg listed up hx Ar seen
        have s5 := seen.slot 5 (v := .pointer (some ⟨b, 0, none⟩)) (by kernel_rfl) rfl
        refine doesY_plain rfl fun K Q' hK => ?_
        go_simp; exact hK _ _ (Chg.refl _ _) (hx.same (by kernel_rfl)) rfl
      -- 7: indexAddr 28 t94 6:i64
      · intro w1 hg listed up hx Ar seen
        obtain ⟨v6, e6, h6⟩ := seen.dep 6 (d := 94) (by kernel_rfl) (by kernel_rfl) rfl
        rcases h6 with rfl
        refine doesY_plain rfl fun K Q' hK => ?_
        go_simp; exact hK _ _ (Chg.refl _ _) (hx.same (by kernel_rfl)) rfl
      -- 8: store 27 t95 t91
      · intro w1 hg listed up hx Ar seen
        obtain ⟨v2, e2, h2⟩ := seen.dep 2 (d := 91) (by kernel_rfl) (by kernel_rfl) rfl
        rcases h2 with rfl
        obtain ⟨v7, e7, h7⟩ := seen.dep 7 (d := 95) (by kernel_rfl) (by kernel_rfl) rfl
        rcases h7 with rfl
        refine doesY_plain rfl fun K Q' hK => ?_
        have ho := hx.mid (up.did 5 (by decide)) up.self
        have c19 := cell_of_block (j := 19) ho rfl
        have c20 := cell_of_block (j := 20) ho rfl
        have hf : ∀ j, w1.frozen? ⟨b, j, none⟩ = false := fun j => frozen_of_block ho
        have hn := date_block ho (by have := HL0.out; simpa [ObjD.setDate] using this) 6 (by decide) true ot
        simp only [Nat.reduceMul, Nat.reduceAdd] at hn
        clear ho
        go_simp
        exact hK undef _ (((Chg.refl [b] w1).setCell (.inl (by simp)) _).setCell (.inl (by simp)) _) (DX.two (by rw [up.size]; decide) hn) rfl
  intro w1 hg listed hl hx
  refine upon_w' (js := [0, 1, 2, 3, 4, 5, 6, 7, 8]) (by rfl) ?_
  refine upon_c (x := some 89) (by kernel_rfl) rfl fun v0 h0 => ?_
  rcases h0 with rfl
  refine upon_c (x := some 90) (by kernel_rfl) rfl fun v1 h1 => ?_
  rcases h1 with rfl
  refine upon_c (x := some 91) (by kernel_rfl) rfl fun v2 h2 => ?_
  rcases h2 with rfl
  refine upon_c (x := some 92) (by kernel_rfl) rfl fun v3 h3 => ?_
  rcases h3 with rfl
  refine upon_c (x := some 93) (by kernel_rfl) rfl fun v4 h4 => ?_
  rcases h4 with rfl
  refine upon_c (x := none) (by kernel_rfl) rfl fun v5 h5 => ?_
  rcases h5 with rfl
  refine upon_c (x := some 94) (by kernel_rfl) rfl fun v6 h6 => ?_
  rcases h6 with rfl
  refine upon_c (x := some 95) (by kernel_rfl) rfl fun v7 h7 => ?_
  rcases h7 with rfl
  refine upon_c (x := none) (by kernel_rfl) rfl fun v8 h8 => ?_
  rcases h8 with rfl
  refine upon_n ?_
  go_simp
  have B5 := hid (B7.out.store (hx.fin (hl 8 (by decide))) hg)
  have HM5 := hid (HM7.out.keep hg (fun k hk hm => by have := HF2.out k hk; have := List.mem_singleton.1 hm; omega))
  clear B7 HM7 hg hx hl
  have HM6 := hid (HM5.out.data (O' := { (O1.setDate 7 (true, now)).setDate 6 (true, ot) with reason := 2, msg := msg, st := 6 }) rfl rfl rfl rfl (by have := HDL.out; simpa [ObjD.setDate] using this))
  clear HM5
  go_wp2_with (first | (refine wpList_load_row rfl 35 _ rfl b rfl _ _ _ _ B5.out.obj Tryd.underlying35 rfl (by rw [objCells_size]; exact oSizeO) ?_) | (refine wpList_store_obj rfl 35 _ _ rfl (b + 1 + 1) rfl _ rfl _ _ B5.out.res rfl (by rw [objCells_size]; exact oSizeO) (oc_one _ _) ?_; intro w6 hb6 hc6 hs6; have HB6 := hid hb6; have HC6 := hid hc6; clear hb6 hc6 hs6) | go_in)
  refine bodyPost_ret (results_obj_tmp rfl _ _ (b + 1 + 1) _ _ _ _ rfl HB6.out Tryd.underlying35 rfl (by rw [objCells_size]; exact oSizeO) _ rfl) rfl ?_
  refine ⟨s2, rfl, HM6.out.keep HC6.out (fun k hk hm => by have := HF2.out k hk; have := List.mem_singleton.1 hm; omega), fun k hk => by have := HF2.out k hk; omega, ?_⟩
  exact B5.out.bel.trans (HC6.out.below (fun k hk => by rw [List.mem_singleton.1 hk]; omega) (by have := B5.out.size; omega))
end Go.Proofs.YtgenbpndphdgnaaDoor
