/- life: Activate, Archive, Recover, Destroy. -/
import Derived.Test.YtgenbpndphdgnaaDoorLife2
import Derived.Deep.DeepMust
namespace Go.Proofs.YtgenbpndphdgnaaDoor
open Go.RowKit
set_option linter.unusedVariables false
set_option linter.unusedSimpArgs false
set_option maxRecDepth 100000
set_option maxHeartbeats 1600000

theorem results_obj_tmp {P : Program} {fn : Func} {p q : Tmp} {ty : TypeId} (h : fn.results = #[.cell p ty, .tmp q]) (tmps : Array Value) (w : World) (g : Nat) (t : TypeId) (cs : Array Value) (fr : Nat × Nat) (d : TypeDesc)
    (hp : tmps.getD p undef = .pointer (some ⟨g, 0, none⟩)) (hg : w.heap[g]? = some (.cells cs t fr))
    (hu : P.underlying ty = some d) (hd : (match d with | .struct _ | .array _ _ => true | _ => false) = true) (hi : (P.info? ty).map (·.size) = some cs.size) (v : Value) (hv : tmps.getD q undef = v) :
    (results fn tmps).run P w = .ok (.tuple #[.agg cs, v]) w := by
  have hp' : tmps[p]?.getD undef = .pointer (some ⟨g, 0, none⟩) := by simpa using hp
  have hv' : tmps[q]?.getD undef = v := by simpa using hv
  simp [results, h, hp', hv', asAddr, run_loadVar_row w g t ty cs fr d hg hu hd hi]
theorem Box2.same {T : TypeId} {O O' : ObjD} {s s' : ObjV} {w W : World} {b : Nat} (h : Box2 T O s w W b) (he : objCells O s = objCells O' s') : Box2 T O' s' w W b := ⟨he ▸ h.obj, h.res, h.bel, h.size⟩
/-- What a call gives: an object, of its own memory, and a reason. -/
def ActRes (B : Nat) (w : World) (x : ObjD × Int) (e : Ending) (w' : World) : Prop :=
  ∃ s' : ObjV, e = .returned (.tuple #[.agg (objCells x.1 s'), .int .i64 x.2]) ∧ ObjM w' x.1 s' ∧ (∀ k ∈ s'.foot, B ≤ k) ∧ Below B w w'
theorem buildZ (w : World) : (Instr.build 35 #[]).run Tryd.prog w = .ok (.agg (objCells zObj zObjV)) w := by kernel_rfl
theorem ObjM.noMat {w : World} {O O' : ObjD} {s : ObjV} (h : ObjM w O s) (h1 : O'.mat = []) (h2 : O'.names = O.names) (h3 : O'.links = O.links) (h4 : O'.custom = O.custom) (h5 : O'.dates.length = 10) : ObjM w O' { s with mat := {} } :=
  ⟨h1 ▸ (ObjM.zero w).mat, h2 ▸ h.names, h3 ▸ h.links, h4 ▸ h.custom, h5⟩
def actV (O : ObjD) (t : Int) : ObjD × Int := if O.arch = true then (zObj, 13) else if O.st = 1 then ({ (O.setDate 9 (true, t)).setDate 1 (true, t) with st := 2 }, 0) else (zObj, 11)
def arcV (O : ObjD) (t : Int) : ObjD × Int := if O.arch = true then (zObj, 13) else ({ (O.setDate 9 (true, t)).setDate 8 (true, t) with arch := true }, 0)
def recV (O : ObjD) (t : Int) : ObjD × Int := if O.arch = true then ({ O.setDate 9 (true, t) with arch := false }, 0) else (zObj, 11)
def dstTo (O : ObjD) : Int := if O.st = 4 then 6 else 5
def dstV (O : ObjD) (t : Int) : ObjD × Int := if O.arch = true then (zObj, 13) else if O.st = 5 ∨ edgeB O.st (dstTo O) = false then (zObj, 11) else ({ (O.setDate 9 (true, t)).setDate 5 (true, t) with st := dstTo O, mat := [] }, 0)
theorem act_arch (O : ObjD) (s : ObjV) (now : Int) (w : World) (h : ObjM w O s) (ha : O.arch = true) :
    Calls Tryd.prog 9 #[.agg (objCells O s), .int .i64 now] w (ActRes w.heap.size w (zObj, 13)) := by
  have H := hid h; clear h
  generalize hbe : w.heap.size = b
  have HBE := hid hbe; clear hbe
  go_enter Tryd.func9, Tryd.ntmps9
  go_upto_region 1 with (refine wpList_alloc_obj rfl 35 rfl _ oZeroO ?_)
  go_simp
  have B0 := hid (box2_start (T := 35) (O := O) (s := s) (w := w) HBE.out)
  have hO := H.out.below (B0.out.bel.mono (by rw [HBE.out]; exact Nat.le_refl _))
  rw [HBE.out]
  generalize (w.alloc (.cells (objCells O s) 35)).alloc (.cells (objCells zObj zObjV) 35) = W at *
  have HO := hid hO
  clear hO H
  have hc36 := B0.out.cell (oc36 O s)
  rw [ha] at hc36
  go_wp2_with (first | (refine wpList_build_obj rfl 35 _ rfl #[] (by simp [Act.eval]) _ (buildZ _) ?_) | (refine wpList_store_obj rfl 35 _ _ rfl (b + 1) rfl _ rfl _ _ B0.out.res rfl (by rw [objCells_size]; exact oSizeO) (oc_one _ _) ?_; intro w6 hb6 hc6 hs6; have HB6 := hid hb6; have HC6 := hid hc6; clear hb6 hc6 hs6) | go_in)
  refine bodyPost_ret (results_obj_tmp rfl _ _ (b + 1) _ _ _ _ rfl HB6.out Tryd.underlying35 rfl (by rw [objCells_size]; exact oSizeO) _ rfl) rfl ?_
  exact ⟨zObjV, rfl, ObjM.zero _, (fun k hk => by simp [zObjV, ObjV.foot, Sl.blk] at hk), B0.out.bel.trans (HC6.out.below (fun k hk => by rw [List.mem_singleton.1 hk]; omega) (by have := B0.out.size; omega))⟩
theorem act_not (O : ObjD) (s : ObjV) (now : Int) (w : World) (h : ObjM w O s) (ha : O.arch = false) (h1 : O.st ≠ 1) :
    Calls Tryd.prog 9 #[.agg (objCells O s), .int .i64 now] w (ActRes w.heap.size w (zObj, 11)) := by
  have H := hid h; clear h
  generalize hbe : w.heap.size = b
  have HBE := hid hbe; clear hbe
  go_enter Tryd.func9, Tryd.ntmps9
  go_upto_region 1 with (refine wpList_alloc_obj rfl 35 rfl _ oZeroO ?_)
  go_simp
  have B0 := hid (box2_start (T := 35) (O := O) (s := s) (w := w) HBE.out)
  have hO := H.out.below (B0.out.bel.mono (by rw [HBE.out]; exact Nat.le_refl _))
  rw [HBE.out]
  generalize (w.alloc (.cells (objCells O s) 35)).alloc (.cells (objCells zObj zObjV) 35) = W at *
  have HO := hid hO
  clear hO H
  have hc36 := B0.out.cell (oc36 O s)
  rw [ha] at hc36
  have hc6 := B0.out.cell (oc6 O s)
  have hne : (O.st == 1) = false := by simpa using h1
  go_wp2_with (first | (refine wpList_build_obj rfl 35 _ rfl #[] (by simp [Act.eval]) _ (buildZ _) ?_) | (refine wpList_store_obj rfl 35 _ _ rfl (b + 1) rfl _ rfl _ _ B0.out.res rfl (by rw [objCells_size]; exact oSizeO) (oc_one _ _) ?_; intro w6 hb6 hc6 hs6; have HB6 := hid hb6; have HC6 := hid hc6; clear hb6 hc6 hs6) | go_in)
  refine bodyPost_ret (results_obj_tmp rfl _ _ (b + 1) _ _ _ _ rfl HB6.out Tryd.underlying35 rfl (by rw [objCells_size]; exact oSizeO) _ rfl) rfl ?_
  exact ⟨zObjV, rfl, ObjM.zero _, (fun k hk => by simp [zObjV, ObjV.foot, Sl.blk] at hk), B0.out.bel.trans (HC6.out.below (fun k hk => by rw [List.mem_singleton.1 hk]; omega) (by have := B0.out.size; omega))⟩
theorem act_ok (O : ObjD) (s : ObjV) (now : Int) (w : World) (h : ObjM w O s) (ha : O.arch = false) (h1 : O.st = 1) :
    Calls Tryd.prog 9 #[.agg (objCells O s), .int .i64 now] w (ActRes w.heap.size w ({ (O.setDate 9 (true, now)).setDate 1 (true, now) with st := 2 }, 0)) := by
  have H := hid h; clear h
  generalize hbe : w.heap.size = b
  have HBE := hid hbe; clear hbe
  go_enter Tryd.func9, Tryd.ntmps9
  go_upto_region 1 with (refine wpList_alloc_obj rfl 35 rfl _ oZeroO ?_)
  go_simp
  have B0 := hid (box2_start (T := 35) (O := O) (s := s) (w := w) HBE.out)
  have hO := H.out.below (B0.out.bel.mono (by rw [HBE.out]; exact Nat.le_refl _))
  rw [HBE.out]
  generalize (w.alloc (.cells (objCells O s) 35)).alloc (.cells (objCells zObj zObjV) 35) = W at *
  have HO := hid hO
  clear hO H
  have hc36 := B0.out.cell (oc36 O s)
  rw [ha] at hc36
  have hc6 := B0.out.cell (oc6 O s)
  rw [h1] at hc6
  go_wp2_with (first | (refine wpList_load_row rfl 35 _ rfl b rfl _ _ _ _ B0.out.obj Tryd.underlying35 rfl (by rw [objCells_size]; exact oSizeO) ?_) | fail)
  refine (change_any O s now _ HO.out).mono ?_
  rintro e w2 ⟨s2, rfl, hm2, hf2, hb2⟩
  have B2 := hid (B0.out.below hb2)
  have HM2 := hid hm2
  have HF2 := hid (fun k hk => Nat.le_trans B0.out.size (hf2 k hk))
  clear hm2 hf2 hb2 B0 HO
  clear hc6 hc36
  go_wp2_with (refine wpList_store_obj rfl 35 _ _ rfl b rfl _ rfl _ _ B2.out.obj rfl (by rw [objCells_size]; exact oSizeO) (oc_one _ _) ?_; intro w3 hb3 hc3 hs3; have B3 := hid (B2.out.store hb3 hc3); have HM3 := hid (HM2.out.keep hc3 (fun k hk hm => by have := HF2.out k hk; have := List.mem_singleton.1 hm; omega)); clear hb3 hc3 hs3)
  refine (at_any now _).mono ?_
  rintro e w4 ⟨rfl, hb4⟩
  have b4 := B3.out.below hb4
  have HM4 := hid (HM3.out.below hb4)
  clear hb4 B3 HM3 B2 HM2
  have hfz := b4.fz
  have c6 := b4.cell (oc6 _ s2)
  have c9 := b4.cell (j := 9) rfl
  have c10 := b4.cell (j := 10) rfl
  have B5 := hid ((b4.set 6 (.int .i64 2) (os6 _ s2 2)).date (O := { O.setDate 9 (true, now) with st := 2 }) (by have := HM4.out.dl; simpa using this) 1 (by decide) true now)
  have HM5 := hid (HM4.out.keep ((((Chg.refl [b] w4).setCell (p := ⟨b, 6, none⟩) (.inl (by simp)) (.int .i64 2)).setCell (p := ⟨b, 9, none⟩) (.inl (by simp)) (.bool true)).setCell (p := ⟨b, 10, none⟩) (.inl (by simp)) (.int .i64 now)) (fun k hk hm => by have := HF2.out k hk; have := List.mem_singleton.1 hm; omega))
  have HFF := HF2
  clear b4
  go_upto_region 7 with (fail)
  simp only [Nat.reduceMul, Nat.reduceAdd] at B5
  generalize (((w4.setCell ⟨b, 6, none⟩ (.int .i64 2)).setCell ⟨b, 9, none⟩ (.bool true)).setCell ⟨b, 10, none⟩ (.int .i64 now)) = w5 at *
  clear hfz c6 c9 c10
  have HM6 := hid (HM5.out.data (O' := { (O.setDate 9 (true, now)).setDate 1 (true, now) with st := 2 }) rfl rfl rfl rfl (by have := HM4.out.dl; simpa [ObjD.setDate] using this))
  clear HM4 HM5
  go_wp2_with (first | (refine wpList_load_row rfl 35 _ rfl b rfl _ _ _ _ B5.out.obj Tryd.underlying35 rfl (by rw [objCells_size]; exact oSizeO) ?_) | (refine wpList_store_obj rfl 35 _ _ rfl (b + 1) rfl _ rfl _ _ B5.out.res rfl (by rw [objCells_size]; exact oSizeO) (oc_one _ _) ?_; intro w6 hb6 hc6 hs6; have HB6 := hid hb6; have HC6 := hid hc6; clear hb6 hc6 hs6) | go_in)
  refine bodyPost_ret (results_obj_tmp rfl _ _ (b + 1) _ _ _ _ rfl HB6.out Tryd.underlying35 rfl (by rw [objCells_size]; exact oSizeO) _ rfl) rfl ?_
  refine ⟨s2, rfl, HM6.out.keep HC6.out (fun k hk hm => by have := HFF.out k hk; have := List.mem_singleton.1 hm; omega), fun k hk => by have := HFF.out k hk; omega, ?_⟩
  exact B5.out.bel.trans (HC6.out.below (fun k hk => by rw [List.mem_singleton.1 hk]; omega) (by have := B5.out.size; omega))
theorem act_any (O : ObjD) (s : ObjV) (now : Int) (w : World) (h : ObjM w O s) :
    Calls Tryd.prog 9 #[.agg (objCells O s), .int .i64 now] w (ActRes w.heap.size w (actV O now)) := by
  unfold actV
  by_cases ha : O.arch = true
  · rw [if_pos ha]; exact act_arch O s now w h ha
  · rw [if_neg ha]
    by_cases h1 : O.st = 1
    · rw [if_pos h1]; exact act_ok O s now w h (by simpa using ha) h1
    · rw [if_neg h1]; exact act_not O s now w h (by simpa using ha) h1
theorem arc_arch (O : ObjD) (s : ObjV) (now : Int) (w : World) (h : ObjM w O s) (ha : O.arch = true) :
    Calls Tryd.prog 12 #[.agg (objCells O s), .int .i64 now] w (ActRes w.heap.size w (zObj, 13)) := by
  have H := hid h; clear h
  generalize hbe : w.heap.size = b
  have HBE := hid hbe; clear hbe
  go_enter Tryd.func12, Tryd.ntmps12
  go_upto_region 1 with (refine wpList_alloc_obj rfl 35 rfl _ oZeroO ?_)
  go_simp
  have B0 := hid (box2_start (T := 35) (O := O) (s := s) (w := w) HBE.out)
  have hO := H.out.below (B0.out.bel.mono (by rw [HBE.out]; exact Nat.le_refl _))
  rw [HBE.out]
  generalize (w.alloc (.cells (objCells O s) 35)).alloc (.cells (objCells zObj zObjV) 35) = W at *
  have HO := hid hO
  clear hO H
  have hc36 := B0.out.cell (oc36 O s)
  rw [ha] at hc36
  go_wp2_with (first | (refine wpList_build_obj rfl 35 _ rfl #[] (by simp [Act.eval]) _ (buildZ _) ?_) | (refine wpList_store_obj rfl 35 _ _ rfl (b + 1) rfl _ rfl _ _ B0.out.res rfl (by rw [objCells_size]; exact oSizeO) (oc_one _ _) ?_; intro w6 hb6 hc6 hs6; have HB6 := hid hb6; have HC6 := hid hc6; clear hb6 hc6 hs6) | go_in)
  refine bodyPost_ret (results_obj_tmp rfl _ _ (b + 1) _ _ _ _ rfl HB6.out Tryd.underlying35 rfl (by rw [objCells_size]; exact oSizeO) _ rfl) rfl ?_
  exact ⟨zObjV, rfl, ObjM.zero _, (fun k hk => by simp [zObjV, ObjV.foot, Sl.blk] at hk), B0.out.bel.trans (HC6.out.below (fun k hk => by rw [List.mem_singleton.1 hk]; omega) (by have := B0.out.size; omega))⟩
theorem arc_ok (O : ObjD) (s : ObjV) (now : Int) (w : World) (h : ObjM w O s) (ha : O.arch = false) :
    Calls Tryd.prog 12 #[.agg (objCells O s), .int .i64 now] w (ActRes w.heap.size w ({ (O.setDate 9 (true, now)).setDate 8 (true, now) with arch := true }, 0)) := by
  have H := hid h; clear h
  generalize hbe : w.heap.size = b
  have HBE := hid hbe; clear hbe
  go_enter Tryd.func12, Tryd.ntmps12
  go_upto_region 1 with (refine wpList_alloc_obj rfl 35 rfl _ oZeroO ?_)
  go_simp
  have B0 := hid (box2_start (T := 35) (O := O) (s := s) (w := w) HBE.out)
  have hO := H.out.below (B0.out.bel.mono (by rw [HBE.out]; exact Nat.le_refl _))
  rw [HBE.out]
  generalize (w.alloc (.cells (objCells O s) 35)).alloc (.cells (objCells zObj zObjV) 35) = W at *
  have HO := hid hO
  clear hO H
  have hc36 := B0.out.cell (oc36 O s)
  rw [ha] at hc36
  go_wp2_with (first | (refine wpList_load_row rfl 35 _ rfl b rfl _ _ _ _ B0.out.obj Tryd.underlying35 rfl (by rw [objCells_size]; exact oSizeO) ?_) | fail)
  refine (change_any O s now _ HO.out).mono ?_
  rintro e w2 ⟨s2, rfl, hm2, hf2, hb2⟩
  have B2 := hid (B0.out.below hb2)
  have HM2 := hid hm2
  have HF2 := hid (fun k hk => Nat.le_trans B0.out.size (hf2 k hk))
  clear hm2 hf2 hb2 B0 HO
  clear hc36
  go_wp2_with (refine wpList_store_obj rfl 35 _ _ rfl b rfl _ rfl _ _ B2.out.obj rfl (by rw [objCells_size]; exact oSizeO) (oc_one _ _) ?_; intro w3 hb3 hc3 hs3; have B3 := hid (B2.out.store hb3 hc3); have HM3 := hid (HM2.out.keep hc3 (fun k hk hm => by have := HF2.out k hk; have := List.mem_singleton.1 hm; omega)); clear hb3 hc3 hs3)
  refine (at_any now _).mono ?_
  rintro e w4 ⟨rfl, hb4⟩
  have b4 := B3.out.below hb4
  have HM4 := hid (HM3.out.below hb4)
  clear hb4 B3 HM3 B2 HM2
  have hfz := b4.fz
  have c36 := b4.cell (oc36 _ s2)
  have c23 := b4.cell (j := 23) rfl
  have c24 := b4.cell (j := 24) rfl
  have B5 := hid ((b4.set 36 (.bool true) (os36 _ s2 true)).date (O := { O.setDate 9 (true, now) with arch := true }) (by have := HM4.out.dl; simpa using this) 8 (by decide) true now)
  have HM5 := hid (HM4.out.keep ((((Chg.refl [b] w4).setCell (p := ⟨b, 36, none⟩) (.inl (by simp)) (.bool true)).setCell (p := ⟨b, 23, none⟩) (.inl (by simp)) (.bool true)).setCell (p := ⟨b, 24, none⟩) (.inl (by simp)) (.int .i64 now)) (fun k hk hm => by have := HF2.out k hk; have := List.mem_singleton.1 hm; omega))
  have HFF := HF2
  clear b4
  go_upto_region 5 with (fail)
  simp only [Nat.reduceMul, Nat.reduceAdd] at B5
  generalize (((w4.setCell ⟨b, 36, none⟩ (.bool true)).setCell ⟨b, 23, none⟩ (.bool true)).setCell ⟨b, 24, none⟩ (.int .i64 now)) = w5 at *
  clear hfz c36 c23 c24
  have HM6 := hid (HM5.out.data (O' := { (O.setDate 9 (true, now)).setDate 8 (true, now) with arch := true }) rfl rfl rfl rfl (by have := HM4.out.dl; simpa [ObjD.setDate] using this))
  clear HM4 HM5
  go_wp2_with (first | (refine wpList_load_row rfl 35 _ rfl b rfl _ _ _ _ B5.out.obj Tryd.underlying35 rfl (by rw [objCells_size]; exact oSizeO) ?_) | (refine wpList_store_obj rfl 35 _ _ rfl (b + 1) rfl _ rfl _ _ B5.out.res rfl (by rw [objCells_size]; exact oSizeO) (oc_one _ _) ?_; intro w6 hb6 hc6 hs6; have HB6 := hid hb6; have HC6 := hid hc6; clear hb6 hc6 hs6) | go_in)
  refine bodyPost_ret (results_obj_tmp rfl _ _ (b + 1) _ _ _ _ rfl HB6.out Tryd.underlying35 rfl (by rw [objCells_size]; exact oSizeO) _ rfl) rfl ?_
  refine ⟨s2, rfl, HM6.out.keep HC6.out (fun k hk hm => by have := HFF.out k hk; have := List.mem_singleton.1 hm; omega), fun k hk => by have := HFF.out k hk; omega, ?_⟩
  exact B5.out.bel.trans (HC6.out.below (fun k hk => by rw [List.mem_singleton.1 hk]; omega) (by have := B5.out.size; omega))
theorem arc_any (O : ObjD) (s : ObjV) (now : Int) (w : World) (h : ObjM w O s) :
    Calls Tryd.prog 12 #[.agg (objCells O s), .int .i64 now] w (ActRes w.heap.size w (arcV O now)) := by
  unfold arcV
  by_cases ha : O.arch = true
  · rw [if_pos ha]; exact arc_arch O s now w h ha
  · rw [if_neg ha]; exact arc_ok O s now w h (by simpa using ha)
theorem rec_not (O : ObjD) (s : ObjV) (now : Int) (w : World) (h : ObjM w O s) (ha : O.arch = false) :
    Calls Tryd.prog 13 #[.agg (objCells O s), .int .i64 now] w (ActRes w.heap.size w (zObj, 11)) := by
  have H := hid h; clear h
  generalize hbe : w.heap.size = b
  have HBE := hid hbe; clear hbe
  go_enter Tryd.func13, Tryd.ntmps13
  go_upto_region 1 with (refine wpList_alloc_obj rfl 35 rfl _ oZeroO ?_)
  go_simp
  have B0 := hid (box2_start (T := 35) (O := O) (s := s) (w := w) HBE.out)
  have hO := H.out.below (B0.out.bel.mono (by rw [HBE.out]; exact Nat.le_refl _))
  rw [HBE.out]
  generalize (w.alloc (.cells (objCells O s) 35)).alloc (.cells (objCells zObj zObjV) 35) = W at *
  have HO := hid hO
  clear hO H
  have hc36 := B0.out.cell (oc36 O s)
  rw [ha] at hc36
  go_wp2_with (first | (refine wpList_build_obj rfl 35 _ rfl #[] (by simp [Act.eval]) _ (buildZ _) ?_) | (refine wpList_store_obj rfl 35 _ _ rfl (b + 1) rfl _ rfl _ _ B0.out.res rfl (by rw [objCells_size]; exact oSizeO) (oc_one _ _) ?_; intro w6 hb6 hc6 hs6; have HB6 := hid hb6; have HC6 := hid hc6; clear hb6 hc6 hs6) | go_in)
  refine bodyPost_ret (results_obj_tmp rfl _ _ (b + 1) _ _ _ _ rfl HB6.out Tryd.underlying35 rfl (by rw [objCells_size]; exact oSizeO) _ rfl) rfl ?_
  exact ⟨zObjV, rfl, ObjM.zero _, (fun k hk => by simp [zObjV, ObjV.foot, Sl.blk] at hk), B0.out.bel.trans (HC6.out.below (fun k hk => by rw [List.mem_singleton.1 hk]; omega) (by have := B0.out.size; omega))⟩
theorem rec_ok (O : ObjD) (s : ObjV) (now : Int) (w : World) (h : ObjM w O s) (ha : O.arch = true) :
    Calls Tryd.prog 13 #[.agg (objCells O s), .int .i64 now] w (ActRes w.heap.size w ({ O.setDate 9 (true, now) with arch := false }, 0)) := by
  have H := hid h; clear h
  generalize hbe : w.heap.size = b
  have HBE := hid hbe; clear hbe
  go_enter Tryd.func13, Tryd.ntmps13
  go_upto_region 1 with (refine wpList_alloc_obj rfl 35 rfl _ oZeroO ?_)
  go_simp
  have B0 := hid (box2_start (T := 35) (O := O) (s := s) (w := w) HBE.out)
  have hO := H.out.below (B0.out.bel.mono (by rw [HBE.out]; exact Nat.le_refl _))
  rw [HBE.out]
  generalize (w.alloc (.cells (objCells O s) 35)).alloc (.cells (objCells zObj zObjV) 35) = W at *
  have HO := hid hO
  clear hO H
  have hc36 := B0.out.cell (oc36 O s)
  rw [ha] at hc36
  go_wp2_with (first | (refine wpList_load_row rfl 35 _ rfl b rfl _ _ _ _ B0.out.obj Tryd.underlying35 rfl (by rw [objCells_size]; exact oSizeO) ?_) | fail)
  refine (change_any O s now _ HO.out).mono ?_
  rintro e w2 ⟨s2, rfl, hm2, hf2, hb2⟩
  have B2 := hid (B0.out.below hb2)
  have HM2 := hid hm2
  have HF2 := hid (fun k hk => Nat.le_trans B0.out.size (hf2 k hk))
  clear hm2 hf2 hb2 B0 HO
  clear hc36
  go_upto_region 4 with (refine wpList_store_obj rfl 35 _ _ rfl b rfl _ rfl _ _ B2.out.obj rfl (by rw [objCells_size]; exact oSizeO) (oc_one _ _) ?_; intro w3 hb3 hc3 hs3; have B3 := hid (B2.out.store hb3 hc3); have HM3 := hid (HM2.out.keep hc3 (fun k hk hm => by have := HF2.out k hk; have := List.mem_singleton.1 hm; omega)); clear hb3 hc3 hs3)
  have b4 := B3.out
  have HM4 := HM3
  have hfz := b4.fz
  have c36 := b4.cell (oc36 _ s2)
  have B5 := hid (b4.set 36 (.bool false) (os36 _ s2 false))
  have HM5 := hid (HM4.out.keep ((Chg.refl [b] w3).setCell (p := ⟨b, 36, none⟩) (.inl (by simp)) (.bool false)) (fun k hk hm => by have := HF2.out k hk; have := List.mem_singleton.1 hm; omega))
  have HFF := HF2
  clear b4 B3 HM3 B2 HM2
  go_upto_region 5 with (fail)
  generalize (w3.setCell ⟨b, 36, none⟩ (.bool false)) = w5 at *
  clear hfz c36
  have HM6 := hid (HM5.out.data (O' := { O.setDate 9 (true, now) with arch := false }) rfl rfl rfl rfl (by have := HM4.out.dl; simpa [ObjD.setDate] using this))
  clear HM4 HM5
  go_wp2_with (first | (refine wpList_load_row rfl 35 _ rfl b rfl _ _ _ _ B5.out.obj Tryd.underlying35 rfl (by rw [objCells_size]; exact oSizeO) ?_) | (refine wpList_store_obj rfl 35 _ _ rfl (b + 1) rfl _ rfl _ _ B5.out.res rfl (by rw [objCells_size]; exact oSizeO) (oc_one _ _) ?_; intro w6 hb6 hc6 hs6; have HB6 := hid hb6; have HC6 := hid hc6; clear hb6 hc6 hs6) | go_in)
  refine bodyPost_ret (results_obj_tmp rfl _ _ (b + 1) _ _ _ _ rfl HB6.out Tryd.underlying35 rfl (by rw [objCells_size]; exact oSizeO) _ rfl) rfl ?_
  refine ⟨s2, rfl, HM6.out.keep HC6.out (fun k hk hm => by have := HFF.out k hk; have := List.mem_singleton.1 hm; omega), fun k hk => by have := HFF.out k hk; omega, ?_⟩
  exact B5.out.bel.trans (HC6.out.below (fun k hk => by rw [List.mem_singleton.1 hk]; omega) (by have := B5.out.size; omega))
theorem rec_any (O : ObjD) (s : ObjV) (now : Int) (w : World) (h : ObjM w O s) :
    Calls Tryd.prog 13 #[.agg (objCells O s), .int .i64 now] w (ActRes w.heap.size w (recV O now)) := by
  unfold recV
  by_cases ha : O.arch = true
  · rw [if_pos ha]; exact rec_ok O s now w h ha
  · rw [if_neg ha]; exact rec_not O s now w h (by simpa using ha)
theorem dst_arch4 (O : ObjD) (s : ObjV) (now : Int) (w : World) (h : ObjM w O s) (ha : O.arch = true) (h4 : O.st = 4)  :
    Calls Tryd.prog 11 #[.agg (objCells O s), .int .i64 now] w (ActRes w.heap.size w (zObj, 13)) := by
  have H := hid h; clear h
  generalize hbe : w.heap.size = b
  have HBE := hid hbe; clear hbe
  go_enter Tryd.func11, Tryd.ntmps11
  go_upto_region 1 with (refine wpList_alloc_obj rfl 35 rfl _ oZeroO ?_)
  go_simp
  have B0 := hid (box2_start (T := 35) (O := O) (s := s) (w := w) HBE.out)
  have hO := H.out.below (B0.out.bel.mono (by rw [HBE.out]; exact Nat.le_refl _))
  rw [HBE.out]
  generalize (w.alloc (.cells (objCells O s) 35)).alloc (.cells (objCells zObj zObjV) 35) = W at *
  have HO := hid hO
  clear hO H
  have hc36 := B0.out.cell (oc36 O s)
  rw [ha] at hc36
  have hc6 := B0.out.cell (oc6 O s)
  rw [h4] at hc6
  clear h4
  go_wp2_with (first | (refine wpList_build_obj rfl 35 _ rfl #[] (by simp [Act.eval]) _ (buildZ _) ?_) | (refine wpList_store_obj rfl 35 _ _ rfl (b + 1) rfl _ rfl _ _ B0.out.res rfl (by rw [objCells_size]; exact oSizeO) (oc_one _ _) ?_; intro w6 hb6 hc6 hs6; have HB6 := hid hb6; have HC6 := hid hc6; clear hb6 hc6 hs6) | go_in)
  refine bodyPost_ret (results_obj_tmp rfl _ _ (b + 1) _ _ _ _ rfl HB6.out Tryd.underlying35 rfl (by rw [objCells_size]; exact oSizeO) _ rfl) rfl ?_
  exact ⟨zObjV, rfl, ObjM.zero _, (fun k hk => by simp [zObjV, ObjV.foot, Sl.blk] at hk), B0.out.bel.trans (HC6.out.below (fun k hk => by rw [List.mem_singleton.1 hk]; omega) (by have := B0.out.size; omega))⟩
theorem dst_archN (O : ObjD) (s : ObjV) (now : Int) (w : World) (h : ObjM w O s) (ha : O.arch = true) (h4 : O.st ≠ 4)  :
    Calls Tryd.prog 11 #[.agg (objCells O s), .int .i64 now] w (ActRes w.heap.size w (zObj, 13)) := by
  have H := hid h; clear h
  generalize hbe : w.heap.size = b
  have HBE := hid hbe; clear hbe
  go_enter Tryd.func11, Tryd.ntmps11
  go_upto_region 1 with (refine wpList_alloc_obj rfl 35 rfl _ oZeroO ?_)
  go_simp
  have B0 := hid (box2_start (T := 35) (O := O) (s := s) (w := w) HBE.out)
  have hO := H.out.below (B0.out.bel.mono (by rw [HBE.out]; exact Nat.le_refl _))
  rw [HBE.out]
  generalize (w.alloc (.cells (objCells O s) 35)).alloc (.cells (objCells zObj zObjV) 35) = W at *
  have HO := hid hO
  clear hO H
  have hc36 := B0.out.cell (oc36 O s)
  rw [ha] at hc36
  have hc6 := B0.out.cell (oc6 O s)
  have hn4 : (O.st == 4) = false := by simpa using h4
  clear h4
  go_wp2_with (first | (refine wpList_build_obj rfl 35 _ rfl #[] (by simp [Act.eval]) _ (buildZ _) ?_) | (refine wpList_store_obj rfl 35 _ _ rfl (b + 1) rfl _ rfl _ _ B0.out.res rfl (by rw [objCells_size]; exact oSizeO) (oc_one _ _) ?_; intro w6 hb6 hc6 hs6; have HB6 := hid hb6; have HC6 := hid hc6; clear hb6 hc6 hs6) | go_in)
  refine bodyPost_ret (results_obj_tmp rfl _ _ (b + 1) _ _ _ _ rfl HB6.out Tryd.underlying35 rfl (by rw [objCells_size]; exact oSizeO) _ rfl) rfl ?_
  exact ⟨zObjV, rfl, ObjM.zero _, (fun k hk => by simp [zObjV, ObjV.foot, Sl.blk] at hk), B0.out.bel.trans (HC6.out.below (fun k hk => by rw [List.mem_singleton.1 hk]; omega) (by have := B0.out.size; omega))⟩
theorem dst_five (O : ObjD) (s : ObjV) (now : Int) (w : World) (h : ObjM w O s) (ha : O.arch = false) (h4 : O.st ≠ 4) (h5 : O.st = 5) :
    Calls Tryd.prog 11 #[.agg (objCells O s), .int .i64 now] w (ActRes w.heap.size w (zObj, 11)) := by
  have H := hid h; clear h
  generalize hbe : w.heap.size = b
  have HBE := hid hbe; clear hbe
  go_enter Tryd.func11, Tryd.ntmps11
  go_upto_region 1 with (refine wpList_alloc_obj rfl 35 rfl _ oZeroO ?_)
  go_simp
  have B0 := hid (box2_start (T := 35) (O := O) (s := s) (w := w) HBE.out)
  have hO := H.out.below (B0.out.bel.mono (by rw [HBE.out]; exact Nat.le_refl _))
  rw [HBE.out]
  generalize (w.alloc (.cells (objCells O s) 35)).alloc (.cells (objCells zObj zObjV) 35) = W at *
  have HO := hid hO
  clear hO H
  have hc36 := B0.out.cell (oc36 O s)
  rw [ha] at hc36
  have hc6 := B0.out.cell (oc6 O s)
  rw [h5] at hc6
  clear h4
  go_wp2_with (first | (refine wpList_build_obj rfl 35 _ rfl #[] (by simp [Act.eval]) _ (buildZ _) ?_) | (refine wpList_store_obj rfl 35 _ _ rfl (b + 1) rfl _ rfl _ _ B0.out.res rfl (by rw [objCells_size]; exact oSizeO) (oc_one _ _) ?_; intro w6 hb6 hc6 hs6; have HB6 := hid hb6; have HC6 := hid hc6; clear hb6 hc6 hs6) | go_in)
  refine bodyPost_ret (results_obj_tmp rfl _ _ (b + 1) _ _ _ _ rfl HB6.out Tryd.underlying35 rfl (by rw [objCells_size]; exact oSizeO) _ rfl) rfl ?_
  exact ⟨zObjV, rfl, ObjM.zero _, (fun k hk => by simp [zObjV, ObjV.foot, Sl.blk] at hk), B0.out.bel.trans (HC6.out.below (fun k hk => by rw [List.mem_singleton.1 hk]; omega) (by have := B0.out.size; omega))⟩
theorem dst_edge4 (O : ObjD) (s : ObjV) (now : Int) (w : World) (h : ObjM w O s) (ha : O.arch = false) (h4 : O.st = 4) (h5 : O.st ≠ 5) (hedge : edgeB O.st 6 = false) :
    Calls Tryd.prog 11 #[.agg (objCells O s), .int .i64 now] w (ActRes w.heap.size w (zObj, 11)) := by
  have H := hid h; clear h
  generalize hbe : w.heap.size = b
  have HBE := hid hbe; clear hbe
  go_enter Tryd.func11, Tryd.ntmps11
  go_upto_region 1 with (refine wpList_alloc_obj rfl 35 rfl _ oZeroO ?_)
  go_simp
  have B0 := hid (box2_start (T := 35) (O := O) (s := s) (w := w) HBE.out)
  have hO := H.out.below (B0.out.bel.mono (by rw [HBE.out]; exact Nat.le_refl _))
  rw [HBE.out]
  generalize (w.alloc (.cells (objCells O s) 35)).alloc (.cells (objCells zObj zObjV) 35) = W at *
  have HO := hid hO
  clear hO H
  have hc36 := B0.out.cell (oc36 O s)
  rw [ha] at hc36
  have HE := hid hedge; clear hedge
  have hc6 := B0.out.cell (oc6 O s)
  rw [h4] at hc6
  rw [h4] at HE
  clear h4 h5
  go_wp2_with (first | (go_at_call 15; refine (edge_any _ _ _).mono ?_; rintro e u ⟨rfl, rfl⟩; rw [HE.out]) | (refine wpList_build_obj rfl 35 _ rfl #[] (by simp [Act.eval]) _ (buildZ _) ?_) | (refine wpList_store_obj rfl 35 _ _ rfl (b + 1) rfl _ rfl _ _ B0.out.res rfl (by rw [objCells_size]; exact oSizeO) (oc_one _ _) ?_; intro w6 hb6 hc6 hs6; have HB6 := hid hb6; have HC6 := hid hc6; clear hb6 hc6 hs6) | go_in)
  refine bodyPost_ret (results_obj_tmp rfl _ _ (b + 1) _ _ _ _ rfl HB6.out Tryd.underlying35 rfl (by rw [objCells_size]; exact oSizeO) _ rfl) rfl ?_
  exact ⟨zObjV, rfl, ObjM.zero _, (fun k hk => by simp [zObjV, ObjV.foot, Sl.blk] at hk), B0.out.bel.trans (HC6.out.below (fun k hk => by rw [List.mem_singleton.1 hk]; omega) (by have := B0.out.size; omega))⟩
theorem dst_edgeN (O : ObjD) (s : ObjV) (now : Int) (w : World) (h : ObjM w O s) (ha : O.arch = false) (h4 : O.st ≠ 4) (h5 : O.st ≠ 5) (hedge : edgeB O.st 5 = false) :
    Calls Tryd.prog 11 #[.agg (objCells O s), .int .i64 now] w (ActRes w.heap.size w (zObj, 11)) := by
  have H := hid h; clear h
  generalize hbe : w.heap.size = b
  have HBE := hid hbe; clear hbe
  go_enter Tryd.func11, Tryd.ntmps11
  go_upto_region 1 with (refine wpList_alloc_obj rfl 35 rfl _ oZeroO ?_)
  go_simp
  have B0 := hid (box2_start (T := 35) (O := O) (s := s) (w := w) HBE.out)
  have hO := H.out.below (B0.out.bel.mono (by rw [HBE.out]; exact Nat.le_refl _))
  rw [HBE.out]
  generalize (w.alloc (.cells (objCells O s) 35)).alloc (.cells (objCells zObj zObjV) 35) = W at *
  have HO := hid hO
  clear hO H
  have hc36 := B0.out.cell (oc36 O s)
  rw [ha] at hc36
  have HE := hid hedge; clear hedge
  have hc6 := B0.out.cell (oc6 O s)
  have hn4 : (O.st == 4) = false := by simpa using h4
  have hn5 : (O.st == 5) = false := by simpa using h5
  clear h4 h5
  go_wp2_with (first | (go_at_call 15; refine (edge_any _ _ _).mono ?_; rintro e u ⟨rfl, rfl⟩; rw [HE.out]) | (refine wpList_build_obj rfl 35 _ rfl #[] (by simp [Act.eval]) _ (buildZ _) ?_) | (refine wpList_store_obj rfl 35 _ _ rfl (b + 1) rfl _ rfl _ _ B0.out.res rfl (by rw [objCells_size]; exact oSizeO) (oc_one _ _) ?_; intro w6 hb6 hc6 hs6; have HB6 := hid hb6; have HC6 := hid hc6; clear hb6 hc6 hs6) | go_in)
  refine bodyPost_ret (results_obj_tmp rfl _ _ (b + 1) _ _ _ _ rfl HB6.out Tryd.underlying35 rfl (by rw [objCells_size]; exact oSizeO) _ rfl) rfl ?_
  exact ⟨zObjV, rfl, ObjM.zero _, (fun k hk => by simp [zObjV, ObjV.foot, Sl.blk] at hk), B0.out.bel.trans (HC6.out.below (fun k hk => by rw [List.mem_singleton.1 hk]; omega) (by have := B0.out.size; omega))⟩
theorem dst_ok4 (O : ObjD) (s : ObjV) (now : Int) (w : World) (h : ObjM w O s) (ha : O.arch = false) (h4 : O.st = 4) (h5 : O.st ≠ 5) (hedge : edgeB O.st 6 = true) :
    Calls Tryd.prog 11 #[.agg (objCells O s), .int .i64 now] w (ActRes w.heap.size w ({ (O.setDate 9 (true, now)).setDate 5 (true, now) with st := 6, mat := [] }, 0)) := by
  have H := hid h; clear h
  generalize hbe : w.heap.size = b
  have HBE := hid hbe; clear hbe
  go_enter Tryd.func11, Tryd.ntmps11
  go_upto_region 1 with (refine wpList_alloc_obj rfl 35 rfl _ oZeroO ?_)
  go_simp
  have B0 := hid (box2_start (T := 35) (O := O) (s := s) (w := w) HBE.out)
  have hO := H.out.below (B0.out.bel.mono (by rw [HBE.out]; exact Nat.le_refl _))
  rw [HBE.out]
  generalize (w.alloc (.cells (objCells O s) 35)).alloc (.cells (objCells zObj zObjV) 35) = W at *
  have HO := hid hO
  clear hO H
  have hc36 := B0.out.cell (oc36 O s)
  rw [ha] at hc36
  have HE := hid hedge; clear hedge
  have hc6 := B0.out.cell (oc6 O s)
  rw [h4] at hc6
  rw [h4] at HE
  clear h4 h5
  go_wp2_with (first | (go_at_call 15; refine (edge_any _ _ _).mono ?_; rintro e u ⟨rfl, rfl⟩; rw [HE.out]) | (refine wpList_load_row rfl 35 _ rfl b rfl _ _ _ _ B0.out.obj Tryd.underlying35 rfl (by rw [objCells_size]; exact oSizeO) ?_) | fail)
  refine (change_any O s now _ HO.out).mono ?_
  rintro e w2 ⟨s2, rfl, hm2, hf2, hb2⟩
  have B2 := hid (B0.out.below hb2)
  have HM2 := hid hm2
  have HF2 := hid (fun k hk => Nat.le_trans B0.out.size (hf2 k hk))
  clear hm2 hf2 hb2 B0 HO
  clear hc6 hc36
  go_wp2_with (refine wpList_store_obj rfl 35 _ _ rfl b rfl _ rfl _ _ B2.out.obj rfl (by rw [objCells_size]; exact oSizeO) (oc_one _ _) ?_; intro w3 hb3 hc3 hs3; have B3 := hid (B2.out.store hb3 hc3); have HM3 := hid (HM2.out.keep hc3 (fun k hk hm => by have := HF2.out k hk; have := List.mem_singleton.1 hm; omega)); clear hb3 hc3 hs3)
  refine (at_any now _).mono ?_
  rintro e w4 ⟨rfl, hb4⟩
  have b4 := B3.out.below hb4
  have HM4 := hid (HM3.out.below hb4)
  clear hb4 B3 HM3 B2 HM2
  have hfz := b4.fz
  have c6 := b4.cell (oc6 _ s2)
  have c5 := b4.cell (oc5 _ s2)
  have c17 := b4.cell (j := 17) rfl
  have c18 := b4.cell (j := 18) rfl
  have B5 := hid (((b4.set 6 (.int .i64 6) (os6 _ s2 6)).set 5 (.slice none 0 0) (os5 _ s2 none 0 0)).date (O := { O.setDate 9 (true, now) with st := 6 }) (by have := HM4.out.dl; simpa using this) 5 (by decide) true now)
  have HM5 := hid (HM4.out.keep (((((Chg.refl [b] w4).setCell (p := ⟨b, 6, none⟩) (.inl (by simp)) (.int .i64 6)).setCell (p := ⟨b, 5, none⟩) (.inl (by simp)) (.slice none 0 0)).setCell (p := ⟨b, 17, none⟩) (.inl (by simp)) (.bool true)).setCell (p := ⟨b, 18, none⟩) (.inl (by simp)) (.int .i64 now)) (fun k hk hm => by have := HF2.out k hk; have := List.mem_singleton.1 hm; omega))
  have HFF : Hid (∀ k ∈ ObjV.foot { s2 with mat := {} }, b + 2 ≤ k) := fun k hk => HF2.out k (by
    rcases mem_foot.1 hk with h' | h' | h' | h'
    · simp [Sl.blk] at h'
    · exact mem_foot.2 (.inr (.inl h'))
    · exact mem_foot.2 (.inr (.inr (.inl h')))
    · exact mem_foot.2 (.inr (.inr (.inr h'))))
  clear b4
  go_upto_region 10 with (fail)
  simp only [Nat.reduceMul, Nat.reduceAdd] at B5
  generalize ((((w4.setCell ⟨b, 6, none⟩ (.int .i64 6)).setCell ⟨b, 5, none⟩ (.slice none 0 0)).setCell ⟨b, 17, none⟩ (.bool true)).setCell ⟨b, 18, none⟩ (.int .i64 now)) = w5 at *
  clear hfz c6 c5 c17 c18
  have B5 : Hid (Box2 35 { (O.setDate 9 (true, now)).setDate 5 (true, now) with st := 6, mat := [] } { s2 with mat := {} } w w5 b) := B5.out.same rfl
  have HM6 := hid (HM5.out.noMat (O' := { (O.setDate 9 (true, now)).setDate 5 (true, now) with st := 6, mat := [] }) rfl rfl rfl rfl (by have := HM4.out.dl; simpa [ObjD.setDate] using this))
  clear HM4 HM5
  go_wp2_with (first | (refine wpList_load_row rfl 35 _ rfl b rfl _ _ _ _ B5.out.obj Tryd.underlying35 rfl (by rw [objCells_size]; exact oSizeO) ?_) | (refine wpList_store_obj rfl 35 _ _ rfl (b + 1) rfl _ rfl _ _ B5.out.res rfl (by rw [objCells_size]; exact oSizeO) (oc_one _ _) ?_; intro w6 hb6 hc6 hs6; have HB6 := hid hb6; have HC6 := hid hc6; clear hb6 hc6 hs6) | go_in)
  refine bodyPost_ret (results_obj_tmp rfl _ _ (b + 1) _ _ _ _ rfl HB6.out Tryd.underlying35 rfl (by rw [objCells_size]; exact oSizeO) _ rfl) rfl ?_
  refine ⟨{ s2 with mat := {} }, rfl, HM6.out.keep HC6.out (fun k hk hm => by have := HFF.out k hk; have := List.mem_singleton.1 hm; omega), fun k hk => by have := HFF.out k hk; omega, ?_⟩
  exact B5.out.bel.trans (HC6.out.below (fun k hk => by rw [List.mem_singleton.1 hk]; omega) (by have := B5.out.size; omega))
theorem dst_okN (O : ObjD) (s : ObjV) (now : Int) (w : World) (h : ObjM w O s) (ha : O.arch = false) (h4 : O.st ≠ 4) (h5 : O.st ≠ 5) (hedge : edgeB O.st 5 = true) :
    Calls Tryd.prog 11 #[.agg (objCells O s), .int .i64 now] w (ActRes w.heap.size w ({ (O.setDate 9 (true, now)).setDate 5 (true, now) with st := 5, mat := [] }, 0)) := by
  have H := hid h; clear h
  generalize hbe : w.heap.size = b
  have HBE := hid hbe; clear hbe
  go_enter Tryd.func11, Tryd.ntmps11
  go_upto_region 1 with (refine wpList_alloc_obj rfl 35 rfl _ oZeroO ?_)
  go_simp
  have B0 := hid (box2_start (T := 35) (O := O) (s := s) (w := w) HBE.out)
  have hO := H.out.below (B0.out.bel.mono (by rw [HBE.out]; exact Nat.le_refl _))
  rw [HBE.out]
  generalize (w.alloc (.cells (objCells O s) 35)).alloc (.cells (objCells zObj zObjV) 35) = W at *
  have HO := hid hO
  clear hO H
  have hc36 := B0.out.cell (oc36 O s)
  rw [ha] at hc36
  have HE := hid hedge; clear hedge
  have hc6 := B0.out.cell (oc6 O s)
  have hn4 : (O.st == 4) = false := by simpa using h4
  have hn5 : (O.st == 5) = false := by simpa using h5
  clear h4 h5
  go_wp2_with (first | (go_at_call 15; refine (edge_any _ _ _).mono ?_; rintro e u ⟨rfl, rfl⟩; rw [HE.out]) | (refine wpList_load_row rfl 35 _ rfl b rfl _ _ _ _ B0.out.obj Tryd.underlying35 rfl (by rw [objCells_size]; exact oSizeO) ?_) | fail)
  refine (change_any O s now _ HO.out).mono ?_
  rintro e w2 ⟨s2, rfl, hm2, hf2, hb2⟩
  have B2 := hid (B0.out.below hb2)
  have HM2 := hid hm2
  have HF2 := hid (fun k hk => Nat.le_trans B0.out.size (hf2 k hk))
  clear hm2 hf2 hb2 B0 HO
  clear hc6 hc36
  go_wp2_with (refine wpList_store_obj rfl 35 _ _ rfl b rfl _ rfl _ _ B2.out.obj rfl (by rw [objCells_size]; exact oSizeO) (oc_one _ _) ?_; intro w3 hb3 hc3 hs3; have B3 := hid (B2.out.store hb3 hc3); have HM3 := hid (HM2.out.keep hc3 (fun k hk hm => by have := HF2.out k hk; have := List.mem_singleton.1 hm; omega)); clear hb3 hc3 hs3)
  refine (at_any now _).mono ?_
  rintro e w4 ⟨rfl, hb4⟩
  have b4 := B3.out.below hb4
  have HM4 := hid (HM3.out.below hb4)
  clear hb4 B3 HM3 B2 HM2
  have hfz := b4.fz
  have c6 := b4.cell (oc6 _ s2)
  have c5 := b4.cell (oc5 _ s2)
  have c17 := b4.cell (j := 17) rfl
  have c18 := b4.cell (j := 18) rfl
  have B5 := hid (((b4.set 6 (.int .i64 5) (os6 _ s2 5)).set 5 (.slice none 0 0) (os5 _ s2 none 0 0)).date (O := { O.setDate 9 (true, now) with st := 5 }) (by have := HM4.out.dl; simpa using this) 5 (by decide) true now)
  have HM5 := hid (HM4.out.keep (((((Chg.refl [b] w4).setCell (p := ⟨b, 6, none⟩) (.inl (by simp)) (.int .i64 5)).setCell (p := ⟨b, 5, none⟩) (.inl (by simp)) (.slice none 0 0)).setCell (p := ⟨b, 17, none⟩) (.inl (by simp)) (.bool true)).setCell (p := ⟨b, 18, none⟩) (.inl (by simp)) (.int .i64 now)) (fun k hk hm => by have := HF2.out k hk; have := List.mem_singleton.1 hm; omega))
  have HFF : Hid (∀ k ∈ ObjV.foot { s2 with mat := {} }, b + 2 ≤ k) := fun k hk => HF2.out k (by
    rcases mem_foot.1 hk with h' | h' | h' | h'
    · simp [Sl.blk] at h'
    · exact mem_foot.2 (.inr (.inl h'))
    · exact mem_foot.2 (.inr (.inr (.inl h')))
    · exact mem_foot.2 (.inr (.inr (.inr h'))))
  clear b4
  go_upto_region 10 with (fail)
  simp only [Nat.reduceMul, Nat.reduceAdd] at B5
  generalize ((((w4.setCell ⟨b, 6, none⟩ (.int .i64 5)).setCell ⟨b, 5, none⟩ (.slice none 0 0)).setCell ⟨b, 17, none⟩ (.bool true)).setCell ⟨b, 18, none⟩ (.int .i64 now)) = w5 at *
  clear hfz c6 c5 c17 c18
  have B5 : Hid (Box2 35 { (O.setDate 9 (true, now)).setDate 5 (true, now) with st := 5, mat := [] } { s2 with mat := {} } w w5 b) := B5.out.same rfl
  have HM6 := hid (HM5.out.noMat (O' := { (O.setDate 9 (true, now)).setDate 5 (true, now) with st := 5, mat := [] }) rfl rfl rfl rfl (by have := HM4.out.dl; simpa [ObjD.setDate] using this))
  clear HM4 HM5
  go_wp2_with (first | (refine wpList_load_row rfl 35 _ rfl b rfl _ _ _ _ B5.out.obj Tryd.underlying35 rfl (by rw [objCells_size]; exact oSizeO) ?_) | (refine wpList_store_obj rfl 35 _ _ rfl (b + 1) rfl _ rfl _ _ B5.out.res rfl (by rw [objCells_size]; exact oSizeO) (oc_one _ _) ?_; intro w6 hb6 hc6 hs6; have HB6 := hid hb6; have HC6 := hid hc6; clear hb6 hc6 hs6) | go_in)
  refine bodyPost_ret (results_obj_tmp rfl _ _ (b + 1) _ _ _ _ rfl HB6.out Tryd.underlying35 rfl (by rw [objCells_size]; exact oSizeO) _ rfl) rfl ?_
  refine ⟨{ s2 with mat := {} }, rfl, HM6.out.keep HC6.out (fun k hk hm => by have := HFF.out k hk; have := List.mem_singleton.1 hm; omega), fun k hk => by have := HFF.out k hk; omega, ?_⟩
  exact B5.out.bel.trans (HC6.out.below (fun k hk => by rw [List.mem_singleton.1 hk]; omega) (by have := B5.out.size; omega))
theorem dst_any (O : ObjD) (s : ObjV) (now : Int) (w : World) (h : ObjM w O s) :
    Calls Tryd.prog 11 #[.agg (objCells O s), .int .i64 now] w (ActRes w.heap.size w (dstV O now)) := by
  unfold dstV dstTo
  by_cases ha : O.arch = true
  · rw [if_pos ha]
    by_cases h4 : O.st = 4
    · exact dst_arch4 O s now w h ha h4
    · exact dst_archN O s now w h ha h4
  · rw [if_neg ha]
    have ha' : O.arch = false := by simpa using ha
    by_cases h4 : O.st = 4
    · rw [if_pos h4]
      have h5 : O.st ≠ 5 := by omega
      cases he : edgeB O.st 6 with
      | true => rw [if_neg (by simp [h5])]; exact dst_ok4 O s now w h ha' h4 h5 he
      | false => rw [if_pos (by simp)]; exact dst_edge4 O s now w h ha' h4 h5 he
    · rw [if_neg h4]
      by_cases h5 : O.st = 5
      · rw [if_pos (.inl h5)]; exact dst_five O s now w h ha' h4 h5
      · cases he : edgeB O.st 5 with
        | true => rw [if_neg (by simp [h5])]; exact dst_okN O s now w h ha' h4 h5 he
        | false => rw [if_pos (by simp)]; exact dst_edgeN O s now w h ha' h4 h5 he
end Go.Proofs.YtgenbpndphdgnaaDoor
