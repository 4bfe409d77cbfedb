/- LifeKnown: the walk. -/
import Derived.Test.YtgenbpndphdgnaaDoorActs3
import Derived.Test.YtgenbpndphdgnaaDoorValidM
import Derived.Test.YtgenbpndphdgnaaDoorRegionF
import Derived.Test.YtgenbpndphdgnaaDoorLife3
namespace Go.Proofs.YtgenbpndphdgnaaDoor
open Go.RowKit
set_option linter.unusedVariables false
set_option linter.unusedSimpArgs false
set_option maxRecDepth 100000
set_option maxHeartbeats 8000000

/-- Objects' boxes. -/
structure KB (w W : World) (b : Nat) (l : List (Nat × ObjD × ObjV × Bool)) : Prop where
  all : ∀ x ∈ l, W.heap[x.1]? = some (.cells (objCells x.2.1 x.2.2.1) 35 (0, 0)) ∧ (x.2.2.2 = true → ObjM W x.2.1 x.2.2.1)
  bel : Below b w W
  lt : b ≤ W.heap.size
section
variable {w W W' : World} {b : Nat} {l : List (Nat × ObjD × ObjV × Bool)} {f : Bool}
theorem KB.obj (h : KB w W b l) {p : Nat} {O : ObjD} {s : ObjV} (hx : (p, O, s, f) ∈ l) : W.heap[p]? = some (.cells (objCells O s) 35 (0, 0)) := (h.all _ hx).1
theorem KB.m (h : KB w W b l) {p : Nat} {O : ObjD} {s : ObjV} (hx : (p, O, s, true) ∈ l) : ObjM W O s := (h.all _ hx).2 rfl
theorem KB.cell (h : KB w W b l) {p : Nat} {O : ObjD} {s : ObjV} (hx : (p, O, s, f) ∈ l) {j : Nat} {v : Value} (hv : (objCells O s)[j]? = some v) : W.cell? ⟨p, j, none⟩ = some v := cell_of_block (h.obj hx) hv
theorem KB.below (h : KB w W b l) (hb : Below W.heap.size W W') : KB w W' b l :=
  ⟨fun x hx => ⟨(hb.block _ (block_lt (h.all x hx).1)).trans (h.all x hx).1, fun hf => ((h.all x hx).2 hf).below hb⟩, h.bel.trans (hb.mono h.lt), Nat.le_trans h.lt hb.size⟩
theorem KB.add (h : KB w W b l) (hb : Below W.heap.size W W') {p : Nat} {O : ObjD} {s : ObjV} (h1 : W'.heap[p]? = some (.cells (objCells O s) 35 (0, 0))) (hm : f = true → ObjM W' O s) : KB w W' b ((p, O, s, f) :: l) := by
  have h' := h.below hb
  refine ⟨fun x hx => ?_, h'.bel, h'.lt⟩
  rcases List.mem_cons.1 hx with rfl | hx
  · exact ⟨h1, hm⟩
  · exact h'.all x hx
theorem kb_start {O : ObjD} {s : ObjV} {p : Nat} (hb : Below b w W) (hlt : b ≤ W.heap.size) (h1 : W.heap[p]? = some (.cells (objCells O s) 35 (0, 0))) (hm : f = true → ObjM W O s) : KB w W b [(p, O, s, f)] := by
  refine ⟨fun x hx => ?_, hb, hlt⟩
  rw [List.mem_singleton.1 hx]
  exact ⟨h1, hm⟩
end
/-- What a call gives, the object and the reason apart. -/
def ActR (B : Nat) (w : World) (P : ObjD) (r : Int) (e : Ending) (w' : World) : Prop :=
  ∃ s' : ObjV, e = .returned (.tuple #[.agg (objCells P s'), .int .i64 r]) ∧ ObjM w' P s' ∧ (∀ k ∈ s'.foot, B ≤ k) ∧ Below B w w'
/-- An object's room that operation ia makes (its address in slot da), filled by operation is. -/
def AX (T : TypeId) (ia is : Nat) (da : Tmp) (V : ObjD) (z : Nat) (listed : Array Bool) (A : Act) (w : World) : Prop :=
  z ≤ w.heap.size ∧ (listed.getD ia false = true → ∃ p, A.tmps[da]? = some (.pointer (some ⟨p, 0, none⟩)) ∧ z ≤ p ∧ (∃ C, w.heap[p]? = some (.cells C T (0, 0)) ∧ C.size = 37) ∧ (listed.getD is false = true → ∃ s', w.heap[p]? = some (.cells (objCells V s') T (0, 0))))
section
variable {T : TypeId} {ia is i : Nat} {da d : Tmp} {V : ObjD} {z : Nat} {listed : Array Bool} {w w' : World} {A : Act} {u : Value} {x : Option Tmp}
theorem put_slot (hx : x ≠ some da) : (A.put x u).tmps[da]? = A.tmps[da]? := by
  cases x with
  | none => rfl
  | some e => simp only [Act.put]; exact Array.getElem?_setIfInBounds_ne (fun h => hx (by rw [h]))
theorem put_self (h : d < A.tmps.size) : (A.put (some d) u).tmps[d]? = some u := by simp [Act.put, h]
theorem AX.start (hz : z ≤ w.heap.size) (n : Nat) : AX T ia is da V z (Array.replicate n false) A w.drew := by
  refine ⟨hz, fun h1 => ?_⟩
  simp only [Array.getD_eq_getD_getElem?] at h1
  rcases Nat.lt_or_ge ia n with h' | h'
  · simp [h'] at h1
  · simp [Nat.not_lt.2 h'] at h1
theorem AX.same (h : AX T ia is da V z listed A w) (hi : (i != ia && i != is && x != some da) = true) : AX T ia is da V z (listed.setIfInBounds i true) (A.put x u) w := by
  simp only [Bool.and_eq_true, bne_iff_ne, ne_eq] at hi
  refine ⟨h.1, fun h1 => ?_⟩
  rw [dgetD_set_ne hi.1.1] at h1
  obtain ⟨p, h2, h3, h4, h5⟩ := h.2 h1
  refine ⟨p, by rw [put_slot hi.2]; exact h2, h3, h4, fun h6 => h5 ?_⟩
  rwa [dgetD_set_ne hi.1.2] at h6
theorem AX.pass (h : AX T ia is da V z listed A w) (hb : Below w.heap.size w w') : AX T ia is da V z listed A w' := by
  refine ⟨Nat.le_trans h.1 hb.size, fun h1 => ?_⟩
  obtain ⟨p, h2, h3, ⟨C, h4, h4'⟩, h5⟩ := h.2 h1
  have e := hb.block _ (block_lt h4)
  refine ⟨p, h2, h3, ⟨C, e.trans h4, h4'⟩, fun h6 => ?_⟩
  obtain ⟨s', h7⟩ := h5 h6
  exact ⟨s', e.trans h7⟩
theorem AX.made (h : AX T ia is da V z listed A w) (hn : listed.getD is false = false) (hne : ia ≠ is) (hd : da < A.tmps.size) {O : ObjD} {s : ObjV} (hb : w' = w.alloc (.cells (objCells O s) T)) (hu : u = .pointer (some ⟨w.heap.size, 0, none⟩)) : AX T ia is da V z (listed.setIfInBounds ia true) (A.put (some da) u) w' := by
  subst hb; subst hu
  refine ⟨by simp; exact Nat.le_succ_of_le h.1, fun _ => ⟨w.heap.size, by simp [Act.put, hd], h.1, ⟨_, block_new _ _, objCells_size _ _⟩, fun h6 => ?_⟩⟩
  rw [dgetD_set_ne hne, hn] at h6
  cases h6
theorem AX.there (h : AX T ia is da V z listed A w) (h1 : listed.getD ia false = true) : ∃ p C, A.tmps[da]? = some (.pointer (some ⟨p, 0, none⟩)) ∧ z ≤ p ∧ w.heap[p]? = some (.cells C T (0, 0)) ∧ C.size = 37 := by
  obtain ⟨p, h2, h3, ⟨C, h4, h4'⟩, _⟩ := h.2 h1
  exact ⟨p, C, h2, h3, h4, h4'⟩
theorem AX.filled (h : AX T ia is da V z listed A w) (hz : z ≤ w'.heap.size) {p : Nat} {s' : ObjV} (h2 : A.tmps[da]? = some (.pointer (some ⟨p, 0, none⟩))) (hp : z ≤ p) (h1 : w'.heap[p]? = some (.cells (objCells V s') T (0, 0))) : AX T ia is da V z (listed.setIfInBounds is true) (A.put none u) w' :=
  ⟨hz, fun _ => ⟨p, h2, hp, ⟨_, h1, objCells_size _ _⟩, fun _ => ⟨s', h1⟩⟩⟩
theorem AX.fin (h : AX T ia is da V z listed A w) (ha : listed.getD ia false = true) (hs : listed.getD is false = true) : ∃ p s', A.tmps[da]? = some (.pointer (some ⟨p, 0, none⟩)) ∧ z ≤ p ∧ w.heap[p]? = some (.cells (objCells V s') T (0, 0)) := by
  obtain ⟨p, h2, h3, _, h5⟩ := h.2 ha
  obtain ⟨s', h6⟩ := h5 hs
  exact ⟨p, s', h2, h3, h6⟩
end
theorem belowz_trans {z : Nat} (x y w : World) (h : Below z x y) (k : Below z y w) : Below z x w := h.trans k
/-- Old objects as they were, new memory. -/
def stTup (z : Nat) (P : ObjD) (r : Int) : St (Below z) := ⟨fun v _ => ∃ s', v = .tuple #[.agg (objCells P s'), .int .i64 r], fun _ _ _ h _ => h⟩
def stTupO (z : Nat) (P : ObjD) : St (Below z) := ⟨fun v _ => ∃ s', v = .agg (objCells P s'), fun _ _ _ h _ => h⟩
def stPtr (z : Nat) : St (Below z) := ⟨fun v _ => ∃ p, v = .pointer (some ⟨p, 0, none⟩), fun _ _ _ h _ => h⟩
def k0 : ObjD := kObj.setDate 1 (true, 5)
def kA : ObjD := (actV k0 3).1
def kB : ObjD := (revN kA 1 ⟨#[]⟩ 6).1
def kC : ObjD := (dstV kB 7).1
def kD : ObjD := { ((kC.setDate 9 (true, 8)).setDate 7 (true, 8)).setDate 6 (true, 2) with reason := 2, msg := ⟨#[109]⟩, st := 6 }
def kE : ObjD := (arcV kA 9).1
def kF : ObjD := (recV kE 10).1
theorem eA : actV k0 3 = (kA, 0) := by kernel_rfl
theorem eA2 : actV kA 4 = (zObj, 11) := by kernel_rfl
theorem eB : revN kA 1 ⟨#[]⟩ 6 = (kB, 0) := by kernel_rfl
theorem eC : dstV kB 7 = (kC, 0) := by kernel_rfl
theorem eC2 : dstV kA 6 = (zObj, 11) := by kernel_rfl
theorem eE : arcV kA 9 = (kE, 0) := by kernel_rfl
theorem eE2 : actV kE 9 = (zObj, 13) := by kernel_rfl
theorem eF : recV kE 10 = (kF, 0) := by kernel_rfl
theorem eF2 : recV kA 10 = (zObj, 11) := by kernel_rfl
theorem iA (s : ObjV) (w : World) (h : ObjM w k0 s) : Calls Tryd.prog 9 #[.agg (objCells k0 s), .int .i64 3] w (ActR w.heap.size w kA 0) := by have := act_any k0 s 3 w h; rw [eA] at this; exact this
theorem iA2 (s : ObjV) (w : World) (h : ObjM w kA s) : Calls Tryd.prog 9 #[.agg (objCells kA s), .int .i64 4] w (ActR w.heap.size w zObj 11) := by have := act_any kA s 4 w h; rw [eA2] at this; exact this
theorem iB (s : ObjV) (w : World) (h : ObjM w kA s) : Calls Tryd.prog 10 #[.agg (objCells kA s), .int .i64 1, .string ⟨#[]⟩, .agg #[.bool false, .int .i64 0], .int .i64 6] w (ActR w.heap.size w kB 0) := by have := rev_anyN kA s 1 6 ⟨#[]⟩ w h (by omega) (by omega) (by decide) (fun w => valid_m ⟨#[]⟩ (.inl rfl) w); rw [eB] at this; exact this
theorem iC (s : ObjV) (w : World) (h : ObjM w kB s) : Calls Tryd.prog 11 #[.agg (objCells kB s), .int .i64 7] w (ActR w.heap.size w kC 0) := by have := dst_any kB s 7 w h; rw [eC] at this; exact this
theorem iD (s : ObjV) (w : World) (h : ObjM w kC s) : Calls Tryd.prog 10 #[.agg (objCells kC s), .int .i64 2, .string ⟨#[109]⟩, .agg #[.bool true, .int .i64 2], .int .i64 8] w (ActR w.heap.size w kD 0) := rev_twoH5 kC s 2 8 ⟨#[109]⟩ w h (by decide) (fun w => valid_m ⟨#[109]⟩ (.inr rfl) w) (by omega) (by kernel_rfl) (by kernel_rfl) (by kernel_rfl)
theorem iU (s : ObjV) (w : World) (h : ObjM w kA s) : Calls Tryd.prog 10 #[.agg (objCells kA s), .int .i64 8, .string ⟨#[]⟩, .agg #[.bool false, .int .i64 0], .int .i64 6] w (ActR w.heap.size w zObj 7) := rev_field kA s 8 6 ⟨#[]⟩ w h (by omega)
theorem iC2 (s : ObjV) (w : World) (h : ObjM w kA s) : Calls Tryd.prog 11 #[.agg (objCells kA s), .int .i64 6] w (ActR w.heap.size w zObj 11) := by have := dst_any kA s 6 w h; rw [eC2] at this; exact this
theorem iE (s : ObjV) (w : World) (h : ObjM w kA s) : Calls Tryd.prog 12 #[.agg (objCells kA s), .int .i64 9] w (ActR w.heap.size w kE 0) := by have := arc_any kA s 9 w h; rw [eE] at this; exact this
theorem iE2 (s : ObjV) (w : World) (h : ObjM w kE s) : Calls Tryd.prog 9 #[.agg (objCells kE s), .int .i64 9] w (ActR w.heap.size w zObj 13) := by have := act_any kE s 9 w h; rw [eE2] at this; exact this
theorem iF (s : ObjV) (w : World) (h : ObjM w kE s) : Calls Tryd.prog 13 #[.agg (objCells kE s), .int .i64 10] w (ActR w.heap.size w kF 0) := by have := rec_any kE s 10 w h; rw [eF] at this; exact this
theorem iF2 (s : ObjV) (w : World) (h : ObjM w kA s) : Calls Tryd.prog 13 #[.agg (objCells kA s), .int .i64 10] w (ActR w.heap.size w zObj 11) := by have := rec_any kA s 10 w h; rw [eF2] at this; exact this
theorem lifeKnown_walk (w : World) : Calls Tryd.prog 5 #[] w fun e w' => e = .returned (.bool true) ∧ Below w.heap.size w w' := by
  have hbu : ∀ w, (Instr.build 35 #[(0, .string ⟨#[49]⟩), (1, .int .i64 2), (6, .int .i64 1)]).run Tryd.prog w = .ok (.agg (objCells kObj zObjV)) w := fun w => by kernel_rfl
  generalize hbe : w.heap.size = b
  have HBE := hid hbe; clear hbe
  go_enter Tryd.func5, Tryd.ntmps5
  go_upto_region 1 with (fail)
  refine wp_region_lit ?_
  refine wpList_build_obj rfl 35 _ rfl #[(0, .string ⟨#[49]⟩), (1, .int .i64 2), (6, .int .i64 1)] (by simp [Act.eval]) _ (hbu _) ?_
  refine wpList_alloc_obj rfl 35 rfl _ oZeroO ?_
  refine wpList_store_obj rfl 35 _ _ rfl w.heap.size rfl _ rfl _ _ (block_new _ _) rfl (by rw [objCells_size]; exact oSizeO) (oc_one _ _) ?_
  intro w1 hb1 hc1 hs1
  have hB1 : Below b w w1 := by
    rw [← HBE.out]
    exact ((Below.refl _ w).alloc (Nat.le_refl _) _).trans (hc1.below (fun k hk => by rw [List.mem_singleton.1 hk]; exact Nat.le_refl _) (by simp))
  rw [HBE.out] at hb1 ⊢
  have B1 : Hid (Box1 35 kObj zObjV w w1 b) := ⟨hb1, hB1⟩
  clear hb1 hc1 hs1 hB1 hbu
  go_simp
  go_wp2_with fail
  refine (lawDate_any 5 _).mono ?_
  rintro e w2 ⟨rfl, hb2⟩
  have b2 := B1.out.below hb2
  have hfz := b2.fz
  have k9 := b2.cell (j := 9) rfl
  have k10 := b2.cell (j := 10) rfl
  have B2 := hid (b2.date rfl 1 (by decide) true 5)
  clear hb2 b2 B1
  go_upto_region 3 with (fail)
  simp only [Nat.reduceMul, Nat.reduceAdd] at B2
  generalize (w2.setCell ⟨b, 9, none⟩ (.bool true)).setCell ⟨b, 10, none⟩ (.int .i64 5) = w3 at *
  clear hfz k9 k10
  have HK : Hid (KB w w3 b [(b, k0, zObjV, true)]) := kb_start B2.out.bel (Nat.le_of_lt (block_lt B2.out.obj)) B2.out.obj (fun _ => (ObjM.zero w3).data rfl rfl rfl rfl rfl)
  clear B2
  go_wp2_with (first | (refine wpList_load_row rfl 35 _ rfl b rfl _ _ _ _ (HK.out.obj (O := k0) (s := zObjV) (f := true) (by simp)) Tryd.underlying35 rfl (by rw [objCells_size]; exact oSizeO) ?_) | fail)
  refine (lifeNext_any k0 zObjV 2 5 true _ (by kernel_rfl)).mono ?_
  rintro e w4 ⟨rfl, hb4⟩
  have HK4 := hid (HK.out.below hb4)
  clear hb4 HK
  have HK := HK4
  clear HK4
  go_upto_region 4 with (fail)
  go_wp2_with (first | (refine wpList_load_row rfl 35 _ rfl b rfl _ _ _ _ (HK.out.obj (O := k0) (s := zObjV) (f := true) (by simp)) Tryd.underlying35 rfl (by rw [objCells_size]; exact oSizeO) ?_) | fail)
  refine (iA zObjV _ (HK.out.m (p := b) (by simp))).mono ?_
  rintro e w5 ⟨sv4, rfl, hm, hf, hb⟩
  have HK1 := hid (HK.out.below hb)
  have HM1 := hid hm
  clear hm hf hb HK
  go_upto_region 5 with (first | (refine wpList_alloc_obj rfl 35 rfl _ oZeroO ?_) | (refine wpList_store_obj rfl 35 _ _ rfl w5.heap.size rfl _ rfl _ _ (block_new w5 _) rfl (by rw [objCells_size]; exact oSizeO) (oc_one _ _) ?_; intro w5' hb1 hc1 hs1; have HB1 := hid hb1; have HC1 := hid hc1; clear hb1 hc1 hs1))
  go_simp
  have hbel : Below w5.heap.size w5 w5' := ((Below.refl _ w5).alloc (Nat.le_refl _) _).trans (HC1.out.below (fun k hk => by rw [List.mem_singleton.1 hk]; exact Nat.le_refl _) (by simp))
  have HK := hid (HK1.out.add (f := true) hbel HB1.out (fun _ => HM1.out.below hbel))
  clear HK1 HM1 HB1 HC1 hbel
  generalize w5.heap.size = p4 at *
  go_upto_region 5 with (fail)
  go_wp2_with (first | (refine wpList_load_row rfl 35 _ rfl p4 rfl _ _ _ _ (HK.out.obj (O := kA) (s := sv4) (f := true) (by simp)) Tryd.underlying35 rfl (by rw [objCells_size]; exact oSizeO) ?_) | fail)
  refine (iA2 sv4 _ (HK.out.m (p := p4) (by simp))).mono ?_
  rintro e w7 ⟨sv6, rfl, hm, hf, hb⟩
  have HK1 := hid (HK.out.below hb)
  have HM1 := hid hm
  clear hm hf hb HK
  go_upto_region 6 with (first | (refine wpList_alloc_obj rfl 35 rfl _ oZeroO ?_) | (refine wpList_store_obj rfl 35 _ _ rfl w7.heap.size rfl _ rfl _ _ (block_new w7 _) rfl (by rw [objCells_size]; exact oSizeO) (oc_one _ _) ?_; intro w7' hb1 hc1 hs1; have HB1 := hid hb1; have HC1 := hid hc1; clear hb1 hc1 hs1))
  go_simp
  have hbel : Below w7.heap.size w7 w7' := ((Below.refl _ w7).alloc (Nat.le_refl _) _).trans (HC1.out.below (fun k hk => by rw [List.mem_singleton.1 hk]; exact Nat.le_refl _) (by simp))
  have HK := hid (HK1.out.add (f := true) hbel HB1.out (fun _ => HM1.out.below hbel))
  clear HK1 HM1 HB1 HC1 hbel
  generalize w7.heap.size = p6 at *
  go_upto_region 6 with (fail)
  go_wp2_with (first | (refine wpList_load_row rfl 35 _ rfl p4 rfl _ _ _ _ (HK.out.obj (O := kA) (s := sv4) (f := true) (by simp)) Tryd.underlying35 rfl (by rw [objCells_size]; exact oSizeO) ?_) | fail)
  refine (iB sv4 _ (HK.out.m (p := p4) (by simp))).mono ?_
  rintro e w9 ⟨sv8, rfl, hm, hf, hb⟩
  have HK1 := hid (HK.out.below hb)
  have HM1 := hid hm
  clear hm hf hb HK
  go_upto_region 7 with (first | (refine wpList_alloc_obj rfl 35 rfl _ oZeroO ?_) | (refine wpList_store_obj rfl 35 _ _ rfl w9.heap.size rfl _ rfl _ _ (block_new w9 _) rfl (by rw [objCells_size]; exact oSizeO) (oc_one _ _) ?_; intro w9' hb1 hc1 hs1; have HB1 := hid hb1; have HC1 := hid hc1; clear hb1 hc1 hs1))
  go_simp
  have hbel : Below w9.heap.size w9 w9' := ((Below.refl _ w9).alloc (Nat.le_refl _) _).trans (HC1.out.below (fun k hk => by rw [List.mem_singleton.1 hk]; exact Nat.le_refl _) (by simp))
  have HK := hid (HK1.out.add (f := true) hbel HB1.out (fun _ => HM1.out.below hbel))
  clear HK1 HM1 HB1 HC1 hbel
  generalize w9.heap.size = p8 at *
  go_upto_region 7 with (fail)
  go_wp2_with (first | (refine wpList_load_row rfl 35 _ rfl p8 rfl _ _ _ _ (HK.out.obj (O := kB) (s := sv8) (f := true) (by simp)) Tryd.underlying35 rfl (by rw [objCells_size]; exact oSizeO) ?_) | fail)
  refine (iC sv8 _ (HK.out.m (p := p8) (by simp))).mono ?_
  rintro e w11 ⟨sv10, rfl, hm, hf, hb⟩
  have HK1 := hid (HK.out.below hb)
  have HM1 := hid hm
  clear hm hf hb HK
  go_upto_region 8 with (first | (refine wpList_alloc_obj rfl 35 rfl _ oZeroO ?_) | (refine wpList_store_obj rfl 35 _ _ rfl w11.heap.size rfl _ rfl _ _ (block_new w11 _) rfl (by rw [objCells_size]; exact oSizeO) (oc_one _ _) ?_; intro w11' hb1 hc1 hs1; have HB1 := hid hb1; have HC1 := hid hc1; clear hb1 hc1 hs1))
  go_simp
  have hbel : Below w11.heap.size w11 w11' := ((Below.refl _ w11).alloc (Nat.le_refl _) _).trans (HC1.out.below (fun k hk => by rw [List.mem_singleton.1 hk]; exact Nat.le_refl _) (by simp))
  have HK := hid (HK1.out.add (f := true) hbel HB1.out (fun _ => HM1.out.below hbel))
  clear HK1 HM1 HB1 HC1 hbel
  generalize w11.heap.size = p10 at *
  obtain ⟨z, hz⟩ : ∃ z, z = w11'.heap.size := ⟨_, rfl⟩
  have HZ := hid hz; clear hz
  refine wp_region_eachF (m := 9) (Below z) [.eq (.agg (objCells kC sv10)), .eq (.agg #[.bool true, .int .i64 2]), stTup z kD 0, stTup z kD 0, stTupO z kD, .eq (.int .i64 0), stPtr z, .eq (undef), .eq (.int .i64 0)] (AX 35 6 7 12 kD z) (by kernel_rfl) (by kernel_rfl) (by kernel_rfl) (by kernel_rfl) (belowz_trans) (by exact (Below.refl _ _).drew) (by exact AX.start (Nat.le_of_eq HZ.out) 9) ?_ ?_
  · as_aux_lemma =>
      refine each_c (o' := _) ?_ (each_c (o' := _) ?_ (each_c (o' := _) ?_ (each_c (o' := _) ?_ (each_c (o' := _) ?_ (each_c (o' := _) ?_ (each_c (o' := _) ?_ (each_c (o' := _) ?_ (each_c (o' := _) ?_ (each_n)))))))))
      -- 0: load 35 t10
      · intro w1 hg listed up Ar hx seen
        have s10 := seen.slot 10 (v := .pointer (some ⟨p10, 0, none⟩)) (by kernel_rfl) rfl
        refine doesF_plain rfl fun K Q' hK => ?_
        refine wp_load_row 35 _ rfl p10 (by simp [Act.eval, s10]) _ _ _ _ ((hg.block _ (by rw [HZ.out]; exact block_lt (HK.out.obj (p := p10) (O := kC) (s := sv10) (f := true) (by simp)))).trans (HK.out.obj (p := p10) (O := kC) (s := sv10) (f := true) (by simp))) Tryd.underlying35 rfl (by rw [objCells_size]; exact oSizeO) ?_
        exact hK _ _ (Below.refl _ _) (hx.same (by kernel_rfl)) rfl
      -- 1: call fn16<locksmithlaw11.date> [2:i64] T[2]
      · intro w1 hg listed up Ar hx seen
        refine doesF_plain rfl fun K Q' hK => ?_
        go_simp
        refine (lawDate_any 2 _).mono ?_
        rintro e u ⟨rfl, hb⟩
        exact hK _ _ (hb.mono hx.1) ((hx.pass hb).same (by kernel_rfl)) rfl
      -- 2: call fn10<life.Revoke> [t57, 2:i64, b'm', t58, 8:i64] T[35, 3, 9, 27, 2]
      · intro w1 hg listed up Ar hx seen
        obtain ⟨v0, e0, h0⟩ := seen.dep 0 (d := 57) (by kernel_rfl) (by kernel_rfl) rfl
        rcases h0 with rfl
        obtain ⟨v1, e1, h1⟩ := seen.dep 1 (d := 58) (by kernel_rfl) (by kernel_rfl) rfl
        rcases h1 with rfl
        refine doesF_plain rfl fun K Q' hK => ?_
        go_simp
        refine (iD sv10 _ ((HK.out.m (p := p10) (by simp)).below (by rw [← HZ.out]; exact hg))).mono ?_
        rintro e u ⟨s9, rfl, hm, hf, hb⟩
        exact hK _ _ (hb.mono hx.1) ((hx.pass hb).same (by kernel_rfl)) ⟨s9, rfl⟩
      -- 3: move t59
      · intro w1 hg listed up Ar hx seen
        obtain ⟨v2, e2, h2⟩ := seen.dep 2 (d := 59) (by kernel_rfl) (by kernel_rfl) rfl
        refine doesF_plain rfl fun K Q' hK => ?_
        go_simp
        exact hK _ _ (Below.refl _ _) (hx.same (by kernel_rfl)) h2
      -- 4: extract t56 0
      · intro w1 hg listed up Ar hx seen
        obtain ⟨v3, e3, h3⟩ := seen.dep 3 (d := 56) (by kernel_rfl) (by kernel_rfl) rfl
        refine doesF_plain rfl fun K Q' hK => ?_
        obtain ⟨s9, rfl⟩ := h3
        go_simp
        exact hK _ _ (Below.refl _ _) (hx.same (by kernel_rfl)) ⟨s9, rfl⟩
      -- 5: extract t56 1
      · intro w1 hg listed up Ar hx seen
        obtain ⟨v3, e3, h3⟩ := seen.dep 3 (d := 56) (by kernel_rfl) (by kernel_rfl) rfl
        refine doesF_plain rfl fun K Q' hK => ?_
        obtain ⟨s9, rfl⟩ := h3
        go_simp
        exact hK _ _ (Below.refl _ _) (hx.same (by kernel_rfl)) rfl
      -- 6: alloc 35
      · intro w1 hg listed up Ar hx seen
        refine doesF_plain rfl fun K Q' hK => ?_
        refine wp_alloc_obj 35 rfl _ oZeroO ?_
        exact hK _ _ ((Below.refl _ _).alloc hx.1 _) (hx.made (up.later 7 (by kernel_rfl)) (by decide) (by rw [seen.size]; exact Nat.le_of_ble_eq_true (by kernel_rfl)) rfl rfl) ⟨_, rfl⟩
      -- 7: store 35 t12 t60
      · intro w1 hg listed up Ar hx seen
        obtain ⟨v6, e6, h6⟩ := seen.dep 6 (d := 12) (by kernel_rfl) (by kernel_rfl) rfl
        obtain ⟨v4, e4, h4⟩ := seen.dep 4 (d := 60) (by kernel_rfl) (by kernel_rfl) rfl
        refine doesF_plain rfl fun K Q' hK => ?_
        obtain ⟨s9, rfl⟩ := h4
        obtain ⟨p, C, hp, hz, hC, hCs⟩ := hx.there (up.did 6 (by decide))
        refine wp_store_obj 35 _ _ rfl p (by simp [Act.eval, hp]) _ (by simp [Act.eval, e4]; rfl) C _ hC (by rw [hCs, objCells_size]) (by rw [objCells_size]; exact oSizeO) (oc_one _ _) ?_
        intro u hb1 hc1 hs1
        exact hK undef _ (hc1.below (fun k hk => by rw [List.mem_singleton.1 hk]; exact hz) hx.1) (hx.filled (by rw [hs1]; exact hx.1) hp hz hb1) rfl
      -- 8: assign t61
      · intro w1 hg listed up Ar hx seen
        obtain ⟨v5, e5, h5⟩ := seen.dep 5 (d := 61) (by kernel_rfl) (by kernel_rfl) rfl
        rcases h5 with rfl
        refine doesF_plain rfl fun K Q' hK => ?_
        go_simp; exact hK _ _ (Below.refl _ _) (hx.same (by kernel_rfl)) rfl
  intro w1 hg listed Ab hl hx
  refine upon_w' (js := [0, 1, 2, 3, 4, 5, 6, 7, 8]) (by rfl) ?_
  refine upon_c (x := some 57) (by kernel_rfl) rfl fun v0 h0 => ?_
  rcases h0 with rfl
  refine upon_c (x := some 58) (by kernel_rfl) rfl fun v1 h1 => ?_
  rcases h1 with rfl
  refine upon_c (x := some 59) (by kernel_rfl) rfl fun v2 h2 => ?_
  refine upon_c (x := some 56) (by kernel_rfl) rfl fun v3 h3 => ?_
  refine upon_c (x := some 60) (by kernel_rfl) rfl fun v4 h4 => ?_
  refine upon_c (x := some 61) (by kernel_rfl) rfl fun v5 h5 => ?_
  rcases h5 with rfl
  refine upon_c (x := some 12) (by kernel_rfl) rfl fun v6 h6 => ?_
  refine upon_c (x := none) (by kernel_rfl) rfl fun v7 h7 => ?_
  rcases h7 with rfl
  refine upon_c (x := some 13) (by kernel_rfl) rfl fun v8 h8 => ?_
  rcases h8 with rfl
  refine upon_n ?_
  rintro rfl
  go_simp
  obtain ⟨pD, sD, hpD, hzD, hD⟩ := hx.fin (hl 6 (by decide)) (hl 7 (by decide))
  rw [put_slot (by decide), put_slot (by decide), put_self (by simp only [put_size]; exact Nat.le_of_ble_eq_true (by kernel_rfl))] at hpD
  cases hpD
  have HK1 := hid (HK.out.below (by rw [← HZ.out]; exact hg))
  have HK2 : Hid (KB w w1 b ((pD, kD, sD, false) :: _)) := (KB.add HK1.out (Below.refl _ _) hD (fun h => by cases h))
  clear HK HK1 hg hx hl HZ hzD hD
  have HK := HK2
  clear HK2
  go_upto_region 9 with (fail)
  go_wp2_with (first | (refine wpList_load_row rfl 35 _ rfl p4 rfl _ _ _ _ (HK.out.obj (O := kA) (s := sv4) (f := true) (by simp)) Tryd.underlying35 rfl (by rw [objCells_size]; exact oSizeO) ?_) | fail)
  refine (iU sv4 _ (HK.out.m (p := p4) (by simp))).mono ?_
  rintro e w13 ⟨sv14, rfl, hm, hf, hb⟩
  have HK1 := hid (HK.out.below hb)
  have HM1 := hid hm
  clear hm hf hb HK
  go_upto_region 10 with (first | (refine wpList_alloc_obj rfl 35 rfl _ oZeroO ?_) | (refine wpList_store_obj rfl 35 _ _ rfl w13.heap.size rfl _ rfl _ _ (block_new w13 _) rfl (by rw [objCells_size]; exact oSizeO) (oc_one _ _) ?_; intro w13' hb1 hc1 hs1; have HB1 := hid hb1; have HC1 := hid hc1; clear hb1 hc1 hs1))
  go_simp
  have hbel : Below w13.heap.size w13 w13' := ((Below.refl _ w13).alloc (Nat.le_refl _) _).trans (HC1.out.below (fun k hk => by rw [List.mem_singleton.1 hk]; exact Nat.le_refl _) (by simp))
  have HK := hid (HK1.out.add (f := true) hbel HB1.out (fun _ => HM1.out.below hbel))
  clear HK1 HM1 HB1 HC1 hbel
  generalize w13.heap.size = p14 at *
  go_upto_region 10 with (fail)
  go_wp2_with (first | (refine wpList_load_row rfl 35 _ rfl p4 rfl _ _ _ _ (HK.out.obj (O := kA) (s := sv4) (f := true) (by simp)) Tryd.underlying35 rfl (by rw [objCells_size]; exact oSizeO) ?_) | fail)
  refine (iC2 sv4 _ (HK.out.m (p := p4) (by simp))).mono ?_
  rintro e w15 ⟨sv16, rfl, hm, hf, hb⟩
  have HK1 := hid (HK.out.below hb)
  have HM1 := hid hm
  clear hm hf hb HK
  go_upto_region 11 with (first | (refine wpList_alloc_obj rfl 35 rfl _ oZeroO ?_) | (refine wpList_store_obj rfl 35 _ _ rfl w15.heap.size rfl _ rfl _ _ (block_new w15 _) rfl (by rw [objCells_size]; exact oSizeO) (oc_one _ _) ?_; intro w15' hb1 hc1 hs1; have HB1 := hid hb1; have HC1 := hid hc1; clear hb1 hc1 hs1))
  go_simp
  have hbel : Below w15.heap.size w15 w15' := ((Below.refl _ w15).alloc (Nat.le_refl _) _).trans (HC1.out.below (fun k hk => by rw [List.mem_singleton.1 hk]; exact Nat.le_refl _) (by simp))
  have HK := hid (HK1.out.add (f := true) hbel HB1.out (fun _ => HM1.out.below hbel))
  clear HK1 HM1 HB1 HC1 hbel
  generalize w15.heap.size = p16 at *
  go_upto_region 11 with (fail)
  go_wp2_with (first | (refine wpList_load_row rfl 35 _ rfl p4 rfl _ _ _ _ (HK.out.obj (O := kA) (s := sv4) (f := true) (by simp)) Tryd.underlying35 rfl (by rw [objCells_size]; exact oSizeO) ?_) | fail)
  refine (iE sv4 _ (HK.out.m (p := p4) (by simp))).mono ?_
  rintro e w17 ⟨sv18, rfl, hm, hf, hb⟩
  have HK1 := hid (HK.out.below hb)
  have HM1 := hid hm
  clear hm hf hb HK
  go_upto_region 12 with (first | (refine wpList_alloc_obj rfl 35 rfl _ oZeroO ?_) | (refine wpList_store_obj rfl 35 _ _ rfl w17.heap.size rfl _ rfl _ _ (block_new w17 _) rfl (by rw [objCells_size]; exact oSizeO) (oc_one _ _) ?_; intro w17' hb1 hc1 hs1; have HB1 := hid hb1; have HC1 := hid hc1; clear hb1 hc1 hs1))
  go_simp
  have hbel : Below w17.heap.size w17 w17' := ((Below.refl _ w17).alloc (Nat.le_refl _) _).trans (HC1.out.below (fun k hk => by rw [List.mem_singleton.1 hk]; exact Nat.le_refl _) (by simp))
  have HK := hid (HK1.out.add (f := true) hbel HB1.out (fun _ => HM1.out.below hbel))
  clear HK1 HM1 HB1 HC1 hbel
  generalize w17.heap.size = p18 at *
  go_upto_region 12 with (fail)
  go_wp2_with (first | (refine wpList_load_row rfl 35 _ rfl p18 rfl _ _ _ _ (HK.out.obj (O := kE) (s := sv18) (f := true) (by simp)) Tryd.underlying35 rfl (by rw [objCells_size]; exact oSizeO) ?_) | fail)
  refine (iE2 sv18 _ (HK.out.m (p := p18) (by simp))).mono ?_
  rintro e w19 ⟨sv20, rfl, hm, hf, hb⟩
  have HK1 := hid (HK.out.below hb)
  have HM1 := hid hm
  clear hm hf hb HK
  go_upto_region 13 with (first | (refine wpList_alloc_obj rfl 35 rfl _ oZeroO ?_) | (refine wpList_store_obj rfl 35 _ _ rfl w19.heap.size rfl _ rfl _ _ (block_new w19 _) rfl (by rw [objCells_size]; exact oSizeO) (oc_one _ _) ?_; intro w19' hb1 hc1 hs1; have HB1 := hid hb1; have HC1 := hid hc1; clear hb1 hc1 hs1))
  go_simp
  have hbel : Below w19.heap.size w19 w19' := ((Below.refl _ w19).alloc (Nat.le_refl _) _).trans (HC1.out.below (fun k hk => by rw [List.mem_singleton.1 hk]; exact Nat.le_refl _) (by simp))
  have HK := hid (HK1.out.add (f := true) hbel HB1.out (fun _ => HM1.out.below hbel))
  clear HK1 HM1 HB1 HC1 hbel
  generalize w19.heap.size = p20 at *
  go_upto_region 13 with (fail)
  go_wp2_with (first | (refine wpList_load_row rfl 35 _ rfl p18 rfl _ _ _ _ (HK.out.obj (O := kE) (s := sv18) (f := true) (by simp)) Tryd.underlying35 rfl (by rw [objCells_size]; exact oSizeO) ?_) | fail)
  refine (iF sv18 _ (HK.out.m (p := p18) (by simp))).mono ?_
  rintro e w21 ⟨sv22, rfl, hm, hf, hb⟩
  have HK1 := hid (HK.out.below hb)
  have HM1 := hid hm
  clear hm hf hb HK
  go_upto_region 14 with (first | (refine wpList_alloc_obj rfl 35 rfl _ oZeroO ?_) | (refine wpList_store_obj rfl 35 _ _ rfl w21.heap.size rfl _ rfl _ _ (block_new w21 _) rfl (by rw [objCells_size]; exact oSizeO) (oc_one _ _) ?_; intro w21' hb1 hc1 hs1; have HB1 := hid hb1; have HC1 := hid hc1; clear hb1 hc1 hs1))
  go_simp
  have hbel : Below w21.heap.size w21 w21' := ((Below.refl _ w21).alloc (Nat.le_refl _) _).trans (HC1.out.below (fun k hk => by rw [List.mem_singleton.1 hk]; exact Nat.le_refl _) (by simp))
  have HK := hid (HK1.out.add (f := true) hbel HB1.out (fun _ => HM1.out.below hbel))
  clear HK1 HM1 HB1 HC1 hbel
  generalize w21.heap.size = p22 at *
  go_upto_region 14 with (fail)
  go_wp2_with (first | (refine wpList_load_row rfl 35 _ rfl p4 rfl _ _ _ _ (HK.out.obj (O := kA) (s := sv4) (f := true) (by simp)) Tryd.underlying35 rfl (by rw [objCells_size]; exact oSizeO) ?_) | fail)
  refine (iF2 sv4 _ (HK.out.m (p := p4) (by simp))).mono ?_
  rintro e w23 ⟨sv24, rfl, hm, hf, hb⟩
  have HK1 := hid (HK.out.below hb)
  have HM1 := hid hm
  clear hm hf hb HK
  go_upto_region 15 with (first | (refine wpList_alloc_obj rfl 35 rfl _ oZeroO ?_) | (refine wpList_store_obj rfl 35 _ _ rfl w23.heap.size rfl _ rfl _ _ (block_new w23 _) rfl (by rw [objCells_size]; exact oSizeO) (oc_one _ _) ?_; intro w23' hb1 hc1 hs1; have HB1 := hid hb1; have HC1 := hid hc1; clear hb1 hc1 hs1))
  go_simp
  have hbel : Below w23.heap.size w23 w23' := ((Below.refl _ w23).alloc (Nat.le_refl _) _).trans (HC1.out.below (fun k hk => by rw [List.mem_singleton.1 hk]; exact Nat.le_refl _) (by simp))
  have HK := hid (HK1.out.add (f := true) hbel HB1.out (fun _ => HM1.out.below hbel))
  clear HK1 HM1 HB1 HC1 hbel
  generalize w23.heap.size = p24 at *
  go_wp2_with fail
  refine (known11_any _).mono ?_
  rintro e wz ⟨rfl, hb⟩
  have HK1 := hid (HK.out.below hb)
  clear hb HK
  have f0 : wz.cell? ⟨p4, 6, none⟩ = some (.int .i64 2) := HK1.out.cell (p := p4) (O := kA) (s := sv4) (f := true) (by simp) (by kernel_rfl)
  have f1 : wz.cell? ⟨p4, 10, none⟩ = some (.int .i64 3) := HK1.out.cell (p := p4) (O := kA) (s := sv4) (f := true) (by simp) (by kernel_rfl)
  have f2 : wz.cell? ⟨p8, 6, none⟩ = some (.int .i64 3) := HK1.out.cell (p := p8) (O := kB) (s := sv8) (f := true) (by simp) (by kernel_rfl)
  have f3 : wz.cell? ⟨p8, 27, none⟩ = some (.int .i64 1) := HK1.out.cell (p := p8) (O := kB) (s := sv8) (f := true) (by simp) (by kernel_rfl)
  have f4 : wz.cell? ⟨p10, 6, none⟩ = some (.int .i64 5) := HK1.out.cell (p := p10) (O := kC) (s := sv10) (f := true) (by simp) (by kernel_rfl)
  have f5 : wz.cell? ⟨p10, 5, none⟩ = some (.slice sv10.mat.a sv10.mat.n sv10.mat.c) := HK1.out.cell (p := p10) (O := kC) (s := sv10) (f := true) (by simp) rfl
  have fn : sv10.mat.n = 0 := by
    have h1 := (HK1.out.m (p := p10) (O := kC) (s := sv10) (by simp)).mat.rd.len
    rw [show kC.mat = [] by kernel_rfl] at h1
    simp only [List.map_nil, List.length_nil] at h1
    omega
  rw [fn] at f5
  have f6 : wz.cell? ⟨pD, 6, none⟩ = some (.int .i64 6) := HK1.out.cell (p := pD) (O := kD) (s := sD) (f := false) (by simp) (by kernel_rfl)
  have f7 : wz.cell? ⟨pD, 20, none⟩ = some (.int .i64 2) := HK1.out.cell (p := pD) (O := kD) (s := sD) (f := false) (by simp) (by kernel_rfl)
  have f8 : wz.cell? ⟨p18, 36, none⟩ = some (.bool true) := HK1.out.cell (p := p18) (O := kE) (s := sv18) (f := true) (by simp) (by kernel_rfl)
  have f9 : wz.cell? ⟨p22, 36, none⟩ = some (.bool false) := HK1.out.cell (p := p22) (O := kF) (s := sv22) (f := true) (by simp) (by kernel_rfl)
  have f10 : wz.cell? ⟨p22, 24, none⟩ = some (.int .i64 9) := HK1.out.cell (p := p22) (O := kF) (s := sv22) (f := true) (by simp) (by kernel_rfl)
  go_wp2_with fail
  go_ret
  exact ⟨rfl, HK1.out.bel⟩
end Go.Proofs.YtgenbpndphdgnaaDoor
