/- LifePaths: the walk. -/
import Derived.Test.YtgenbpndphdgnaaDoorActs3
import Derived.Test.YtgenbpndphdgnaaDoorObjMake3
import Derived.Test.YtgenbpndphdgnaaDoorValidM
namespace Go.Proofs.YtgenbpndphdgnaaDoor
open Go.RowKit
set_option linter.unusedVariables false
set_option linter.unusedSimpArgs false
set_option maxRecDepth 100000
set_option maxHeartbeats 8000000

theorem raws_belowD {w w' : World} {v : Value} {l : List RawD} (h : ArgSl 4 RawR w v l) (hb : Below w.heap.size w w') : ArgSl 4 RawR w' v l := by
  obtain ⟨a, n, c, hv, hl, h1, h2, h3, hc⟩ := h
  refine ⟨a, n, c, hv, hl, h1, h2, h3, fun k hk => ?_⟩
  obtain ⟨b, off, cs, ha, g0, g1, g3⟩ := hc k hk
  refine ⟨b, off, cs, ha, g0, fun j hj => ?_, g3⟩
  have hj' := g1 j hj
  rw [List.getElem?_eq_getElem (by omega)] at hj' ⊢
  exact cell_later hb hj'
theorem rawSzD : (Tryd.prog.info? 23).map (·.size) = some 4 := by kernel_rfl
theorem rawZeroD : (Tryd.prog.info? 23).map (·.zero) = some (some (.agg #[.int .i64 0, .int .i64 0, .int .i64 0, .int .i64 0])) := by kernel_rfl
theorem raw_oneD (x : RawD) : x.cells.all (·.oneCell') = true := by simp [RawD.cells, Value.oneCell']
theorem raw_rangeD {w : World} {g o : Nat} {x : RawD} (h0 : w.cell? ⟨g, o, none⟩ = some (.int .i64 x.kind)) (h1 : w.cell? ⟨g, o + 1, none⟩ = some (.int .i64 x.a)) (h2 : w.cell? ⟨g, o + 2, none⟩ = some (.int .i64 x.b)) (h3 : w.cell? ⟨g, o + 3, none⟩ = some (.int .i64 x.c)) :
    w.rangeAt g o x.cells.toList := by
  intro j v hv
  match j, hv with
  | 0, hv => cases hv; exact h0
  | 1, hv => cases hv; exact h1
  | 2, hv => cases hv; exact h2
  | 3, hv => cases hv; exact h3
  | j + 4, hv => simp [RawD.cells] at hv
/-- The object's box. -/
structure LPx (w W : World) (b p : Nat) (O : ObjD) (s : ObjV) : Prop where
  obj : W.heap[p]? = some (.cells (objCells O s) 35 (0, 0))
  m : ObjM W O s
  nf : ∀ k ∈ s.foot, k ≠ p
  bel : Below b w W
  lt : b ≤ p
/-- The object's box, and that of what a call made of it. -/
structure LQx (w W : World) (b p q : Nat) (O P : ObjD) (s s' : ObjV) : Prop where
  obj : W.heap[p]? = some (.cells (objCells O s) 35 (0, 0))
  res : W.heap[q]? = some (.cells (objCells P s') 35 (0, 0))
  m : ObjM W O s
  m' : ObjM W P s'
  nf : ∀ k ∈ s.foot, k ≠ p ∧ k ≠ q
  nf' : ∀ k ∈ s'.foot, k ≠ p ∧ k ≠ q
  bel : Below b w W
  lt : b ≤ p
  lq : p < q
section
variable {w W W' : World} {b p q : Nat} {O O' P P' : ObjD} {s s' s'' : ObjV}
theorem LPx.below (h : LPx w W b p O s) (hb : Below W.heap.size W W') : LPx w W' b p O s :=
  ⟨(hb.block _ (block_lt h.obj)).trans h.obj, h.m.below hb, h.nf, h.bel.trans (hb.mono (by have := block_lt h.obj; have := h.lt; omega)), h.lt⟩
theorem LPx.noMat (h : LPx w W b p O s) : LPx w (W.setCell ⟨p, 5, none⟩ (.slice none 0 0)) b p { O with mat := [] } { s with mat := {} } := by
  have hc : Chg [p] W (W.setCell ⟨p, 5, none⟩ (.slice none 0 0)) := (Chg.refl [p] W).setCell (.inl (by simp)) _
  have hf : ∀ k ∈ ObjV.foot { s with mat := {} }, k ∈ s.foot := fun k hk => by
    rcases mem_foot.1 hk with h' | h' | h' | h'
    · simp [Sl.blk] at h'
    · exact mem_foot.2 (.inr (.inl h'))
    · exact mem_foot.2 (.inr (.inr (.inl h')))
    · exact mem_foot.2 (.inr (.inr (.inr h')))
  refine ⟨?_, (h.m.keep hc (fun k hk hm => h.nf k hk (List.mem_singleton.1 hm))).noMat rfl rfl rfl rfl h.m.dl, fun k hk => h.nf k (hf k hk), h.bel.trans (hc.below (fun k hk => by rw [List.mem_singleton.1 hk]; exact h.lt) (by have := block_lt h.obj; have := h.lt; omega)), h.lt⟩
  have := block_setCell (j := 5) h.obj (.slice none 0 0)
  rw [os5] at this
  exact this
theorem LQx.below (h : LQx w W b p q O P s s') (hb : Below W.heap.size W W') : LQx w W' b p q O P s s' :=
  ⟨(hb.block _ (block_lt h.obj)).trans h.obj, (hb.block _ (block_lt h.res)).trans h.res, h.m.below hb, h.m'.below hb, h.nf, h.nf', h.bel.trans (hb.mono (by have := block_lt h.obj; have := h.lt; omega)), h.lt, h.lq⟩
theorem LQx.store (h : LQx w W b p q O P s s') (h1 : W'.heap[q]? = some (.cells (objCells P' s'') 35 (0, 0))) (hc : Chg [q] W W') (hm : ObjM W P' s'') (hf : ∀ k ∈ s''.foot, k ≠ p ∧ k ≠ q) : LQx w W' b p q O P' s s'' :=
  ⟨(hc.block _ (block_lt h.obj) (by have := h.lq; simp; omega)).trans h.obj, h1, h.m.keep hc (fun k hk hm => (h.nf k hk).2 (List.mem_singleton.1 hm)), hm.keep hc (fun k hk hm => (hf k hk).2 (List.mem_singleton.1 hm)), h.nf, hf,
    h.bel.trans (hc.below (fun k hk => by rw [List.mem_singleton.1 hk]; have := h.lt; have := h.lq; omega) (by have := block_lt h.obj; have := h.lt; omega)), h.lt, h.lq⟩
theorem LQx.back (h : LQx w W b p q O P s s') (h1 : W'.heap[p]? = some (.cells (objCells P s') 35 (0, 0))) (hc : Chg [p] W W') : LPx w W' b p P s' :=
  ⟨h1, h.m'.keep hc (fun k hk hm => (h.nf' k hk).1 (List.mem_singleton.1 hm)), fun k hk => (h.nf' k hk).1,
    h.bel.trans (hc.below (fun k hk => by rw [List.mem_singleton.1 hk]; exact h.lt) (by have := block_lt h.obj; have := h.lt; omega)), h.lt⟩
theorem LQx.old (h : LQx w W b p q O P s s') : LPx w W b p O s := ⟨h.obj, h.m, fun k hk => (h.nf k hk).1, h.bel, h.lt⟩
end
def stActC (q : Nat) (x : ObjD × Int) : St (Chg [q]) := ⟨fun v w => ∃ s', v = .tuple #[.agg (objCells x.1 s'), .int .i64 x.2] ∧ ObjM w x.1 s' ∧ ∀ k ∈ s'.foot, q < k, fun v w w' h hg => let ⟨s', e, h1, h2⟩ := h; ⟨s', e, h1.keep hg (fun k hk hm => by have := h2 k hk; have := List.mem_singleton.1 hm; omega), h2⟩⟩
def stActOC (q : Nat) (x : ObjD × Int) : St (Chg [q]) := ⟨fun v w => ∃ s', v = .agg (objCells x.1 s') ∧ ObjM w x.1 s' ∧ ∀ k ∈ s'.foot, q < k, fun v w w' h hg => let ⟨s', e, h1, h2⟩ := h; ⟨s', e, h1.keep hg (fun k hk hm => by have := h2 k hk; have := List.mem_singleton.1 hm; omega), h2⟩⟩
/-- An object's room, filled by operation j. -/
def QX (T : TypeId) (q j : Nat) (V : ObjD) (listed : Array Bool) (w : World) : Prop :=
  (∃ C, w.heap[q]? = some (.cells C T (0, 0)) ∧ C.size = 37) ∧ (listed.getD j false = true → ∃ s', w.heap[q]? = some (.cells (objCells V s') T (0, 0)) ∧ ObjM w V s' ∧ ∀ k ∈ s'.foot, q < k)
section
variable {T : TypeId} {q j i : Nat} {V : ObjD} {listed : Array Bool} {w w' : World}
theorem QX.start {O : ObjD} {s : ObjV} (h : w.heap[q]? = some (.cells (objCells O s) T (0, 0))) (n : Nat) : QX T q j V (Array.replicate n false) w.drew := by
  refine ⟨⟨_, h, objCells_size _ _⟩, fun h1 => ?_⟩
  simp only [Array.getD_eq_getD_getElem?] at h1
  rcases Nat.lt_or_ge j n with h' | h'
  · simp [h'] at h1
  · simp [Nat.not_lt.2 h'] at h1
theorem QX.same (h : QX T q j V listed w) (hi : (i != j) = true) : QX T q j V (listed.setIfInBounds i true) w := by
  refine ⟨h.1, fun h1 => h.2 ?_⟩
  rwa [dgetD_set_ne (by simpa using hi)] at h1
theorem QX.pass (h : QX T q j V listed w) (hb : Below w.heap.size w w') : QX T q j V listed w' := by
  obtain ⟨⟨C, h1, h2⟩, h3⟩ := h
  have e := hb.block _ (block_lt h1)
  refine ⟨⟨C, e.trans h1, h2⟩, fun hh => ?_⟩
  obtain ⟨s', h4, h5, h6⟩ := h3 hh
  exact ⟨s', e.trans h4, h5.below hb, h6⟩
theorem QX.there (h : QX T q j V listed w) : ∃ C, w.heap[q]? = some (.cells C T (0, 0)) ∧ C.size = 37 := h.1
theorem QX.one (h : QX T q j V listed w) (hi : j < listed.size) {s' : ObjV} (h1 : w'.heap[q]? = some (.cells (objCells V s') T (0, 0))) (hm : ObjM w' V s') (hf : ∀ k ∈ s'.foot, q < k) : QX T q j V (listed.setIfInBounds j true) w' :=
  ⟨⟨_, h1, objCells_size _ _⟩, fun _ => ⟨s', h1, hm, hf⟩⟩
theorem QX.fin (h : QX T q j V listed w) (hj : listed.getD j false = true) : ∃ s', w.heap[q]? = some (.cells (objCells V s') T (0, 0)) ∧ ObjM w V s' ∧ ∀ k ∈ s'.foot, q < k := h.2 hj
end
def stAct (q : Nat) (x : ObjD × Int) : St Grow := ⟨fun v w => ∃ s', v = .tuple #[.agg (objCells x.1 s'), .int .i64 x.2] ∧ ObjM w x.1 s' ∧ ∀ k ∈ s'.foot, q < k, fun v w w' h hg => let ⟨s', e, h1, h2⟩ := h; ⟨s', e, h1.below hg, h2⟩⟩
def stActO (q : Nat) (x : ObjD × Int) : St Grow := ⟨fun v w => ∃ s', v = .agg (objCells x.1 s') ∧ ObjM w x.1 s' ∧ ∀ k ∈ s'.foot, q < k, fun v w w' h hg => let ⟨s', e, h1, h2⟩ := h; ⟨s', e, h1.below hg, h2⟩⟩
theorem raw_st (x : RawD) (l : List RawD) : 1 ≤ (objRaw x l).st ∧ (objRaw x l).st ≤ 6 := by
  have hstep : ∀ (O : ObjD) (y : RawD), (objStep O y).st = O.st := by
    intro O y
    unfold objStep
    repeat' split
    all_goals rfl
  have hfold : ∀ (l : List RawD) (O : ObjD), (l.foldl objStep O).st = O.st := by
    intro l
    induction l with
    | nil => intro O; rfl
    | cons y l ih => intro O; exact (ih _).trans (hstep O y)
  have h0 : (objRaw x l).st = (objInit x).st := by
    unfold objRaw
    exact (hfold _ _)
  have h1 : (objInit x).st = 1 + pick x.kind 6 := rfl
  have h2 := pick_lo x.kind 6 (by omega)
  have h3 := pick_hi x.kind 6 (by omega)
  rw [h0, h1]
  constructor <;> omega
theorem lifePaths_walk (x : RawD) (hx : x.ok) (l : List RawD) (aL : Option Addr) (nL cL : Nat) (ls : List RawD) (aS : Option Addr) (nS cS : Nat) (w : World) (hal : ArgSl 4 RawR w (.slice aL nL cL) l) (has : ArgSl 4 RawR w (.slice aS nS cS) ls) :
    Calls Tryd.prog 3 #[.agg x.cells, .slice aL nL cL, .slice aS nS cS] w fun e w' => e = .returned (.bool true) ∧ Below w.heap.size w w' := by
  have HA := hid (raws_belowD hal ((Below.refl _ _).alloc (Nat.le_refl _) (.cells x.cells 23)))
  have OBJ := hid (fun w' h' => object_any x hx l aL nL cL w' h')
  have HS := hid has
  have HLS := hid (argSl_len has)
  have HST := hid (raw_st x l)
  clear hal has
  generalize hbe : w.heap.size = b
  have HBE := hid hbe; clear hbe
  go_enter Tryd.func3, Tryd.ntmps3
  go_upto_region 1 with (fail)
  have H1 := hid (block_new w (.cells x.cells 23))
  have HB1 := hid ((Below.refl w.heap.size w).alloc (Nat.le_refl _) (.cells x.cells 23))
  have HS1 : Hid ((w.alloc (.cells x.cells 23)).heap.size = w.heap.size + 1) := by show _ = _; simp
  rw [HBE.out] at H1 HB1 HS1 ⊢
  generalize w.alloc (.cells x.cells 23) = W at *
  have q0 := cell_of_block (j := 0) H1.out rfl
  have q1 := cell_of_block (j := 1) H1.out rfl
  have q2 := cell_of_block (j := 2) H1.out rfl
  have q3 := cell_of_block (j := 3) H1.out rfl
  go_wp2_with fail
  clear q0 q1 q2 q3
  refine (OBJ.out _ HA.out).mono ?_
  rintro e w2 ⟨s, rfl, hm2, hf2, hb2⟩
  have HM2 := hid hm2; have HB2 := hid hb2; have HF2 := hid hf2
  have hb2s := hb2.size
  rw [HS1.out] at hb2s
  clear hm2 hb2 hf2
  generalize objRaw x l = O at *
  have HBW : Hid (Below b w w2) := HB1.out.trans (HB2.out.mono (by rw [HS1.out]; omega))
  have HF : Hid (∀ k ∈ s.foot, k < w2.heap.size) := HM2.out.lt
  clear HB2 HB1 HS1 HF2 HA OBJ H1
  have HZP : Hid (b ≤ w2.heap.size) := by show _ ≤ _; have h1 := hb2s; omega
  clear hb2s
  go_upto_region 2 with (first | (refine wpList_alloc_obj rfl 35 rfl _ oZeroO ?_) | (refine wpList_store_obj rfl 35 _ _ rfl w2.heap.size rfl _ rfl _ _ (block_new w2 _) rfl (by rw [objCells_size]; exact oSizeO) (oc_one _ _) ?_; intro w3 hb3 hc3 hs3; have HB3 := hid hb3; have HC3 := hid hc3; clear hb3 hc3 hs3))
  go_simp
  have hbel : Below w2.heap.size w2 w3 := ((Below.refl _ w2).alloc (Nat.le_refl _) _).trans (HC3.out.below (fun k hk => by rw [List.mem_singleton.1 hk]; exact Nat.le_refl _) (by simp))
  have HX : Hid (LPx w w3 b w2.heap.size O s) := ⟨HB3.out, HM2.out.below hbel, fun k hk => by have := HF.out k hk; omega, HBW.out.trans (hbel.mono HZP.out), HZP.out⟩
  clear hbel HM2 HC3 HBW HB3 HF HZP
  generalize w2.heap.size = p at *
  have c6 := cell_of_block (j := 6) HX.out.obj (oc6 O s)
  go_upto_if 21 with (fail)
  go_cut [] (fun wx => ∃ (O' : ObjD) (s' : ObjV), LPx w wx b p O' s' ∧ PInv O')
  case first =>
    by_cases h5 : 5 ≤ O.st
    · have hfz : ∀ j, w3.frozen? ⟨p, j, none⟩ = false := fun j => frozen_of_block HX.out.obj
      have c5 := cell_of_block (j := 5) HX.out.obj (oc5 O s)
      have HN := hid HX.out.noMat
      go_wp2_with fail
      go_meet
      exact ⟨_, _, HN.out, HST.out.1, HST.out.2, fun _ => rfl⟩
    · have hlt : decide (5 ≤ O.st) = false := by simpa using h5
      go_wp2_with fail
      go_meet
      exact ⟨_, _, HX.out, HST.out.1, HST.out.2, fun h => by omega⟩
  case rest =>
    clear HX HST c6
    obtain ⟨O', s', hx', hinv⟩ := hcut
    have HX := hid hx'; have HI := hid hinv
    clear hx' hinv
    obtain ⟨hls, hnS⟩ := HLS.out
    go_wp2_with (go_at_call 7; refine (known11_any _).mono ?_; rintro e w4 ⟨rfl, hb4⟩; have HX4 := hid (HX.out.below hb4); clear hb4 HX)
    go_loopw [8] (fun u wr => ∃ (k : Nat) (O : ObjD) (s : ObjV), k ≤ nS ∧ k ≤ 20 ∧ u = .int .i64 k ∧ LPx w wr b p O s ∧ PInv O) (fun u _ => 20 - (intOf u).toNat)
    case atStart => exact ⟨0, O', s', Nat.zero_le _, Nat.zero_le _, rfl, HX4.out, HI.out⟩
    case round =>
      clear HX4 HI
      clear O' s'
      obtain ⟨k, O, s, hk, hk20, rfl, hl, hinv⟩ := hrel
      have HX := hid hl; have HI := hid hinv
      clear hl hinv
      by_cases hlt : k < nS
      · by_cases hlt20 : k < 20
        · have hbel : Below w.heap.size w wr := by rw [HBE.out]; exact HX.out.bel
          obtain ⟨bx, ox, y, haS, hy, hyok, c0, c1, c2, c3⟩ := raw_get (raws_belowD HS.out hbel) hlt
          subst haS
          have HR := hid (raw_rangeD c0 c1 c2 c3)
          clear c0 c1 c2 c3 hy hbel
          go_upto_region 10 with (first | (refine wpList_load_mid rfl 23 _ rfl bx (ox + k * 4) rfl y.cells.toList _ HR.out Tryd.underlying23 rfl rawSzD ?_; simp only [Array.toArray_toList]) | (refine wpList_alloc_obj rfl 23 rfl _ rawZeroD ?_) | (refine wpList_store_obj rfl 23 _ _ rfl wr.heap.size rfl y.cells rfl _ _ (block_new wr _) rfl rawSzD (raw_oneD y) ?_; intro w5 hb5 hc5 hs5; have HB5 := hid hb5; have HC5 := hid hc5; clear hb5 hc5 hs5))
          go_simp
          have hbel : Below wr.heap.size wr w5 := ((Below.refl _ wr).alloc (Nat.le_refl _) _).trans (HC5.out.below (fun k hk => by rw [List.mem_singleton.1 hk]; exact Nat.le_refl _) (by simp))
          have HX5 := hid (HX.out.below hbel)
          clear HC5 HR HX hbel
          generalize wr.heap.size = g at *
          have d0 := cell_of_block (j := 0) HB5.out rfl
          have d1 := cell_of_block (j := 1) HB5.out rfl
          have c6 := cell_of_block (j := 6) HX5.out.obj (oc6 O s)
          have p1 := pick_lo y.a 70 (by omega)
          have p2 := pick_hi y.a 70 (by omega)
          go_upto_region 12 with (go_at_call 8; refine (pick_any _ _ _ (by omega) (by omega)).mono ?_; rintro e u ⟨rfl, rfl⟩)
          clear c6 d1
          generalize pick y.a 70 = t at *
          go_upto_region 13 with (refine wpList_alloc_obj rfl 35 rfl _ oZeroO ?_)
          go_simp
          clear d0
          have HQ : Hid (LQx w (w5.alloc (.cells (objCells zObj zObjV) 35)) b p w5.heap.size O zObj s zObjV) := by
            have hbel : Below w5.heap.size w5 (w5.alloc (.cells (objCells zObj zObjV) 35)) := (Below.refl _ _).alloc (Nat.le_refl _) _
            have hx := HX5.out.below hbel
            exact ⟨hx.obj, block_new _ _, hx.m, ObjM.zero _, fun k hk => ⟨HX5.out.nf k hk, by have := HX5.out.m.lt k hk; omega⟩, (fun k hk => by simp [zObjV, ObjV.foot, Sl.blk] at hk), hx.bel, hx.lt, block_lt HX5.out.obj⟩
          have HY : Hid ((w5.alloc (.cells (objCells zObj zObjV) 35)).heap[g]? = some (.cells y.cells 23 (0, 0))) := (((Below.refl _ w5).alloc (Nat.le_refl _) (.cells (objCells zObj zObjV) 35)).block _ (block_lt HB5.out)).trans HB5.out
          have HGQ : Hid (g < w5.heap.size) := block_lt HB5.out
          clear HX5 HB5
          generalize w5.alloc (.cells (objCells zObj zObjV) 35) = w6 at *
          generalize w5.heap.size = q at *
          have d0 := cell_of_block (j := 0) HY.out rfl
          go_upto_block 2 with (go_at_call 8; refine (pick_any _ _ _ (by omega) (by omega)).mono ?_; rintro e u ⟨rfl, rfl⟩)
          clear d0
          have k1 := pick_lo y.kind 6 (by omega)
          have k2 := pick_hi y.kind 6 (by omega)
          generalize hkd : pick y.kind 6 = kd at *
          clear hkd
          go_cut [13, 14] (fun c e wx => ∃ (P : ObjD) (s' : ObjV) (cd ed : Int), c = .int .i64 cd ∧ e = .int .i64 ed ∧ LQx w wx b p q O P s s' ∧ (ed = 1 ∨ ed = 2) ∧ (cd = 0 → StepOk O P ed))
          case first =>
            have hk6 : kd = 0 ∨ kd = 1 ∨ kd = 2 ∨ kd = 3 ∨ kd = 4 ∨ kd = 5 := by omega
            clear k1 k2
            rcases hk6 with rfl | rfl | rfl | rfl | rfl | rfl
            · go_wp2_with (refine wpList_load_row rfl 35 _ rfl p rfl _ _ _ _ HQ.out.obj Tryd.underlying35 rfl (by rw [objCells_size]; exact oSizeO) ?_)
              refine (act_any O s t _ HQ.out.m).mono ?_
              rintro e w7 ⟨s7, rfl, hm7, hf7, hb7⟩
              have HQ7 := hid (HQ.out.below hb7)
              have HM7 := hid hm7
              have HF7 : Hid (∀ k ∈ s7.foot, k ≠ p ∧ k ≠ q) := fun k hk => by have h1 := hf7 k hk; have h2 := block_lt HQ.out.obj; have h3 := block_lt HQ.out.res; constructor <;> omega
              have HSTEP := hid (act_step O t HI.out)
              clear hm7 hf7 hb7 HQ HY
              generalize actV O t = V at *
              go_wp2_with (refine wpList_store_obj rfl 35 _ _ rfl q rfl _ rfl _ _ HQ7.out.res rfl (by rw [objCells_size]; exact oSizeO) (oc_one _ _) ?_; intro w8 hb8 hc8 hs8; have HQ8 := hid (HQ7.out.store hb8 hc8 HM7.out HF7.out); clear hb8 hc8 hs8)
              go_meet
              exact ⟨V.1, s7, V.2, 1, rfl, rfl, HQ8.out, .inl rfl, HSTEP.out⟩
            · have p1 := pick_lo y.b 7 (by omega)
              have p2 := pick_hi y.b 7 (by omega)
              have HWR : Hid (IntKind.i64.wrap (1 + pick y.b 7) = 1 + pick y.b 7) := IntWalk.i64_in _ (by omega)
              have REV := hid (fun W h => rev_anyN O s (1 + pick y.b 7) t ⟨#[]⟩ W h (by omega) (by omega) (by decide) (fun w => valid_m ⟨#[]⟩ (.inl rfl) w))
              have HSTEP := hid (rev_step O (1 + pick y.b 7) ⟨#[]⟩ t HI.out)
              clear p1 p2
              go_upto_region 21 with (fail)
              refine wp_region_eachX (m := 13) (Chg [q]) [.eq (.agg (objCells O s)), .eq (.pointer (some ⟨g, 2, none⟩)), .eq (.int .i64 y.b), .eq (.int .i64 (pick y.b 7)), .eq (.int .i64 (1 + pick y.b 7)), .eq (.agg #[.bool false, .int .i64 0]), .eq (.int .i64 t), stActC q (revN O (1 + pick y.b 7) ⟨#[]⟩ t), stActC q (revN O (1 + pick y.b 7) ⟨#[]⟩ t), stActOC q (revN O (1 + pick y.b 7) ⟨#[]⟩ t), .eq (.int .i64 (revN O (1 + pick y.b 7) ⟨#[]⟩ t).2), .eq (undef), .eq (.int .i64 (revN O (1 + pick y.b 7) ⟨#[]⟩ t).2)] (QX 35 q 11 (revN O (1 + pick y.b 7) ⟨#[]⟩ t).1) (by kernel_rfl) (by kernel_rfl) (by kernel_rfl) (by kernel_rfl) (chg1_trans) (by exact (Chg.refl _ _).drew) (by exact QX.start HQ.out.res 13) ?_ ?_
              · as_aux_lemma =>
                  refine each_c (o' := _) ?_ (each_c (o' := _) ?_ (each_c (o' := _) ?_ (each_c (o' := _) ?_ (each_c (o' := _) ?_ (each_c (o' := _) ?_ (each_c (o' := _) ?_ (each_c (o' := _) ?_ (each_c (o' := _) ?_ (each_c (o' := _) ?_ (each_c (o' := _) ?_ (each_c (o' := _) ?_ (each_c (o' := _) ?_ (each_n)))))))))))))
                  -- 0: load 35 t7
                  · intro w1 hg listed up hx Ar seen
                    have s7 := seen.slot 7 (v := .pointer (some ⟨p, 0, none⟩)) (by kernel_rfl) rfl
                    refine doesY_plain rfl fun K Q' hK => ?_
                    refine wp_load_row 35 _ rfl p (by simp [Act.eval, s7]) _ _ _ _ ((hg.block _ (block_lt HQ.out.obj) (by have := HQ.out.lq; simp; omega)).trans HQ.out.obj) Tryd.underlying35 rfl (by rw [objCells_size]; exact oSizeO) ?_
                    exact hK _ _ (Chg.refl _ _) (hx.same (by kernel_rfl)) rfl
                  -- 1: fieldAddr 23 t9 2
                  · intro w1 hg listed up hx Ar seen
                    have s9 := seen.slot 9 (v := .pointer (some ⟨g, 0, none⟩)) (by kernel_rfl) rfl
                    refine doesY_plain rfl fun K Q' hK => ?_
                    go_simp; exact hK _ _ (Chg.refl _ _) (hx.same (by kernel_rfl)) rfl
                  -- 2: load 3 t62
                  · intro w1 hg listed up hx Ar seen
                    obtain ⟨v1, e1, h1⟩ := seen.dep 1 (d := 62) (by kernel_rfl) (by kernel_rfl) rfl
                    rcases h1 with rfl
                    refine doesY_plain rfl fun K Q' hK => ?_
                    have hc := cell_of_block (j := 2) ((hg.block _ (block_lt HY.out) (by have := HGQ.out; simp; omega)).trans HY.out) rfl
                    go_simp; exact hK _ _ (Chg.refl _ _) (hx.same (by kernel_rfl)) rfl
                  -- 3: call fn8<locksmithhand.Pick> [t63, 7:i64] T[3, 3]
                  · intro w1 hg listed up hx Ar seen
                    obtain ⟨v2, e2, h2⟩ := seen.dep 2 (d := 63) (by kernel_rfl) (by kernel_rfl) rfl
                    rcases h2 with rfl
                    refine doesY_plain rfl fun K Q' hK => ?_
                    go_simp
                    refine (pick_any _ _ _ (by omega) (by omega)).mono ?_
                    rintro e u ⟨rfl, rfl⟩
                    exact hK _ _ (Chg.refl _ _) (hx.same (by kernel_rfl)) rfl
                  -- 4: binOp BinOp.add 3 1:i64 t64 3
                  · intro w1 hg listed up hx Ar seen
                    obtain ⟨v3, e3, h3⟩ := seen.dep 3 (d := 64) (by kernel_rfl) (by kernel_rfl) rfl
                    rcases h3 with rfl
                    refine doesY_plain rfl fun K Q' hK => ?_
                    have hs := HWR.out
                    go_simp; exact hK _ _ (Chg.refl _ _) (hx.same (by kernel_rfl)) rfl
                  -- 5: build 27 []
                  · intro w1 hg listed up hx Ar seen
                    refine doesY_plain rfl fun K Q' hK => ?_
                    go_simp; exact hK _ _ (Chg.refl _ _) (hx.same (by kernel_rfl)) rfl
                  -- 6: move t10
                  · intro w1 hg listed up hx Ar seen
                    have s10 := seen.slot 10 (v := .int .i64 t) (by kernel_rfl) rfl
                    refine doesY_plain rfl fun K Q' hK => ?_
                    go_simp; exact hK _ _ (Chg.refl _ _) (hx.same (by kernel_rfl)) rfl
                  -- 7: call fn10<life.Revoke> [t61, t65, b'', t66, t67] T[35, 3, 9, 27, 2]
                  · intro w1 hg listed up hx Ar seen
                    obtain ⟨v0, e0, h0⟩ := seen.dep 0 (d := 61) (by kernel_rfl) (by kernel_rfl) rfl
                    rcases h0 with rfl
                    obtain ⟨v4, e4, h4⟩ := seen.dep 4 (d := 65) (by kernel_rfl) (by kernel_rfl) rfl
                    rcases h4 with rfl
                    obtain ⟨v5, e5, h5⟩ := seen.dep 5 (d := 66) (by kernel_rfl) (by kernel_rfl) rfl
                    rcases h5 with rfl
                    obtain ⟨v6, e6, h6⟩ := seen.dep 6 (d := 67) (by kernel_rfl) (by kernel_rfl) rfl
                    rcases h6 with rfl
                    obtain ⟨v3, e3, h3⟩ := seen.dep 3 (d := 64) (by kernel_rfl) (by kernel_rfl) rfl
                    rcases h3 with rfl
                    refine doesY_plain rfl fun K Q' hK => ?_
                    go_simp
                    refine (REV.out _ (HQ.out.m.keep hg (fun k hk hm => (HQ.out.nf k hk).2 (List.mem_singleton.1 hm)))).mono ?_
                    rintro e u ⟨s9, rfl, hm, hf, hb⟩
                    exact hK _ _ (Chg.of_below hb _) ((hx.pass hb).same (by kernel_rfl)) ⟨s9, rfl, hm, fun k hk => by have h1 := hf k hk; have h2 := block_lt HQ.out.res; have h3 := hg.size; omega⟩
                  -- 8: move t68
                  · intro w1 hg listed up hx Ar seen
                    obtain ⟨v7, e7, h7⟩ := seen.dep 7 (d := 68) (by kernel_rfl) (by kernel_rfl) rfl
                    refine doesY_plain rfl fun K Q' hK => ?_
                    go_simp
                    exact hK _ _ (Chg.refl _ _) (hx.same (by kernel_rfl)) h7
                  -- 9: extract t60 0
                  · intro w1 hg listed up hx Ar seen
                    obtain ⟨v8, e8, h8⟩ := seen.dep 8 (d := 60) (by kernel_rfl) (by kernel_rfl) rfl
                    refine doesY_plain rfl fun K Q' hK => ?_
                    obtain ⟨s9, rfl, hm, hf⟩ := h8
                    go_simp
                    exact hK _ _ (Chg.refl _ _) (hx.same (by kernel_rfl)) ⟨s9, rfl, hm, hf⟩
                  -- 10: extract t60 1
                  · intro w1 hg listed up hx Ar seen
                    obtain ⟨v8, e8, h8⟩ := seen.dep 8 (d := 60) (by kernel_rfl) (by kernel_rfl) rfl
                    refine doesY_plain rfl fun K Q' hK => ?_
                    obtain ⟨s9, rfl, hm, hf⟩ := h8
                    go_simp
                    exact hK _ _ (Chg.refl _ _) (hx.same (by kernel_rfl)) rfl
                  -- 11: store 35 t12 t69
                  · intro w1 hg listed up hx Ar seen
                    obtain ⟨v9, e9, h9⟩ := seen.dep 9 (d := 69) (by kernel_rfl) (by kernel_rfl) rfl
                    have s12 := seen.slot 12 (v := .pointer (some ⟨q, 0, none⟩)) (by kernel_rfl) rfl
                    refine doesY_plain rfl fun K Q' hK => ?_
                    obtain ⟨s9, rfl, hm, hf⟩ := h9
                    obtain ⟨C, hC, hCs⟩ := hx.there
                    refine wp_store_obj 35 _ _ rfl q (by simp [Act.eval, s12]) _ (by simp [Act.eval, e9]; rfl) C _ hC (by rw [hCs, objCells_size]) (by rw [objCells_size]; exact oSizeO) (oc_one _ _) ?_
                    intro u hb1 hc1 hs1
                    exact hK undef _ hc1 (hx.one (by rw [up.size]; decide) hb1 (hm.keep hc1 (fun k hk hm => by have := hf k hk; have := List.mem_singleton.1 hm; omega)) hf) rfl
                  -- 12: assign t70
                  · intro w1 hg listed up hx Ar seen
                    obtain ⟨v10, e10, h10⟩ := seen.dep 10 (d := 70) (by kernel_rfl) (by kernel_rfl) rfl
                    rcases h10 with rfl
                    refine doesY_plain rfl fun K Q' hK => ?_
                    go_simp; exact hK _ _ (Chg.refl _ _) (hx.same (by kernel_rfl)) rfl
              intro w1 hg listed hl hx
              refine upon_w' (js := [0, 1, 2, 3, 4, 5, 6, 7, 8, 9, 10, 11, 12]) (by rfl) ?_
              refine upon_c (x := some 61) (by kernel_rfl) rfl fun v0 h0 => ?_
              rcases h0 with rfl
              refine upon_c (x := some 62) (by kernel_rfl) rfl fun v1 h1 => ?_
              rcases h1 with rfl
              refine upon_c (x := some 63) (by kernel_rfl) rfl fun v2 h2 => ?_
              rcases h2 with rfl
              refine upon_c (x := some 64) (by kernel_rfl) rfl fun v3 h3 => ?_
              rcases h3 with rfl
              refine upon_c (x := some 65) (by kernel_rfl) rfl fun v4 h4 => ?_
              rcases h4 with rfl
              refine upon_c (x := some 66) (by kernel_rfl) rfl fun v5 h5 => ?_
              rcases h5 with rfl
              refine upon_c (x := some 67) (by kernel_rfl) rfl fun v6 h6 => ?_
              rcases h6 with rfl
              refine upon_c (x := some 68) (by kernel_rfl) rfl fun v7 h7 => ?_
              refine upon_c (x := some 60) (by kernel_rfl) rfl fun v8 h8 => ?_
              refine upon_c (x := some 69) (by kernel_rfl) rfl fun v9 h9 => ?_
              refine upon_c (x := some 70) (by kernel_rfl) rfl fun v10 h10 => ?_
              rcases h10 with rfl
              refine upon_c (x := none) (by kernel_rfl) rfl fun v11 h11 => ?_
              rcases h11 with rfl
              refine upon_c (x := some 13) (by kernel_rfl) rfl fun v12 h12 => ?_
              rcases h12 with rfl
              refine upon_n ?_
              go_simp
              obtain ⟨s7, h1, hm7, hf7⟩ := hx.fin (hl 11 (by decide))
              have HQ8 : Hid (LQx w w1 b p q O (revN O (1 + pick y.b 7) ⟨#[]⟩ t).1 s s7) := ⟨(hg.block _ (block_lt HQ.out.obj) (by have := HQ.out.lq; simp; omega)).trans HQ.out.obj, h1, HQ.out.m.keep hg (fun k hk hm => (HQ.out.nf k hk).2 (List.mem_singleton.1 hm)), hm7, HQ.out.nf, fun k hk => by have h1 := hf7 k hk; have h2 := HQ.out.lq; constructor <;> omega,
                HQ.out.bel.trans (hg.below (fun k hk => by rw [List.mem_singleton.1 hk]; have := HQ.out.lt; have := HQ.out.lq; omega) (by have := block_lt HQ.out.obj; have := HQ.out.lt; omega)), HQ.out.lt, HQ.out.lq⟩
              clear hm7 hf7 hg HQ HY h1 h7 h8 h9 REV hx hl
              generalize revN O (1 + pick y.b 7) ⟨#[]⟩ t = V at *
              go_wp2_with fail
              go_meet
              exact ⟨V.1, s7, V.2, 1, rfl, rfl, HQ8.out, .inl rfl, HSTEP.out⟩
            · go_wp2_with (refine wpList_load_row rfl 35 _ rfl p rfl _ _ _ _ HQ.out.obj Tryd.underlying35 rfl (by rw [objCells_size]; exact oSizeO) ?_)
              refine (dst_any O s t _ HQ.out.m).mono ?_
              rintro e w7 ⟨s7, rfl, hm7, hf7, hb7⟩
              have HQ7 := hid (HQ.out.below hb7)
              have HM7 := hid hm7
              have HF7 : Hid (∀ k ∈ s7.foot, k ≠ p ∧ k ≠ q) := fun k hk => by have h1 := hf7 k hk; have h2 := block_lt HQ.out.obj; have h3 := block_lt HQ.out.res; constructor <;> omega
              have HSTEP := hid (dst_step O t HI.out)
              clear hm7 hf7 hb7 HQ HY
              generalize dstV O t = V at *
              go_wp2_with (refine wpList_store_obj rfl 35 _ _ rfl q rfl _ rfl _ _ HQ7.out.res rfl (by rw [objCells_size]; exact oSizeO) (oc_one _ _) ?_; intro w8 hb8 hc8 hs8; have HQ8 := hid (HQ7.out.store hb8 hc8 HM7.out HF7.out); clear hb8 hc8 hs8)
              go_meet
              exact ⟨V.1, s7, V.2, 1, rfl, rfl, HQ8.out, .inl rfl, HSTEP.out⟩
            · go_wp2_with (refine wpList_load_row rfl 35 _ rfl p rfl _ _ _ _ HQ.out.obj Tryd.underlying35 rfl (by rw [objCells_size]; exact oSizeO) ?_)
              refine (arc_any O s t _ HQ.out.m).mono ?_
              rintro e w7 ⟨s7, rfl, hm7, hf7, hb7⟩
              have HQ7 := hid (HQ.out.below hb7)
              have HM7 := hid hm7
              have HF7 : Hid (∀ k ∈ s7.foot, k ≠ p ∧ k ≠ q) := fun k hk => by have h1 := hf7 k hk; have h2 := block_lt HQ.out.obj; have h3 := block_lt HQ.out.res; constructor <;> omega
              have HSTEP := hid (arc_step O t HI.out)
              clear hm7 hf7 hb7 HQ HY
              generalize arcV O t = V at *
              go_wp2_with (refine wpList_store_obj rfl 35 _ _ rfl q rfl _ rfl _ _ HQ7.out.res rfl (by rw [objCells_size]; exact oSizeO) (oc_one _ _) ?_; intro w8 hb8 hc8 hs8; have HQ8 := hid (HQ7.out.store hb8 hc8 HM7.out HF7.out); clear hb8 hc8 hs8)
              go_meet
              exact ⟨V.1, s7, V.2, 1, rfl, rfl, HQ8.out, .inl rfl, HSTEP.out⟩
            · go_wp2_with (refine wpList_load_row rfl 35 _ rfl p rfl _ _ _ _ HQ.out.obj Tryd.underlying35 rfl (by rw [objCells_size]; exact oSizeO) ?_)
              refine (rec_any O s t _ HQ.out.m).mono ?_
              rintro e w7 ⟨s7, rfl, hm7, hf7, hb7⟩
              have HQ7 := hid (HQ.out.below hb7)
              have HM7 := hid hm7
              have HF7 : Hid (∀ k ∈ s7.foot, k ≠ p ∧ k ≠ q) := fun k hk => by have h1 := hf7 k hk; have h2 := block_lt HQ.out.obj; have h3 := block_lt HQ.out.res; constructor <;> omega
              have HSTEP := hid (rec_step O t HI.out)
              clear hm7 hf7 hb7 HQ HY
              generalize recV O t = V at *
              go_wp2_with (refine wpList_store_obj rfl 35 _ _ rfl q rfl _ rfl _ _ HQ7.out.res rfl (by rw [objCells_size]; exact oSizeO) (oc_one _ _) ?_; intro w8 hb8 hc8 hs8; have HQ8 := hid (HQ7.out.store hb8 hc8 HM7.out HF7.out); clear hb8 hc8 hs8)
              go_meet
              exact ⟨V.1, s7, V.2, 1, rfl, rfl, HQ8.out, .inl rfl, HSTEP.out⟩
            · go_wp2_with (refine wpList_load_row rfl 35 _ rfl p rfl _ _ _ _ HQ.out.obj Tryd.underlying35 rfl (by rw [objCells_size]; exact oSizeO) ?_)
              refine (move_any O s t _ HQ.out.m).mono ?_
              rintro e w7 ⟨s7, rfl, hm7, hf7, hb7⟩
              have HQ7 := hid (HQ.out.below hb7)
              have HM7 := hid hm7
              have HF7 : Hid (∀ k ∈ s7.foot, k ≠ p ∧ k ≠ q) := fun k hk => by have h1 := hf7 k hk; have h2 := block_lt HQ.out.obj; have h3 := block_lt HQ.out.res; constructor <;> omega
              have HSTEP := hid (move_step O t HI.out)
              clear hm7 hf7 hb7 HQ HY
              generalize movedOf O t = V at *
              go_wp2_with (refine wpList_store_obj rfl 35 _ _ rfl q rfl _ rfl _ _ HQ7.out.res rfl (by rw [objCells_size]; exact oSizeO) (oc_one _ _) ?_; intro w8 hb8 hc8 hs8; have HQ8 := hid (HQ7.out.store hb8 hc8 HM7.out HF7.out); clear hb8 hc8 hs8)
              go_meet
              exact ⟨V, s7, 0, 2, rfl, rfl, HQ8.out, .inr rfl, fun _ => HSTEP.out⟩
          case rest =>
            obtain ⟨P, s', cd, ed, rfl, rfl, hq, hed, hst⟩ := hcut
            clear HQ HY k1 k2
            have HQ := hid hq; have HST := hid hst; have HED := hid hed
            clear hq hst hed
            by_cases hcd : cd = 0
            · subst hcd
              have HS2 := hid (HST.out rfl)
              clear HST
              go_upto_region 30 with (first | (refine wpList_load_row rfl 35 _ rfl q rfl _ _ _ _ HQ.out.res Tryd.underlying35 rfl (by rw [objCells_size]; exact oSizeO) ?_) | (refine wpList_store_obj rfl 35 _ _ rfl p rfl _ rfl _ _ HQ.out.obj rfl (by rw [objCells_size]; exact oSizeO) (oc_one _ _) ?_; intro w7 hb7 hc7 hs7; have HX7 := hid (HQ.out.back hb7 hc7); clear hb7 hc7 hs7))
              clear HQ
              have c6 := cell_of_block (j := 6) HX7.out.obj (oc6 P s')
              have c5 := cell_of_block (j := 5) HX7.out.obj (oc5 P s')
              have n1 : decide (P.st < 1) = false := by have := HS2.out.1.1; simpa using this
              have n6 : decide (6 < P.st) = false := by have := HS2.out.1.2.1; simpa using this
              have HMAT : Hid (5 ≤ P.st → s'.mat.n = 0) := fun h => by
                have h1 := HX7.out.m.mat.rd.len
                rw [HS2.out.1.2.2 h] at h1
                simp only [List.map_nil, List.length_nil] at h1
                omega
              by_cases he : P.st = O.st
              · rw [← he]
                have heq : (P.st == P.st) = true := by simp
                clear he
                rcases HED.out with rfl | rfl
                · skip
                  by_cases h5 : 5 ≤ P.st
                  · have hmat := HMAT.out h5
                    rw [hmat] at c5
                    go_wp2_with fail
                    go_roundw
                    case rel =>
                      first
                        | exact ⟨k + 1, P, s', by omega, by omega, rfl, HX7.out, HS2.out.1⟩
                        | ((repeat apply Exists.intro); exact ⟨⟨k + 1, P, s', by omega, by omega, by go_num, HX7.out, HS2.out.1⟩, rfl⟩)
                    case measure => simp [intOf]; omega
                  · have hge : decide (5 ≤ P.st) = false := by simpa using h5
                    go_wp2_with fail
                    go_roundw
                    case rel =>
                      first
                        | exact ⟨k + 1, P, s', by omega, by omega, rfl, HX7.out, HS2.out.1⟩
                        | ((repeat apply Exists.intro); exact ⟨⟨k + 1, P, s', by omega, by omega, by go_num, HX7.out, HS2.out.1⟩, rfl⟩)
                    case measure => simp [intOf]; omega
                · skip
                  by_cases h5 : 5 ≤ P.st
                  · have hmat := HMAT.out h5
                    rw [hmat] at c5
                    go_wp2_with fail
                    go_roundw
                    case rel =>
                      first
                        | exact ⟨k + 1, P, s', by omega, by omega, rfl, HX7.out, HS2.out.1⟩
                        | ((repeat apply Exists.intro); exact ⟨⟨k + 1, P, s', by omega, by omega, by go_num, HX7.out, HS2.out.1⟩, rfl⟩)
                    case measure => simp [intOf]; omega
                  · have hge : decide (5 ≤ P.st) = false := by simpa using h5
                    go_wp2_with fail
                    go_roundw
                    case rel =>
                      first
                        | exact ⟨k + 1, P, s', by omega, by omega, rfl, HX7.out, HS2.out.1⟩
                        | ((repeat apply Exists.intro); exact ⟨⟨k + 1, P, s', by omega, by omega, by go_num, HX7.out, HS2.out.1⟩, rfl⟩)
                    case measure => simp [intOf]; omega
              · have hne : (P.st == O.st) = false := by simpa using he
                cases hE : edgeB O.st P.st with
                | true =>
                  have HE := hid hE
                  clear hE he
                  rcases HED.out with rfl | rfl
                  · skip
                    by_cases h5 : 5 ≤ P.st
                    · have hmat := HMAT.out h5
                      rw [hmat] at c5
                      go_wp2_with (go_at_call 15; refine (edge_any _ _ _).mono ?_; rintro e u ⟨rfl, rfl⟩; rw [HE.out])
                      go_roundw
                      case rel =>
                        first
                          | exact ⟨k + 1, P, s', by omega, by omega, rfl, HX7.out, HS2.out.1⟩
                          | ((repeat apply Exists.intro); exact ⟨⟨k + 1, P, s', by omega, by omega, by go_num, HX7.out, HS2.out.1⟩, rfl⟩)
                      case measure => simp [intOf]; omega
                    · have hge : decide (5 ≤ P.st) = false := by simpa using h5
                      go_wp2_with (go_at_call 15; refine (edge_any _ _ _).mono ?_; rintro e u ⟨rfl, rfl⟩; rw [HE.out])
                      go_roundw
                      case rel =>
                        first
                          | exact ⟨k + 1, P, s', by omega, by omega, rfl, HX7.out, HS2.out.1⟩
                          | ((repeat apply Exists.intro); exact ⟨⟨k + 1, P, s', by omega, by omega, by go_num, HX7.out, HS2.out.1⟩, rfl⟩)
                      case measure => simp [intOf]; omega
                  · skip
                    by_cases h5 : 5 ≤ P.st
                    · have hmat := HMAT.out h5
                      rw [hmat] at c5
                      go_wp2_with (go_at_call 15; refine (edge_any _ _ _).mono ?_; rintro e u ⟨rfl, rfl⟩; rw [HE.out])
                      go_roundw
                      case rel =>
                        first
                          | exact ⟨k + 1, P, s', by omega, by omega, rfl, HX7.out, HS2.out.1⟩
                          | ((repeat apply Exists.intro); exact ⟨⟨k + 1, P, s', by omega, by omega, by go_num, HX7.out, HS2.out.1⟩, rfl⟩)
                      case measure => simp [intOf]; omega
                    · have hge : decide (5 ≤ P.st) = false := by simpa using h5
                      go_wp2_with (go_at_call 15; refine (edge_any _ _ _).mono ?_; rintro e u ⟨rfl, rfl⟩; rw [HE.out])
                      go_roundw
                      case rel =>
                        first
                          | exact ⟨k + 1, P, s', by omega, by omega, rfl, HX7.out, HS2.out.1⟩
                          | ((repeat apply Exists.intro); exact ⟨⟨k + 1, P, s', by omega, by omega, by go_num, HX7.out, HS2.out.1⟩, rfl⟩)
                      case measure => simp [intOf]; omega
                | false =>
                  have HE := hid hE
                  have h3 : ed = 2 ∧ edgeB O.st 2 = true ∧ edgeB 2 P.st = true := by
                    rcases HS2.out.2 with h | h | h
                    · exact absurd h he
                    · rw [hE] at h; cases h
                    · exact h
                  obtain ⟨rfl, h3a, h3b⟩ := h3
                  have HE2 := hid h3a; have HE3 := hid h3b
                  clear hE he h3a h3b
                  by_cases h5 : 5 ≤ P.st
                  · have hmat := HMAT.out h5
                    rw [hmat] at c5
                    go_wp2_with (go_at_call 15; refine (edge_any _ _ _).mono ?_; rintro e u ⟨rfl, rfl⟩; first | rw [HE.out] | rw [HE2.out] | rw [HE3.out])
                    go_roundw
                    case rel =>
                      first
                        | exact ⟨k + 1, P, s', by omega, by omega, rfl, HX7.out, HS2.out.1⟩
                        | ((repeat apply Exists.intro); exact ⟨⟨k + 1, P, s', by omega, by omega, by go_num, HX7.out, HS2.out.1⟩, rfl⟩)
                    case measure => simp [intOf]; omega
                  · have hge : decide (5 ≤ P.st) = false := by simpa using h5
                    go_wp2_with (go_at_call 15; refine (edge_any _ _ _).mono ?_; rintro e u ⟨rfl, rfl⟩; first | rw [HE.out] | rw [HE2.out] | rw [HE3.out])
                    go_roundw
                    case rel =>
                      first
                        | exact ⟨k + 1, P, s', by omega, by omega, rfl, HX7.out, HS2.out.1⟩
                        | ((repeat apply Exists.intro); exact ⟨⟨k + 1, P, s', by omega, by omega, by go_num, HX7.out, HS2.out.1⟩, rfl⟩)
                    case measure => simp [intOf]; omega
            · have hne : (cd == 0) = false := by simpa using hcd
              have HX7 := hid HQ.out.old
              clear HQ
              go_wp2_with fail
              go_roundw
              case rel =>
                first
                  | exact ⟨k + 1, O, s, by omega, by omega, rfl, HX7.out, HI.out⟩
                  | ((repeat apply Exists.intro); exact ⟨⟨k + 1, O, s, by omega, by omega, by go_num, HX7.out, HI.out⟩, rfl⟩)
              case measure => simp [intOf]; omega
        · obtain rfl : k = 20 := by omega
          go_wp2_with fail
          go_ret
          exact ⟨rfl, HX.out.bel⟩
      · obtain rfl : k = nS := by omega
        go_wp2_with fail
        go_ret
        exact ⟨rfl, HX.out.bel⟩
end Go.Proofs.YtgenbpndphdgnaaDoor
