/- LifeArchives: the walk. -/
import Derived.Test.YtgenbpndphdgnaaDoorLaw11c
import Derived.Test.YtgenbpndphdgnaaDoorLaw11d
import Derived.Test.YtgenbpndphdgnaaDoorSame2
namespace Go.Proofs.YtgenbpndphdgnaaDoor
open Go.RowKit
set_option linter.unusedVariables false
set_option linter.unusedSimpArgs false
set_option maxRecDepth 100000
set_option maxHeartbeats 8000000

theorem there_ofD {w : World} {b o n : Nat} {C : Array Value} {T : TypeId} (h : w.heap[b]? = some (.cells C T (0, 0))) (hn : o + n ≤ C.size) : w.there b o n := fun j hj => by
  refine ⟨?_, frozen_of_block h⟩
  rw [cell_of_block h (Array.getElem?_eq_getElem (by omega))]; rfl
/-- A struct stored within a block: the world behind it kept shut. -/
theorem wpList_store_partD {P : Program} {w : World} {ops : Array Oper} {rest : List Oper} {op : Oper} {a : Act} {Q : Exit → Act → World → Prop} (hgd : op.guard = none) (ty : TypeId) (x y : Operand) (ho : op.op = .store ty x y)
    (p o : Nat) (cells : Array Value) (hx : a.eval x = .pointer (some ⟨p, o, none⟩)) (hy : a.eval y = .agg cells) {C : Array Value} {T : TypeId} (hg : w.heap[p]? = some (.cells C T (0, 0))) (hroom : o + cells.size ≤ C.size)
    (hi : (P.info? ty).map (·.size) = some cells.size) (h1 : cells.all (·.oneCell') = true) (C' : Array Value) (hC : setSeg C o cells.toList = C')
    (h : ∀ w', w'.heap[p]? = some (.cells C' T (0, 0)) → Chg [p] w w' → wpList P ops Q rest (a.put op.dst undef) w') : wpList P ops Q (op :: rest) a w :=
  wpList_store_mid hgd ty x y ho p o cells hx hy (there_ofD hg hroom) hi h1 (h _ (by rw [← hC]; exact setCells_block _ _ _ _ hg) (setCells_chg _ _ _ (Chg.refl _ _) (.inl (by simp))))
theorem eqDateB (d : Nat) (h : Bool) (t : Int) (w : World) : (Op.equalIn (d + 2) 27 (.agg #[.bool h, .int .i64 t]) (.agg #[.bool h, .int .i64 t])).run Tryd.prog w = .ok true w := by
  go_simp
theorem dateL_one (O : ObjD) : (dateL O).toArray.all (·.oneCell') = true := by simp [dateL, Value.oneCell']
theorem dSize10 : (Tryd.prog.info? 28).map (·.size) = some 20 := by kernel_rfl
theorem setDates (B O : ObjD) (s : ObjV) : setSeg (objCells B s) 7 (dateL O) = objCells { B with dates := O.dates } s := by kernel_rfl
def aO (O : ObjD) (t : Int) : ObjD := { (O.setDate 9 (true, t)).setDate 8 (true, t) with arch := true }
def bO (O : ObjD) (t : Int) : ObjD := { (aO O t).setDate 9 (true, t) with arch := false }
theorem aO_dat (O : ObjD) (t : Int) (hl : O.dates.length = 10) : (aO O t).dat 8 = (true, t) := by
  show ((O.setDate 9 (true, t)).setDate 8 (true, t)).dat 8 = _
  rw [dat_set _ (by rw [setDate_len]; exact hl) 8 8 _ (by decide), if_pos rfl]
theorem bO_dat (O : ObjD) (t : Int) (hl : O.dates.length = 10) : (bO O t).dat 9 = (true, t) := by
  show ((aO O t).setDate 9 (true, t)).dat 9 = _
  rw [dat_set _ (by show ((O.setDate 9 (true, t)).setDate 8 (true, t)).dates.length = 10; rw [setDate_len, setDate_len]; exact hl) 9 9 _ (by decide), if_pos rfl]
theorem jA (O : ObjD) (t : Int) (s : ObjV) (w : World) (h : ObjM w O s) (ha : O.arch = false) : Calls Tryd.prog 12 #[.agg (objCells O s), .int .i64 t] w (ActR w.heap.size w (aO O t) 0) := arc_ok O s t w h ha
theorem jAct (A : ObjD) (t : Int) (s : ObjV) (w : World) (h : ObjM w A s) (ha : A.arch = true) : Calls Tryd.prog 9 #[.agg (objCells A s), .int .i64 t] w (ActR w.heap.size w zObj 13) := act_arch A s t w h ha
theorem jRev (A : ObjD) (t r : Int) (s : ObjV) (w : World) (h : ObjM w A s) (ha : A.arch = true) (h1 : 1 ≤ r) (h7 : r ≤ 7) : Calls Tryd.prog 10 #[.agg (objCells A s), .int .i64 r, .string ⟨#[]⟩, .agg #[.bool false, .int .i64 0], .int .i64 t] w (ActR w.heap.size w zObj 13) :=
  rev_archN A s r t ⟨#[]⟩ w h h1 h7 (by decide) (fun w => valid_m ⟨#[]⟩ (.inl rfl) w) ha
theorem jDst (A : ObjD) (t : Int) (s : ObjV) (w : World) (h : ObjM w A s) (ha : A.arch = true) : Calls Tryd.prog 11 #[.agg (objCells A s), .int .i64 t] w (ActR w.heap.size w zObj 13) := by
  by_cases h4 : A.st = 4
  · exact dst_arch4 A s t w h ha h4
  · exact dst_archN A s t w h ha h4
theorem jArc (A : ObjD) (t : Int) (s : ObjV) (w : World) (h : ObjM w A s) (ha : A.arch = true) : Calls Tryd.prog 12 #[.agg (objCells A s), .int .i64 t] w (ActR w.heap.size w zObj 13) := arc_arch A s t w h ha
theorem jRec (O : ObjD) (t : Int) (s : ObjV) (w : World) (h : ObjM w (aO O t) s) : Calls Tryd.prog 13 #[.agg (objCells (aO O t) s), .int .i64 t] w (ActR w.heap.size w (bO O t) 0) := rec_ok (aO O t) s t w h rfl
theorem lifeArchives_walk (x : RawD) (hx : x.ok) (l : List RawD) (aL : Option Addr) (nL cL : Nat) (now reason : Int) (w : World) (hn : -9223372036854775808 ≤ now ∧ now ≤ 9223372036854775807) (hrs : -9223372036854775808 ≤ reason ∧ reason ≤ 9223372036854775807) (hal : ArgSl 4 RawR w (.slice aL nL cL) l) :
    Calls Tryd.prog 4 #[.agg x.cells, .slice aL nL cL, .int .i64 now, .int .i64 reason] w fun e w' => e = .returned (.bool true) ∧ Below w.heap.size w w' := by
  have HA := hid (raws_belowD hal ((Below.refl _ _).alloc (Nat.le_refl _) (.cells x.cells 23)))
  have OBJ := hid (fun w' h' => object_any x hx l aL nL cL w' h')
  clear hal
  generalize hbe : w.heap.size = b
  have HBE := hid hbe; clear hbe
  go_enter Tryd.func4, Tryd.ntmps4
  go_upto_region 1 with (fail)
  have H1 := hid (block_new w (.cells x.cells 23))
  have HB1 := hid ((Below.refl w.heap.size w).alloc (Nat.le_refl _) (.cells x.cells 23))
  have HS1 : Hid ((w.alloc (.cells x.cells 23)).heap.size = w.heap.size + 1) := by show _ = _; simp
  rw [HBE.out] at H1 HB1 HS1 ⊢
  generalize w.alloc (.cells x.cells 23) = W at *
  have q0 := cell_of_block (j := 0) H1.out rfl
  have q1 := cell_of_block (j := 1) H1.out rfl
  have q2 := cell_of_block (j := 2) H1.out rfl
  have q3 := cell_of_block (j := 3) H1.out rfl
  go_wp2_with fail
  clear q0 q1 q2 q3
  refine (OBJ.out _ HA.out).mono ?_
  rintro e w2 ⟨s, rfl, hm2, hf2, hb2⟩
  have HM2 := hid hm2; have HB2 := hid hb2; have HF2 := hid hf2
  have hb2s := hb2.size
  rw [HS1.out] at hb2s
  clear hm2 hb2 hf2
  generalize objRaw x l = O at *
  have HBW : Hid (Below b w w2) := HB1.out.trans (HB2.out.mono (by rw [HS1.out]; omega))
  have HF : Hid (∀ k ∈ s.foot, k < w2.heap.size) := HM2.out.lt
  clear HB2 HB1 HS1 HF2 HA OBJ H1
  have HZP : Hid (b ≤ w2.heap.size) := by show _ ≤ _; have h1 := hb2s; omega
  clear hb2s
  go_upto_region 2 with (first | (refine wpList_alloc_obj rfl 35 rfl _ oZeroO ?_) | (refine wpList_store_obj rfl 35 _ _ rfl w2.heap.size rfl _ rfl _ _ (block_new w2 _) rfl (by rw [objCells_size]; exact oSizeO) (oc_one _ _) ?_; intro w3 hb3 hc3 hs3; have HB3 := hid hb3; have HC3 := hid hc3; clear hb3 hc3 hs3))
  go_simp
  have hbel : Below w2.heap.size w2 w3 := ((Below.refl _ w2).alloc (Nat.le_refl _) _).trans (HC3.out.below (fun k hk => by rw [List.mem_singleton.1 hk]; exact Nat.le_refl _) (by simp))
  have HX : Hid (LPx w w3 b w2.heap.size O s) := ⟨HB3.out, HM2.out.below hbel, fun k hk => by have := HF.out k hk; omega, HBW.out.trans (hbel.mono HZP.out), HZP.out⟩
  clear hbel HM2 HC3 HBW HB3 HF HZP
  generalize w2.heap.size = p at *
  have hfz : ∀ j, w3.frozen? ⟨p, j, none⟩ = false := fun j => frozen_of_block HX.out.obj
  have c36 := cell_of_block (j := 36) HX.out.obj (oc36 O s)
  have hX3 := block_setCell (j := 36) HX.out.obj (.bool false)
  rw [os36] at hX3
  have hC3 : Chg [p] w3 (w3.setCell ⟨p, 36, none⟩ (.bool false)) := (Chg.refl [p] w3).setCell (.inl (by simp)) _
  have HK : Hid (KB w (w3.setCell ⟨p, 36, none⟩ (.bool false)) b [(p, { O with arch := false }, s, true)]) :=
    kb_start (HX.out.bel.trans (hC3.below (fun k hk => by rw [List.mem_singleton.1 hk]; exact HX.out.lt) (by have := block_lt HX.out.obj; have := HX.out.lt; omega))) (by have := block_lt HX.out.obj; have := HX.out.lt; have := hC3.size; omega) hX3
      (fun _ => (HX.out.m.keep hC3 (fun k hk hm => HX.out.nf k hk (List.mem_singleton.1 hm))).data rfl rfl rfl rfl HX.out.m.dl)
  go_upto_region 3 with (fail)
  clear hfz c36 hX3 hC3 HX
  generalize w3.setCell ⟨p, 36, none⟩ (.bool false) = w4 at *
  have hOa : ({ O with arch := false } : ObjD).arch = false := rfl
  generalize ({ O with arch := false } : ObjD) = O at *
  have HOA := hid hOa; clear hOa
  have HL := hid (HK.out.m (p := p) (O := O) (s := s) (by simp)).dl
  go_upto_region 4 with (go_at_call 8; refine (pick_any _ _ _ (by omega) (by omega)).mono ?_; rintro e u ⟨rfl, rfl⟩)
  generalize pick now 70 = t at *
  go_wp2_with (first | (refine wpList_load_row rfl 35 _ rfl p rfl _ _ _ _ (HK.out.obj (O := O) (s := s) (f := true) (by simp)) Tryd.underlying35 rfl (by rw [objCells_size]; exact oSizeO) ?_) | fail)
  refine (jA O t s _ (HK.out.m (p := p) (O := O) (s := s) (by simp)) HOA.out).mono ?_
  rintro e w10 ⟨sv11, rfl, hm, hf, hb⟩
  have HK1 := hid (HK.out.below hb)
  have HM1 := hid hm
  clear hm hf hb HK
  go_upto_region 5 with (first | (refine wpList_alloc_obj rfl 35 rfl _ oZeroO ?_) | (refine wpList_store_obj rfl 35 _ _ rfl w10.heap.size rfl _ rfl _ _ (block_new w10 _) rfl (by rw [objCells_size]; exact oSizeO) (oc_one _ _) ?_; intro w10' hb1 hc1 hs1; have HB1 := hid hb1; have HC1 := hid hc1; clear hb1 hc1 hs1))
  go_simp
  have hbel : Below w10.heap.size w10 w10' := ((Below.refl _ w10).alloc (Nat.le_refl _) _).trans (HC1.out.below (fun k hk => by rw [List.mem_singleton.1 hk]; exact Nat.le_refl _) (by simp))
  have HK := hid (HK1.out.add (f := true) hbel HB1.out (fun _ => HM1.out.below hbel))
  clear HK1 HM1 HB1 HC1 hbel
  generalize w10.heap.size = p11 at *
  go_wp2_with fail
  refine (known11_any _).mono ?_
  rintro e wq ⟨rfl, hb⟩
  have HK1 := hid (HK.out.below hb)
  clear hb HK
  have HK := HK1
  clear HK1
  go_wp2_with (first | (refine wpList_load_row rfl 35 _ rfl p11 rfl _ _ _ _ (HK.out.obj (O := aO O t) (s := sv11) (f := true) (by simp)) Tryd.underlying35 rfl (by rw [objCells_size]; exact oSizeO) ?_) | fail)
  refine (jAct (aO O t) t sv11 _ (HK.out.m (p := p11) (O := aO O t) (s := sv11) (by simp)) rfl).mono ?_
  rintro e w11 ⟨sv13, rfl, hm, hf, hb⟩
  have HK1 := hid (HK.out.below hb)
  have HM1 := hid hm
  clear hm hf hb HK
  go_upto_region 8 with (first | (refine wpList_alloc_obj rfl 35 rfl _ oZeroO ?_) | (refine wpList_store_obj rfl 35 _ _ rfl w11.heap.size rfl _ rfl _ _ (block_new w11 _) rfl (by rw [objCells_size]; exact oSizeO) (oc_one _ _) ?_; intro w11' hb1 hc1 hs1; have HB1 := hid hb1; have HC1 := hid hc1; clear hb1 hc1 hs1))
  go_simp
  have hbel : Below w11.heap.size w11 w11' := ((Below.refl _ w11).alloc (Nat.le_refl _) _).trans (HC1.out.below (fun k hk => by rw [List.mem_singleton.1 hk]; exact Nat.le_refl _) (by simp))
  have HK := hid (HK1.out.add (f := true) hbel HB1.out (fun _ => HM1.out.below hbel))
  clear HK1 HM1 HB1 HC1 hbel
  generalize w11.heap.size = p13 at *
  obtain ⟨z, hz⟩ : ∃ z, z = w11'.heap.size := ⟨_, rfl⟩
  have HZ := hid hz; clear hz
  have r1 := pick_lo reason 7 (by omega)
  have r2 := pick_hi reason 7 (by omega)
  have HWR : Hid (IntKind.i64.wrap (1 + pick reason 7) = 1 + pick reason 7) := IntWalk.i64_in _ (by omega)
  have HR1 : Hid (1 ≤ 1 + pick reason 7 ∧ 1 + pick reason 7 ≤ 7) := by show _ ∧ _; omega
  clear r1 r2
  refine wp_region_eachF (m := 13) (Below z) [.eq (.agg (objCells (aO O t) sv11)), .eq (.int .i64 reason), .eq (.int .i64 (pick reason 7)), .eq (.int .i64 (1 + pick reason 7)), .eq (.agg #[.bool false, .int .i64 0]), .eq (.int .i64 t), stTup z zObj 13, stTup z zObj 13, stTupO z zObj, .eq (.int .i64 13), stPtr z, .eq (undef), .eq (.int .i64 13)] (AX 35 10 11 15 zObj z) (by kernel_rfl) (by kernel_rfl) (by kernel_rfl) (by kernel_rfl) (belowz_trans) (by exact (Below.refl _ _).drew) (by exact AX.start (Nat.le_of_eq HZ.out) 13) ?_ ?_
  · as_aux_lemma =>
      refine each_c (o' := _) ?_ (each_c (o' := _) ?_ (each_c (o' := _) ?_ (each_c (o' := _) ?_ (each_c (o' := _) ?_ (each_c (o' := _) ?_ (each_c (o' := _) ?_ (each_c (o' := _) ?_ (each_c (o' := _) ?_ (each_c (o' := _) ?_ (each_c (o' := _) ?_ (each_c (o' := _) ?_ (each_c (o' := _) ?_ (each_n)))))))))))))
      -- 0: load 35 t11
      · intro w1 hg listed up Ar hx seen
        have s11 := seen.slot 11 (v := .pointer (some ⟨p11, 0, none⟩)) (by kernel_rfl) rfl
        refine doesF_plain rfl fun K Q' hK => ?_
        refine wp_load_row 35 _ rfl p11 (by simp [Act.eval, s11]) _ _ _ _ ((hg.block _ (by rw [HZ.out]; exact block_lt (HK.out.obj (p := p11) (O := aO O t) (s := sv11) (f := true) (by simp)))).trans (HK.out.obj (p := p11) (O := aO O t) (s := sv11) (f := true) (by simp))) Tryd.underlying35 rfl (by rw [objCells_size]; exact oSizeO) ?_
        exact hK _ _ (Below.refl _ _) (hx.same (by kernel_rfl)) rfl
      -- 1: move t3
      · intro w1 hg listed up Ar hx seen
        have s3 := seen.slot 3 (v := .int .i64 reason) (by kernel_rfl) rfl
        refine doesF_plain rfl fun K Q' hK => ?_
        go_simp; exact hK _ _ (Below.refl _ _) (hx.same (by kernel_rfl)) rfl
      -- 2: call fn8<locksmithhand.Pick> [t49, 7:i64] T[3, 3]
      · intro w1 hg listed up Ar hx seen
        obtain ⟨v1, e1, h1⟩ := seen.dep 1 (d := 49) (by kernel_rfl) (by kernel_rfl) rfl
        rcases h1 with rfl
        refine doesF_plain rfl fun K Q' hK => ?_
        go_simp
        refine (pick_any _ _ _ (by omega) (by omega)).mono ?_
        rintro e u ⟨rfl, rfl⟩
        exact hK _ _ (Below.refl _ _) (hx.same (by kernel_rfl)) rfl
      -- 3: binOp BinOp.add 3 1:i64 t50 3
      · intro w1 hg listed up Ar hx seen
        obtain ⟨v2, e2, h2⟩ := seen.dep 2 (d := 50) (by kernel_rfl) (by kernel_rfl) rfl
        rcases h2 with rfl
        refine doesF_plain rfl fun K Q' hK => ?_
        have hs := HWR.out
        go_simp; exact hK _ _ (Below.refl _ _) (hx.same (by kernel_rfl)) rfl
      -- 4: build 27 []
      · intro w1 hg listed up Ar hx seen
        refine doesF_plain rfl fun K Q' hK => ?_
        go_simp; exact hK _ _ (Below.refl _ _) (hx.same (by kernel_rfl)) rfl
      -- 5: move t10
      · intro w1 hg listed up Ar hx seen
        have s10 := seen.slot 10 (v := .int .i64 t) (by kernel_rfl) rfl
        refine doesF_plain rfl fun K Q' hK => ?_
        go_simp; exact hK _ _ (Below.refl _ _) (hx.same (by kernel_rfl)) rfl
      -- 6: call fn10<life.Revoke> [t48, t51, b'', t52, t53] T[35, 3, 9, 27, 2]
      · intro w1 hg listed up Ar hx seen
        obtain ⟨v0, e0, h0⟩ := seen.dep 0 (d := 48) (by kernel_rfl) (by kernel_rfl) rfl
        rcases h0 with rfl
        obtain ⟨v3, e3, h3⟩ := seen.dep 3 (d := 51) (by kernel_rfl) (by kernel_rfl) rfl
        rcases h3 with rfl
        obtain ⟨v4, e4, h4⟩ := seen.dep 4 (d := 52) (by kernel_rfl) (by kernel_rfl) rfl
        rcases h4 with rfl
        obtain ⟨v5, e5, h5⟩ := seen.dep 5 (d := 53) (by kernel_rfl) (by kernel_rfl) rfl
        rcases h5 with rfl
        refine doesF_plain rfl fun K Q' hK => ?_
        go_simp
        refine (jRev (aO O t) t (1 + pick reason 7) sv11 _ ((HK.out.m (p := p11) (O := aO O t) (s := sv11) (by simp)).below (by rw [← HZ.out]; exact hg)) rfl HR1.out.1 HR1.out.2).mono ?_
        rintro e u ⟨s9, rfl, hm, hf, hb⟩
        exact hK _ _ (hb.mono hx.1) ((hx.pass hb).same (by kernel_rfl)) ⟨s9, rfl⟩
      -- 7: move t54
      · intro w1 hg listed up Ar hx seen
        obtain ⟨v6, e6, h6⟩ := seen.dep 6 (d := 54) (by kernel_rfl) (by kernel_rfl) rfl
        refine doesF_plain rfl fun K Q' hK => ?_
        go_simp
        exact hK _ _ (Below.refl _ _) (hx.same (by kernel_rfl)) h6
      -- 8: extract t47 0
      · intro w1 hg listed up Ar hx seen
        obtain ⟨v7, e7, h7⟩ := seen.dep 7 (d := 47) (by kernel_rfl) (by kernel_rfl) rfl
        refine doesF_plain rfl fun K Q' hK => ?_
        obtain ⟨s9, rfl⟩ := h7
        go_simp
        exact hK _ _ (Below.refl _ _) (hx.same (by kernel_rfl)) ⟨s9, rfl⟩
      -- 9: extract t47 1
      · intro w1 hg listed up Ar hx seen
        obtain ⟨v7, e7, h7⟩ := seen.dep 7 (d := 47) (by kernel_rfl) (by kernel_rfl) rfl
        refine doesF_plain rfl fun K Q' hK => ?_
        obtain ⟨s9, rfl⟩ := h7
        go_simp
        exact hK _ _ (Below.refl _ _) (hx.same (by kernel_rfl)) rfl
      -- 10: alloc 35
      · intro w1 hg listed up Ar hx seen
        refine doesF_plain rfl fun K Q' hK => ?_
        refine wp_alloc_obj 35 rfl _ oZeroO ?_
        exact hK _ _ ((Below.refl _ _).alloc hx.1 _) (hx.made (up.later 11 (by kernel_rfl)) (by decide) (by rw [seen.size]; exact Nat.le_of_ble_eq_true (by kernel_rfl)) rfl rfl) ⟨_, rfl⟩
      -- 11: store 35 t15 t55
      · intro w1 hg listed up Ar hx seen
        obtain ⟨v10, e10, h10⟩ := seen.dep 10 (d := 15) (by kernel_rfl) (by kernel_rfl) rfl
        obtain ⟨v8, e8, h8⟩ := seen.dep 8 (d := 55) (by kernel_rfl) (by kernel_rfl) rfl
        refine doesF_plain rfl fun K Q' hK => ?_
        obtain ⟨s9, rfl⟩ := h8
        obtain ⟨p, C, hp, hz, hC, hCs⟩ := hx.there (up.did 10 (by decide))
        refine wp_store_obj 35 _ _ rfl p (by simp [Act.eval, hp]) _ (by simp [Act.eval, e8]; rfl) C _ hC (by rw [hCs, objCells_size]) (by rw [objCells_size]; exact oSizeO) (oc_one _ _) ?_
        intro u hb1 hc1 hs1
        exact hK undef _ (hc1.below (fun k hk => by rw [List.mem_singleton.1 hk]; exact hz) hx.1) (hx.filled (by rw [hs1]; exact hx.1) hp hz hb1) rfl
      -- 12: assign t56
      · intro w1 hg listed up Ar hx seen
        obtain ⟨v9, e9, h9⟩ := seen.dep 9 (d := 56) (by kernel_rfl) (by kernel_rfl) rfl
        rcases h9 with rfl
        refine doesF_plain rfl fun K Q' hK => ?_
        go_simp; exact hK _ _ (Below.refl _ _) (hx.same (by kernel_rfl)) rfl
  intro w1 hg listed Ab hl hx
  refine upon_w' (js := [0, 1, 2, 3, 4, 5, 6, 7, 8, 9, 10, 11, 12]) (by rfl) ?_
  refine upon_c (x := some 48) (by kernel_rfl) rfl fun v0 h0 => ?_
  rcases h0 with rfl
  refine upon_c (x := some 49) (by kernel_rfl) rfl fun v1 h1 => ?_
  rcases h1 with rfl
  refine upon_c (x := some 50) (by kernel_rfl) rfl fun v2 h2 => ?_
  rcases h2 with rfl
  refine upon_c (x := some 51) (by kernel_rfl) rfl fun v3 h3 => ?_
  rcases h3 with rfl
  refine upon_c (x := some 52) (by kernel_rfl) rfl fun v4 h4 => ?_
  rcases h4 with rfl
  refine upon_c (x := some 53) (by kernel_rfl) rfl fun v5 h5 => ?_
  rcases h5 with rfl
  refine upon_c (x := some 54) (by kernel_rfl) rfl fun v6 h6 => ?_
  refine upon_c (x := some 47) (by kernel_rfl) rfl fun v7 h7 => ?_
  refine upon_c (x := some 55) (by kernel_rfl) rfl fun v8 h8 => ?_
  refine upon_c (x := some 56) (by kernel_rfl) rfl fun v9 h9 => ?_
  rcases h9 with rfl
  refine upon_c (x := some 15) (by kernel_rfl) rfl fun v10 h10 => ?_
  refine upon_c (x := none) (by kernel_rfl) rfl fun v11 h11 => ?_
  rcases h11 with rfl
  refine upon_c (x := some 16) (by kernel_rfl) rfl fun v12 h12 => ?_
  rcases h12 with rfl
  refine upon_n ?_
  rintro rfl
  go_simp
  clear hx hl h6 h7 h8 HWR HR1
  obtain ⟨p15, rfl⟩ := h10
  have HK1 := hid (HK.out.below (by rw [← HZ.out]; exact hg))
  clear HK hg HZ
  have HK := HK1
  clear HK1
  go_wp2_with (first | (refine wpList_load_row rfl 35 _ rfl p11 rfl _ _ _ _ (HK.out.obj (O := aO O t) (s := sv11) (f := true) (by simp)) Tryd.underlying35 rfl (by rw [objCells_size]; exact oSizeO) ?_) | fail)
  refine (jDst (aO O t) t sv11 _ (HK.out.m (p := p11) (O := aO O t) (s := sv11) (by simp)) rfl).mono ?_
  rintro e w12 ⟨sv17, rfl, hm, hf, hb⟩
  have HK1 := hid (HK.out.below hb)
  have HM1 := hid hm
  clear hm hf hb HK
  go_upto_region 10 with (first | (refine wpList_alloc_obj rfl 35 rfl _ oZeroO ?_) | (refine wpList_store_obj rfl 35 _ _ rfl w12.heap.size rfl _ rfl _ _ (block_new w12 _) rfl (by rw [objCells_size]; exact oSizeO) (oc_one _ _) ?_; intro w12' hb1 hc1 hs1; have HB1 := hid hb1; have HC1 := hid hc1; clear hb1 hc1 hs1))
  go_simp
  have hbel : Below w12.heap.size w12 w12' := ((Below.refl _ w12).alloc (Nat.le_refl _) _).trans (HC1.out.below (fun k hk => by rw [List.mem_singleton.1 hk]; exact Nat.le_refl _) (by simp))
  have HK := hid (HK1.out.add (f := true) hbel HB1.out (fun _ => HM1.out.below hbel))
  clear HK1 HM1 HB1 HC1 hbel
  generalize w12.heap.size = p17 at *
  go_wp2_with (first | (refine wpList_load_row rfl 35 _ rfl p11 rfl _ _ _ _ (HK.out.obj (O := aO O t) (s := sv11) (f := true) (by simp)) Tryd.underlying35 rfl (by rw [objCells_size]; exact oSizeO) ?_) | fail)
  refine (jArc (aO O t) t sv11 _ (HK.out.m (p := p11) (O := aO O t) (s := sv11) (by simp)) rfl).mono ?_
  rintro e w13 ⟨sv19, rfl, hm, hf, hb⟩
  have HK1 := hid (HK.out.below hb)
  have HM1 := hid hm
  clear hm hf hb HK
  go_upto_region 11 with (first | (refine wpList_alloc_obj rfl 35 rfl _ oZeroO ?_) | (refine wpList_store_obj rfl 35 _ _ rfl w13.heap.size rfl _ rfl _ _ (block_new w13 _) rfl (by rw [objCells_size]; exact oSizeO) (oc_one _ _) ?_; intro w13' hb1 hc1 hs1; have HB1 := hid hb1; have HC1 := hid hc1; clear hb1 hc1 hs1))
  go_simp
  have hbel : Below w13.heap.size w13 w13' := ((Below.refl _ w13).alloc (Nat.le_refl _) _).trans (HC1.out.below (fun k hk => by rw [List.mem_singleton.1 hk]; exact Nat.le_refl _) (by simp))
  have HK := hid (HK1.out.add (f := true) hbel HB1.out (fun _ => HM1.out.below hbel))
  clear HK1 HM1 HB1 HC1 hbel
  generalize w13.heap.size = p19 at *
  go_wp2_with (first | (refine wpList_load_row rfl 35 _ rfl p11 rfl _ _ _ _ (HK.out.obj (O := aO O t) (s := sv11) (f := true) (by simp)) Tryd.underlying35 rfl (by rw [objCells_size]; exact oSizeO) ?_) | fail)
  refine (jRec O t sv11 _ (HK.out.m (p := p11) (O := aO O t) (s := sv11) (by simp))).mono ?_
  rintro e w14 ⟨sv21, rfl, hm, hf, hb⟩
  have HK1 := hid (HK.out.below hb)
  have HM1 := hid hm
  clear hm hf hb HK
  go_upto_region 12 with (first | (refine wpList_alloc_obj rfl 35 rfl _ oZeroO ?_) | (refine wpList_store_obj rfl 35 _ _ rfl w14.heap.size rfl _ rfl _ _ (block_new w14 _) rfl (by rw [objCells_size]; exact oSizeO) (oc_one _ _) ?_; intro w14' hb1 hc1 hs1; have HB1 := hid hb1; have HC1 := hid hc1; clear hb1 hc1 hs1))
  go_simp
  have hbel : Below w14.heap.size w14 w14' := ((Below.refl _ w14).alloc (Nat.le_refl _) _).trans (HC1.out.below (fun k hk => by rw [List.mem_singleton.1 hk]; exact Nat.le_refl _) (by simp))
  have HK := hid (HK1.out.add (f := true) hbel HB1.out (fun _ => HM1.out.below hbel))
  have HNE := hid (block_lt (HK1.out.obj (p := p) (O := O) (s := s) (f := true) (by simp)))
  have HFB := hid HM1.out.lt
  have HFO := hid (HK1.out.m (p := p) (O := O) (s := s) (by simp)).lt
  have HBB := hid HK1.out.lt
  clear HK1 HM1 HB1 HC1 hbel
  generalize w14.heap.size = p21 at *
  have HDA := hid (aO_dat O t HL.out)
  have HDB := hid (bO_dat O t HL.out)
  refine wp_region_each 34 [.eq (.int .i64 13), .eq (.bool false), .eq (.bool false), .eq (.int .i64 13), .eq (.bool false), .eq (.bool false), .eq (.bool false), .eq (.int .i64 13), .eq (.bool false), .eq (.bool false), .eq (.bool false), .eq (.int .i64 13), .eq (.bool false), .eq (.bool false), .eq (.bool false), .eq (.int .i64 0), .eq (.bool false), .eq (.bool false), .eq (.bool false), .eq (.pointer (some ⟨p11, 7, none⟩)), .eq (.pointer (some ⟨p11, 23, none⟩)), .eq (.agg #[.bool true, .int .i64 t]), .eq (.int .i64 t), .eq (.agg #[.bool true, .int .i64 t]), .eq (.bool false), .eq (.bool false), .eq (.bool false), .eq (.pointer (some ⟨p21, 7, none⟩)), .eq (.pointer (some ⟨p21, 25, none⟩)), .eq (.agg #[.bool true, .int .i64 t]), .eq (.int .i64 t), .eq (.agg #[.bool true, .int .i64 t]), .eq (.bool false), .eq (.bool false)] (by kernel_rfl) (by kernel_rfl) (by kernel_rfl) (by kernel_rfl) ?_ ?_
  · as_aux_lemma =>
      refine each_c (o' := _) ?_ (each_c (o' := _) ?_ (each_c (o' := _) ?_ (each_c (o' := _) ?_ (each_c (o' := _) ?_ (each_c (o' := _) ?_ (each_c (o' := _) ?_ (each_c (o' := _) ?_ (each_c (o' := _) ?_ (each_c (o' := _) ?_ (each_c (o' := _) ?_ (each_c (o' := _) ?_ (each_c (o' := _) ?_ (each_c (o' := _) ?_ (each_c (o' := _) ?_ (each_c (o' := _) ?_ (each_c (o' := _) ?_ (each_c (o' := _) ?_ (each_c (o' := _) ?_ (each_c (o' := _) ?_ (each_c (o' := _) ?_ (each_c (o' := _) ?_ (each_c (o' := _) ?_ (each_c (o' := _) ?_ (each_c (o' := _) ?_ (each_c (o' := _) ?_ (each_c (o' := _) ?_ (each_c (o' := _) ?_ (each_c (o' := _) ?_ (each_c (o' := _) ?_ (each_c (o' := _) ?_ (each_c (o' := _) ?_ (each_c (o' := _) ?_ (each_c (o' := _) ?_ (each_n))))))))))))))))))))))))))))))))))
      -- 0: move t14
      · intro w1 hg Ar seen
        have s14 := seen.slot 14 (v := .int .i64 13) (by kernel_rfl) rfl
        refine does_plain rfl fun K Q' hK => ?_
        go_simp; exact hK _ _ (Grow.refl _) rfl
      -- 1: binOp BinOp.neq 3 t75 13:i64 3
      · intro w1 hg Ar seen
        obtain ⟨v0, e0, h0⟩ := seen.dep 0 (d := 75) (by kernel_rfl) (by kernel_rfl) rfl
        rcases h0 with rfl
        refine does_plain rfl fun K Q' hK => ?_
        go_simp; exact hK _ _ (Grow.refl _) rfl
      -- 2: move t76
      · intro w1 hg Ar seen
        obtain ⟨v1, e1, h1⟩ := seen.dep 1 (d := 76) (by kernel_rfl) (by kernel_rfl) rfl
        rcases h1 with rfl
        refine does_plain rfl fun K Q' hK => ?_
        go_simp; exact hK _ _ (Grow.refl _) rfl
      -- 3: move t16
      · intro w1 hg Ar seen
        obtain ⟨v2, e2, h2⟩ := seen.dep 2 (d := 77) (by kernel_rfl) (by kernel_rfl) rfl
        rcases h2 with rfl
        have s16 := seen.slot 16 (v := .int .i64 13) (by kernel_rfl) rfl
        refine does_on rfl (by kernel_rfl) e2 fun K Q' hK => ?_
        clear e2
        go_simp; exact hK _ _ (Grow.refl _) rfl
      -- 4: binOp BinOp.neq 3 t78 13:i64 3
      · intro w1 hg Ar seen
        obtain ⟨v3, e3, h3⟩ := seen.dep 3 (d := 78) (by kernel_rfl) (by kernel_rfl) rfl
        rcases h3 with rfl
        obtain ⟨v2, e2, h2⟩ := seen.dep 2 (d := 77) (by kernel_rfl) (by kernel_rfl) rfl
        rcases h2 with rfl
        refine does_on rfl (by kernel_rfl) e2 fun K Q' hK => ?_
        clear e2
        go_simp; exact hK _ _ (Grow.refl _) rfl
      -- 5: pick t77 true t79
      · intro w1 hg Ar seen
        obtain ⟨v2, e2, h2⟩ := seen.dep 2 (d := 77) (by kernel_rfl) (by kernel_rfl) rfl
        rcases h2 with rfl
        obtain ⟨v4, e4, h4⟩ := seen.dep 4 (d := 79) (by kernel_rfl) (by kernel_rfl) rfl
        rcases h4 with rfl
        refine does_plain rfl fun K Q' hK => ?_
        go_simp; exact hK _ _ (Grow.refl _) rfl
      -- 6: move t80
      · intro w1 hg Ar seen
        obtain ⟨v5, e5, h5⟩ := seen.dep 5 (d := 80) (by kernel_rfl) (by kernel_rfl) rfl
        rcases h5 with rfl
        refine does_plain rfl fun K Q' hK => ?_
        go_simp; exact hK _ _ (Grow.refl _) rfl
      -- 7: move t18
      · intro w1 hg Ar seen
        obtain ⟨v6, e6, h6⟩ := seen.dep 6 (d := 81) (by kernel_rfl) (by kernel_rfl) rfl
        rcases h6 with rfl
        have s18 := seen.slot 18 (v := .int .i64 13) (by kernel_rfl) rfl
        refine does_on rfl (by kernel_rfl) e6 fun K Q' hK => ?_
        clear e6
        go_simp; exact hK _ _ (Grow.refl _) rfl
      -- 8: binOp BinOp.neq 3 t82 13:i64 3
      · intro w1 hg Ar seen
        obtain ⟨v7, e7, h7⟩ := seen.dep 7 (d := 82) (by kernel_rfl) (by kernel_rfl) rfl
        rcases h7 with rfl
        obtain ⟨v6, e6, h6⟩ := seen.dep 6 (d := 81) (by kernel_rfl) (by kernel_rfl) rfl
        rcases h6 with rfl
        refine does_on rfl (by kernel_rfl) e6 fun K Q' hK => ?_
        clear e6
        go_simp; exact hK _ _ (Grow.refl _) rfl
      -- 9: pick t81 true t83
      · intro w1 hg Ar seen
        obtain ⟨v6, e6, h6⟩ := seen.dep 6 (d := 81) (by kernel_rfl) (by kernel_rfl) rfl
        rcases h6 with rfl
        obtain ⟨v8, e8, h8⟩ := seen.dep 8 (d := 83) (by kernel_rfl) (by kernel_rfl) rfl
        rcases h8 with rfl
        refine does_plain rfl fun K Q' hK => ?_
        go_simp; exact hK _ _ (Grow.refl _) rfl
      -- 10: move t84
      · intro w1 hg Ar seen
        obtain ⟨v9, e9, h9⟩ := seen.dep 9 (d := 84) (by kernel_rfl) (by kernel_rfl) rfl
        rcases h9 with rfl
        refine does_plain rfl fun K Q' hK => ?_
        go_simp; exact hK _ _ (Grow.refl _) rfl
      -- 11: move t20
      · intro w1 hg Ar seen
        obtain ⟨v10, e10, h10⟩ := seen.dep 10 (d := 85) (by kernel_rfl) (by kernel_rfl) rfl
        rcases h10 with rfl
        have s20 := seen.slot 20 (v := .int .i64 13) (by kernel_rfl) rfl
        refine does_on rfl (by kernel_rfl) e10 fun K Q' hK => ?_
        clear e10
        go_simp; exact hK _ _ (Grow.refl _) rfl
      -- 12: binOp BinOp.neq 3 t86 13:i64 3
      · intro w1 hg Ar seen
        obtain ⟨v11, e11, h11⟩ := seen.dep 11 (d := 86) (by kernel_rfl) (by kernel_rfl) rfl
        rcases h11 with rfl
        obtain ⟨v10, e10, h10⟩ := seen.dep 10 (d := 85) (by kernel_rfl) (by kernel_rfl) rfl
        rcases h10 with rfl
        refine does_on rfl (by kernel_rfl) e10 fun K Q' hK => ?_
        clear e10
        go_simp; exact hK _ _ (Grow.refl _) rfl
      -- 13: pick t85 true t87
      · intro w1 hg Ar seen
        obtain ⟨v10, e10, h10⟩ := seen.dep 10 (d := 85) (by kernel_rfl) (by kernel_rfl) rfl
        rcases h10 with rfl
        obtain ⟨v12, e12, h12⟩ := seen.dep 12 (d := 87) (by kernel_rfl) (by kernel_rfl) rfl
        rcases h12 with rfl
        refine does_plain rfl fun K Q' hK => ?_
        go_simp; exact hK _ _ (Grow.refl _) rfl
      -- 14: move t88
      · intro w1 hg Ar seen
        obtain ⟨v13, e13, h13⟩ := seen.dep 13 (d := 88) (by kernel_rfl) (by kernel_rfl) rfl
        rcases h13 with rfl
        refine does_plain rfl fun K Q' hK => ?_
        go_simp; exact hK _ _ (Grow.refl _) rfl
      -- 15: move t22
      · intro w1 hg Ar seen
        obtain ⟨v14, e14, h14⟩ := seen.dep 14 (d := 89) (by kernel_rfl) (by kernel_rfl) rfl
        rcases h14 with rfl
        have s22 := seen.slot 22 (v := .int .i64 0) (by kernel_rfl) rfl
        refine does_on rfl (by kernel_rfl) e14 fun K Q' hK => ?_
        clear e14
        go_simp; exact hK _ _ (Grow.refl _) rfl
      -- 16: binOp BinOp.neq 3 t90 0:i64 3
      · intro w1 hg Ar seen
        obtain ⟨v15, e15, h15⟩ := seen.dep 15 (d := 90) (by kernel_rfl) (by kernel_rfl) rfl
        rcases h15 with rfl
        obtain ⟨v14, e14, h14⟩ := seen.dep 14 (d := 89) (by kernel_rfl) (by kernel_rfl) rfl
        rcases h14 with rfl
        refine does_on rfl (by kernel_rfl) e14 fun K Q' hK => ?_
        clear e14
        go_simp; exact hK _ _ (Grow.refl _) rfl
      -- 17: pick t89 true t91
      · intro w1 hg Ar seen
        obtain ⟨v14, e14, h14⟩ := seen.dep 14 (d := 89) (by kernel_rfl) (by kernel_rfl) rfl
        rcases h14 with rfl
        obtain ⟨v16, e16, h16⟩ := seen.dep 16 (d := 91) (by kernel_rfl) (by kernel_rfl) rfl
        rcases h16 with rfl
        refine does_plain rfl fun K Q' hK => ?_
        go_simp; exact hK _ _ (Grow.refl _) rfl
      -- 18: move t92
      · intro w1 hg Ar seen
        obtain ⟨v17, e17, h17⟩ := seen.dep 17 (d := 92) (by kernel_rfl) (by kernel_rfl) rfl
        rcases h17 with rfl
        refine does_plain rfl fun K Q' hK => ?_
        go_simp; exact hK _ _ (Grow.refl _) rfl
      -- 19: fieldAddr 35 t11 7
      · intro w1 hg Ar seen
        obtain ⟨v18, e18, h18⟩ := seen.dep 18 (d := 93) (by kernel_rfl) (by kernel_rfl) rfl
        rcases h18 with rfl
        have s11 := seen.slot 11 (v := .pointer (some ⟨p11, 0, none⟩)) (by kernel_rfl) rfl
        refine does_on rfl (by kernel_rfl) e18 fun K Q' hK => ?_
        clear e18
        go_simp; exact hK _ _ (Grow.refl _) rfl
      -- 20: indexAddr 28 t94 8:i64
      · intro w1 hg Ar seen
        obtain ⟨v19, e19, h19⟩ := seen.dep 19 (d := 94) (by kernel_rfl) (by kernel_rfl) rfl
        rcases h19 with rfl
        obtain ⟨v18, e18, h18⟩ := seen.dep 18 (d := 93) (by kernel_rfl) (by kernel_rfl) rfl
        rcases h18 with rfl
        refine does_on rfl (by kernel_rfl) e18 fun K Q' hK => ?_
        clear e18
        go_simp; exact hK _ _ (Grow.refl _) rfl
      -- 21: load 27 t95
      · intro w1 hg Ar seen
        obtain ⟨v20, e20, h20⟩ := seen.dep 20 (d := 95) (by kernel_rfl) (by kernel_rfl) rfl
        rcases h20 with rfl
        obtain ⟨v18, e18, h18⟩ := seen.dep 18 (d := 93) (by kernel_rfl) (by kernel_rfl) rfl
        rcases h18 with rfl
        refine does_on rfl (by kernel_rfl) e18 fun K Q' hK => ?_
        clear e18
        have hq := ((hg.block _ (block_lt (HK.out.obj (p := p11) (O := aO O t) (s := sv11) (f := true) (by simp)))).trans (HK.out.obj (p := p11) (O := aO O t) (s := sv11) (f := true) (by simp))); have q0 : w1.cell? ⟨p11, 23, none⟩ = some (.bool ((aO O t).dat 8).1) := cell_of_block (j := 23) hq rfl; have q1 : w1.cell? ⟨p11, 24, none⟩ = some (.int .i64 ((aO O t).dat 8).2) := cell_of_block (j := 24) hq rfl; rw [HDA.out] at q0 q1; clear hq
        go_simp; exact hK _ _ (Grow.refl _) rfl
      -- 22: move t10
      · intro w1 hg Ar seen
        obtain ⟨v18, e18, h18⟩ := seen.dep 18 (d := 93) (by kernel_rfl) (by kernel_rfl) rfl
        rcases h18 with rfl
        have s10 := seen.slot 10 (v := .int .i64 t) (by kernel_rfl) rfl
        refine does_on rfl (by kernel_rfl) e18 fun K Q' hK => ?_
        clear e18
        go_simp; exact hK _ _ (Grow.refl _) rfl
      -- 23: call fn16<locksmithlaw11.date> [t97] T[2]
      · intro w1 hg Ar seen
        obtain ⟨v22, e22, h22⟩ := seen.dep 22 (d := 97) (by kernel_rfl) (by kernel_rfl) rfl
        rcases h22 with rfl
        obtain ⟨v18, e18, h18⟩ := seen.dep 18 (d := 93) (by kernel_rfl) (by kernel_rfl) rfl
        rcases h18 with rfl
        refine does_on rfl (by kernel_rfl) e18 fun K Q' hK => ?_
        clear e18
        go_simp
        refine (lawDate_any t _).mono ?_
        rintro e u ⟨rfl, hb⟩
        exact hK _ _ hb rfl
      -- 24: binOp BinOp.neq 27 t96 t98 27
      · intro w1 hg Ar seen
        obtain ⟨v21, e21, h21⟩ := seen.dep 21 (d := 96) (by kernel_rfl) (by kernel_rfl) rfl
        rcases h21 with rfl
        obtain ⟨v23, e23, h23⟩ := seen.dep 23 (d := 98) (by kernel_rfl) (by kernel_rfl) rfl
        rcases h23 with rfl
        obtain ⟨v18, e18, h18⟩ := seen.dep 18 (d := 93) (by kernel_rfl) (by kernel_rfl) rfl
        rcases h18 with rfl
        refine does_on rfl (by kernel_rfl) e18 fun K Q' hK => ?_
        clear e18
        have he := fun w => eqDateB 9998 true t w
        go_simp; exact hK _ _ (Grow.refl _) rfl
      -- 25: pick t93 true t99
      · intro w1 hg Ar seen
        obtain ⟨v18, e18, h18⟩ := seen.dep 18 (d := 93) (by kernel_rfl) (by kernel_rfl) rfl
        rcases h18 with rfl
        obtain ⟨v24, e24, h24⟩ := seen.dep 24 (d := 99) (by kernel_rfl) (by kernel_rfl) rfl
        rcases h24 with rfl
        refine does_plain rfl fun K Q' hK => ?_
        go_simp; exact hK _ _ (Grow.refl _) rfl
      -- 26: move t100
      · intro w1 hg Ar seen
        obtain ⟨v25, e25, h25⟩ := seen.dep 25 (d := 100) (by kernel_rfl) (by kernel_rfl) rfl
        rcases h25 with rfl
        refine does_plain rfl fun K Q' hK => ?_
        go_simp; exact hK _ _ (Grow.refl _) rfl
      -- 27: fieldAddr 35 t21 7
      · intro w1 hg Ar seen
        obtain ⟨v26, e26, h26⟩ := seen.dep 26 (d := 101) (by kernel_rfl) (by kernel_rfl) rfl
        rcases h26 with rfl
        have s21 := seen.slot 21 (v := .pointer (some ⟨p21, 0, none⟩)) (by kernel_rfl) rfl
        refine does_on rfl (by kernel_rfl) e26 fun K Q' hK => ?_
        clear e26
        go_simp; exact hK _ _ (Grow.refl _) rfl
      -- 28: indexAddr 28 t102 9:i64
      · intro w1 hg Ar seen
        obtain ⟨v27, e27, h27⟩ := seen.dep 27 (d := 102) (by kernel_rfl) (by kernel_rfl) rfl
        rcases h27 with rfl
        obtain ⟨v26, e26, h26⟩ := seen.dep 26 (d := 101) (by kernel_rfl) (by kernel_rfl) rfl
        rcases h26 with rfl
        refine does_on rfl (by kernel_rfl) e26 fun K Q' hK => ?_
        clear e26
        go_simp; exact hK _ _ (Grow.refl _) rfl
      -- 29: load 27 t103
      · intro w1 hg Ar seen
        obtain ⟨v28, e28, h28⟩ := seen.dep 28 (d := 103) (by kernel_rfl) (by kernel_rfl) rfl
        rcases h28 with rfl
        obtain ⟨v26, e26, h26⟩ := seen.dep 26 (d := 101) (by kernel_rfl) (by kernel_rfl) rfl
        rcases h26 with rfl
        refine does_on rfl (by kernel_rfl) e26 fun K Q' hK => ?_
        clear e26
        have hq := ((hg.block _ (block_lt (HK.out.obj (p := p21) (O := bO O t) (s := sv21) (f := true) (by simp)))).trans (HK.out.obj (p := p21) (O := bO O t) (s := sv21) (f := true) (by simp))); have q0 : w1.cell? ⟨p21, 25, none⟩ = some (.bool ((bO O t).dat 9).1) := cell_of_block (j := 25) hq rfl; have q1 : w1.cell? ⟨p21, 26, none⟩ = some (.int .i64 ((bO O t).dat 9).2) := cell_of_block (j := 26) hq rfl; rw [HDB.out] at q0 q1; clear hq
        go_simp; exact hK _ _ (Grow.refl _) rfl
      -- 30: move t10
      · intro w1 hg Ar seen
        obtain ⟨v26, e26, h26⟩ := seen.dep 26 (d := 101) (by kernel_rfl) (by kernel_rfl) rfl
        rcases h26 with rfl
        have s10 := seen.slot 10 (v := .int .i64 t) (by kernel_rfl) rfl
        refine does_on rfl (by kernel_rfl) e26 fun K Q' hK => ?_
        clear e26
        go_simp; exact hK _ _ (Grow.refl _) rfl
      -- 31: call fn16<locksmithlaw11.date> [t105] T[2]
      · intro w1 hg Ar seen
        obtain ⟨v30, e30, h30⟩ := seen.dep 30 (d := 105) (by kernel_rfl) (by kernel_rfl) rfl
        rcases h30 with rfl
        obtain ⟨v26, e26, h26⟩ := seen.dep 26 (d := 101) (by kernel_rfl) (by kernel_rfl) rfl
        rcases h26 with rfl
        refine does_on rfl (by kernel_rfl) e26 fun K Q' hK => ?_
        clear e26
        go_simp
        refine (lawDate_any t _).mono ?_
        rintro e u ⟨rfl, hb⟩
        exact hK _ _ hb rfl
      -- 32: binOp BinOp.neq 27 t104 t106 27
      · intro w1 hg Ar seen
        obtain ⟨v29, e29, h29⟩ := seen.dep 29 (d := 104) (by kernel_rfl) (by kernel_rfl) rfl
        rcases h29 with rfl
        obtain ⟨v31, e31, h31⟩ := seen.dep 31 (d := 106) (by kernel_rfl) (by kernel_rfl) rfl
        rcases h31 with rfl
        obtain ⟨v26, e26, h26⟩ := seen.dep 26 (d := 101) (by kernel_rfl) (by kernel_rfl) rfl
        rcases h26 with rfl
        refine does_on rfl (by kernel_rfl) e26 fun K Q' hK => ?_
        clear e26
        have he := fun w => eqDateB 9998 true t w
        go_simp; exact hK _ _ (Grow.refl _) rfl
      -- 33: pick t101 true t107
      · intro w1 hg Ar seen
        obtain ⟨v26, e26, h26⟩ := seen.dep 26 (d := 101) (by kernel_rfl) (by kernel_rfl) rfl
        rcases h26 with rfl
        obtain ⟨v32, e32, h32⟩ := seen.dep 32 (d := 107) (by kernel_rfl) (by kernel_rfl) rfl
        rcases h32 with rfl
        refine does_plain rfl fun K Q' hK => ?_
        go_simp; exact hK _ _ (Grow.refl _) rfl
  intro w1 hg
  refine upon_w' (js := [0, 1, 2, 3, 4, 5, 6, 7, 8, 9, 10, 11, 12, 13, 14, 15, 16, 17, 18, 19, 20, 21, 22, 23, 24, 25, 26, 27, 28, 29, 30, 31, 32, 33]) (by rfl) ?_
  refine upon_c (x := some 75) (by kernel_rfl) rfl fun v0 h0 => ?_
  rcases h0 with rfl
  refine upon_c (x := some 76) (by kernel_rfl) rfl fun v1 h1 => ?_
  rcases h1 with rfl
  refine upon_c (x := some 77) (by kernel_rfl) rfl fun v2 h2 => ?_
  rcases h2 with rfl
  refine upon_c (x := some 78) (by kernel_rfl) rfl fun v3 h3 => ?_
  rcases h3 with rfl
  refine upon_c (x := some 79) (by kernel_rfl) rfl fun v4 h4 => ?_
  rcases h4 with rfl
  refine upon_c (x := some 80) (by kernel_rfl) rfl fun v5 h5 => ?_
  rcases h5 with rfl
  refine upon_c (x := some 81) (by kernel_rfl) rfl fun v6 h6 => ?_
  rcases h6 with rfl
  refine upon_c (x := some 82) (by kernel_rfl) rfl fun v7 h7 => ?_
  rcases h7 with rfl
  refine upon_c (x := some 83) (by kernel_rfl) rfl fun v8 h8 => ?_
  rcases h8 with rfl
  refine upon_c (x := some 84) (by kernel_rfl) rfl fun v9 h9 => ?_
  rcases h9 with rfl
  refine upon_c (x := some 85) (by kernel_rfl) rfl fun v10 h10 => ?_
  rcases h10 with rfl
  refine upon_c (x := some 86) (by kernel_rfl) rfl fun v11 h11 => ?_
  rcases h11 with rfl
  refine upon_c (x := some 87) (by kernel_rfl) rfl fun v12 h12 => ?_
  rcases h12 with rfl
  refine upon_c (x := some 88) (by kernel_rfl) rfl fun v13 h13 => ?_
  rcases h13 with rfl
  refine upon_c (x := some 89) (by kernel_rfl) rfl fun v14 h14 => ?_
  rcases h14 with rfl
  refine upon_c (x := some 90) (by kernel_rfl) rfl fun v15 h15 => ?_
  rcases h15 with rfl
  refine upon_c (x := some 91) (by kernel_rfl) rfl fun v16 h16 => ?_
  rcases h16 with rfl
  refine upon_c (x := some 92) (by kernel_rfl) rfl fun v17 h17 => ?_
  rcases h17 with rfl
  refine upon_c (x := some 93) (by kernel_rfl) rfl fun v18 h18 => ?_
  rcases h18 with rfl
  refine upon_c (x := some 94) (by kernel_rfl) rfl fun v19 h19 => ?_
  rcases h19 with rfl
  refine upon_c (x := some 95) (by kernel_rfl) rfl fun v20 h20 => ?_
  rcases h20 with rfl
  refine upon_c (x := some 96) (by kernel_rfl) rfl fun v21 h21 => ?_
  rcases h21 with rfl
  refine upon_c (x := some 97) (by kernel_rfl) rfl fun v22 h22 => ?_
  rcases h22 with rfl
  refine upon_c (x := some 98) (by kernel_rfl) rfl fun v23 h23 => ?_
  rcases h23 with rfl
  refine upon_c (x := some 99) (by kernel_rfl) rfl fun v24 h24 => ?_
  rcases h24 with rfl
  refine upon_c (x := some 100) (by kernel_rfl) rfl fun v25 h25 => ?_
  rcases h25 with rfl
  refine upon_c (x := some 101) (by kernel_rfl) rfl fun v26 h26 => ?_
  rcases h26 with rfl
  refine upon_c (x := some 102) (by kernel_rfl) rfl fun v27 h27 => ?_
  rcases h27 with rfl
  refine upon_c (x := some 103) (by kernel_rfl) rfl fun v28 h28 => ?_
  rcases h28 with rfl
  refine upon_c (x := some 104) (by kernel_rfl) rfl fun v29 h29 => ?_
  rcases h29 with rfl
  refine upon_c (x := some 105) (by kernel_rfl) rfl fun v30 h30 => ?_
  rcases h30 with rfl
  refine upon_c (x := some 106) (by kernel_rfl) rfl fun v31 h31 => ?_
  rcases h31 with rfl
  refine upon_c (x := some 107) (by kernel_rfl) rfl fun v32 h32 => ?_
  rcases h32 with rfl
  refine upon_c (x := some 108) (by kernel_rfl) rfl fun v33 h33 => ?_
  rcases h33 with rfl
  refine upon_n ?_
  go_simp
  have HK1 := hid (HK.out.below hg)
  clear HK hg HDA HDB
  have HK := HK1
  clear HK1
  have HR := hid (date_range (HK.out.obj (p := p) (O := O) (s := s) (f := true) (by simp)))
  go_upto_region 15 with (first | (refine wpList_load_mid rfl 28 _ rfl p 7 rfl (dateL O) _ HR.out Tryd.underlying28 rfl dSize10 ?_) | (refine wpList_store_partD rfl 28 _ _ rfl p21 7 (dateL O).toArray rfl rfl (HK.out.obj (p := p21) (O := bO O t) (s := sv21) (f := true) (by simp)) (show 7 + 20 ≤ 37 by decide) dSize10 (dateL_one O) (objCells { bO O t with dates := O.dates } sv21) (setDates _ _ _) ?_; intro wy hb1 hc1; have HBY := hid hb1; have HCY := hid hc1; clear hb1 hc1))
  clear HR
  have HOY := hid ((HCY.out.block _ (block_lt (HK.out.obj (p := p) (O := O) (s := s) (f := true) (by simp))) (by have := HNE.out; simp; omega)).trans (HK.out.obj (p := p) (O := O) (s := s) (f := true) (by simp)))
  have HMO := hid ((HK.out.m (p := p) (O := O) (s := s) (by simp)).keep HCY.out (fun k hk hm => by have := HFO.out k hk; have := List.mem_singleton.1 hm; omega))
  have HMB := hid ((HK.out.m (p := p21) (O := bO O t) (s := sv21) (by simp)).keep HCY.out (fun k hk hm => by have := HFB.out k hk; have := List.mem_singleton.1 hm; omega))
  have o6 := cell_of_block (j := 6) HOY.out (oc6 O s)
  have o5 := cell_of_block (j := 5) HOY.out (oc5 O s)
  have o4 := cell_of_block (j := 4) HOY.out (oc4 O s)
  have o29 := cell_of_block (j := 29) HOY.out (oc29 O s)
  have b6 : wy.cell? ⟨p21, 6, none⟩ = some (.int .i64 O.st) := cell_of_block (j := 6) HBY.out rfl
  have b36 : wy.cell? ⟨p21, 36, none⟩ = some (.bool false) := cell_of_block (j := 36) HBY.out rfl
  have b5 : wy.cell? ⟨p21, 5, none⟩ = some (.slice sv21.mat.a sv21.mat.n sv21.mat.c) := cell_of_block (j := 5) HBY.out rfl
  have b4 : wy.cell? ⟨p21, 4, none⟩ = some (.int .i64 O.mask) := cell_of_block (j := 4) HBY.out rfl
  have b29 : wy.cell? ⟨p21, 29, none⟩ = some (.slice sv21.names.a sv21.names.n sv21.names.c) := cell_of_block (j := 29) HBY.out rfl
  have hS1 := SlR.str (P := Tryd.prog) HMO.out.mat 25 9 5 Tryd.underlying25 Tryd.underlying5 Tryd.underlying9
  have hS2 : (convert 25 9 (.slice sv21.mat.a sv21.mat.n sv21.mat.c)).run Tryd.prog wy = .ok (.string ⟨O.mat.toArray⟩) wy := SlR.str (P := Tryd.prog) HMB.out.mat 25 9 5 Tryd.underlying25 Tryd.underlying5 Tryd.underlying9
  have hnn : sv21.names.n = s.names.n := by
    have h1 := HMB.out.names.rd.len
    have h2 := HMO.out.names.rd.len
    rw [show (bO O t).names = O.names from rfl] at h1
    simp only [List.length_map] at h1 h2
    omega
  rw [hnn] at b29
  clear hnn
  generalize hS : (⟨O.mat.toArray⟩ : ByteArray) = S at *
  clear hS
  go_wp2_with fail
  go_ret
  exact ⟨rfl, HK.out.bel.trans (HCY.out.below (fun k hk => by rw [List.mem_singleton.1 hk]; exact HBB.out) (by have := HK.out.lt; omega))⟩
end Go.Proofs.YtgenbpndphdgnaaDoor
