/- ttlv.copied, ttlv.Kid, pay.copied. -/
import Derived.Test.YteenglgnakenmaaDoorItem
import Derived.Deep.DeepMust
import Derived.Great.BuildSlice
namespace Go.Proofs.YteenglgnakenmaaDoor
open Go.RowKit
set_option linter.unusedVariables false
set_option linter.unusedSimpArgs false
set_option maxRecDepth 100000
set_option maxHeartbeats 1600000
/-- A parameter's box, and the result's room behind it. -/
structure Bx2 (T T' : TypeId) (w W : World) (b : Nat) (cs zs : Array Value) : Prop where
  box : W.heap[b]? = some (.cells cs T (0, 0))
  res : W.heap[b + 1]? = some (.cells zs T' (0, 0))
  bel : Below b w W
section
variable {T T' : TypeId} {w W W' : World} {b : Nat} {cs zs cs' zs' : Array Value}
theorem Bx2.start (hb : w.heap.size = b) : Bx2 T T' w ((w.alloc (.cells cs T)).alloc (.cells zs T')) b cs zs := by
  subst hb
  exact ⟨heap_alloc2_old _ _ _, heap_alloc2_new _ _ _, ((Below.refl _ _).alloc (Nat.le_refl _) _).alloc (by simp) _⟩
theorem Bx2.size (h : Bx2 T T' w W b cs zs) : b + 2 ≤ W.heap.size := block_lt h.res
theorem Bx2.below (h : Bx2 T T' w W b cs zs) (hb : Below W.heap.size W W') : Bx2 T T' w W' b cs zs :=
  ⟨(hb.block _ (block_lt h.box)).trans h.box, (hb.block _ (block_lt h.res)).trans h.res, h.bel.trans (hb.mono (by have := h.size; omega))⟩
theorem Bx2.chg (h : Bx2 T T' w W b cs zs) {G : List Nat} (hc : Chg G W W') (hG : ∀ k ∈ G, b + 2 ≤ k) : Bx2 T T' w W' b cs zs :=
  ⟨(hc.block _ (block_lt h.box) (fun hm => by have := hG _ hm; omega)).trans h.box, (hc.block _ (block_lt h.res) (fun hm => by have := hG _ hm; omega)).trans h.res, h.bel.trans (hc.below (fun k hk => by have := hG k hk; omega) (by have := h.size; omega))⟩
theorem Bx2.set (h : Bx2 T T' w W b cs zs) (j : Nat) (v : Value) : Bx2 T T' w (W.setCell ⟨b, j, none⟩ v) b (cs.setIfInBounds j v) zs :=
  ⟨block_setCell h.box v, by rw [block_setCell_other (by omega)]; exact h.res, h.bel.setCell (by simp) v⟩
theorem Bx2.set2 (h : Bx2 T T' w W b cs zs) (j : Nat) (v : Value) : Bx2 T T' w (W.setCell ⟨b + 1, j, none⟩ v) b cs (zs.setIfInBounds j v) :=
  ⟨by rw [block_setCell_other (by omega)]; exact h.box, block_setCell h.res v, h.bel.setCell (by simp) v⟩
theorem Bx2.done (h : Bx2 T T' w W b cs zs) (hc : Chg [b + 1] W W') : Below b w W' :=
  h.bel.trans (hc.below (fun k hk => by rw [List.mem_singleton.1 hk]; omega) (by have := h.size; omega))
end
def itZ : ItV := {}
theorem iSize : (Tryd.prog.info? 30).map (·.size) = some 5 := by kernel_rfl
theorem iZero : (Tryd.prog.info? 30).map (·.zero) = some (some (.agg itZ.arr)) := by kernel_rfl
theorem iInfo : (Tryd.prog.info? 30).map (fun i => (i.zero, i.size, i.bytes)) = some (some (.agg itZ.arr), 5, 72) := by kernel_rfl
theorem arr_one (v : ItV) : v.arr.all (·.oneCell') = true := by simp [ItV.arr, Value.oneCell']
/-- A copy: the same item in new memory. -/
def Copied (v : ItV) (w : World) (e : Ending) (w' : World) : Prop :=
  ∃ v' : ItV, e = .returned (.agg v'.arr) ∧ v'.it = v.it ∧ v'.ok w' ∧ (∀ k ∈ v'.foot, w.heap.size ≤ k) ∧ Below w.heap.size w w'
theorem copied_any : ∀ (v : ItV) (w : World), v.ok w → Calls Tryd.prog 64 #[.agg v.arr] w (Copied v w) := by
  refine ItV.ind (C := fun v => ∀ (w : World), v.ok w → Calls Tryd.prog 64 #[.agg v.arr] w (Copied v w)) ?_
  intro v ih w hv
  obtain ⟨i, hi, hz0, hz1, hz2⟩ := info_parts iInfo
  have IH := hid ih; have HV := hid hv
  clear ih hv
  generalize hbe : w.heap.size = b
  have HBE := hid hbe; clear hbe
  go_enter Tryd.func64, Tryd.ntmps64
  go_upto_region 1 with (refine wpList_alloc_obj rfl 30 rfl _ iZero ?_)
  go_simp
  have B0 := hid (Bx2.start (T := 30) (T' := 30) (cs := v.arr) (zs := itZ.arr) (w := w) HBE.out)
  rw [HBE.out]
  have HLT := hid HV.out.lt
  rw [HBE.out] at HLT
  have HV0 := hid (HV.out.below (((Below.refl _ w).alloc (Nat.le_refl _) (.cells v.arr 30)).alloc (by simp) (.cells itZ.arr 30)))
  generalize (w.alloc (.cells v.arr 30)).alloc (.cells itZ.arr 30) = W at *
  clear HV
  have hc3 := cell_of_block (j := 3) B0.out.box (ar3 v)
  go_wp2_with fail
  refine (cloneY_any v.ds _ W (ItV.ok_iff.1 HV0.out).1 (B8_one _)).mono ?_
  rintro e w2 ⟨sd, rfl, hsn, hsr, hsf, hb2⟩
  have B2 := hid (B0.out.below hb2)
  have HV2 := hid (HV0.out.below hb2)
  have HSR := hid hsr
  have HSF := hid (fun k hk => Nat.le_trans B0.out.size (hsf k hk))
  clear hc3 hsn hsr hsf hb2 B0 HV0
  have hc3 := cell_of_block (j := 3) B2.out.box (ar3 v)
  have hfz : ∀ j, w2.frozen? ⟨b, j, none⟩ = false := fun j => frozen_of_block B2.out.box
  go_upto_region 2 with (fail)
  have B3 : Hid (Bx2 30 30 w _ b ({ v with ds := sd } : ItV).arr itZ.arr) := B2.out.set 3 (.slice sd.a sd.n sd.c)
  have hcb : Chg [b] w2 (w2.setCell ⟨b, 3, none⟩ (.slice sd.a sd.n sd.c)) := (Chg.refl [b] w2).setCell (.inl (by simp)) _
  have HV3 := hid (ItV.ok.keep hcb HV2.out (fun k hk hm => by have := HLT.out k hk; have := List.mem_singleton.1 hm; omega))
  have HSR3 := hid (HSR.out.keep hcb (fun k hk hm => by have := HSF.out k hk; have := List.mem_singleton.1 hm; omega))
  clear hcb hc3 hfz B2 HV2 HSR
  generalize w2.setCell ⟨b, 3, none⟩ (.slice sd.a sd.n sd.c) = w3 at *
  obtain ⟨z, hz⟩ : ∃ z, z = w3.heap.size := ⟨_, rfl⟩
  have HZ3 : Hid (z ≤ w3.heap.size) := by show _ ≤ _; omega
  have HZB : Hid (b + 2 ≤ z) := by show _ ≤ _; rw [hz]; exact B3.out.size
  have HSDL : Hid (∀ k ∈ sd.blk, k < z) := by show ∀ k ∈ sd.blk, k < z; rw [hz]; exact HSR3.out.lt
  clear hz
  have hc4 := cell_of_block (j := 4) B3.out.box (ar4 _)
  simp only at hc4
  obtain ⟨ka, hka⟩ : ∃ ka, v.ks.a = ka := ⟨_, rfl⟩
  rw [hka] at hc4
  have HKA := hid hka; clear hka
  have hnn : v.ks.n ≤ 1099511627776 := (ItV.ok_iff.1 HV3.out).2.1.sm
  go_wp2_with fail
  clear hc4
  go_loopw [3, 13] (fun u y wr => ∃ (k : Nat) (s : Sl) (l : List ItV), k ≤ v.ks.n ∧ y = .int .i64 k ∧ u = .slice s.a s.n s.c ∧ s.n = k ∧ l.map ItV.it = (v.kids.take k).map ItV.it ∧ z ≤ wr.heap.size ∧ OwnIt 30 wr z (b + 2) s l ∧ Bx2 30 30 w wr b ({ v with ds := sd } : ItV).arr itZ.arr ∧ v.ok wr ∧ SlC wr sd (v.data.map B8)) (fun _ y _ => v.ks.n - (intOf y).toNat)
  case atStart => exact ⟨0, {}, [], Nat.zero_le _, rfl, rfl, rfl, by simp, HZ3.out, OwnIt.nil _ _ _ _, B3.out, HV3.out, HSR3.out⟩
  case round =>
    clear B3 HV3 HSR3
    obtain ⟨k, s, l, hk, rfl, rfl, hs, hl, hzw, ho, hb, hv, hd⟩ := hrel
    have HZW := hid hzw; clear hzw
    have HO := hid ho; have B := hid hb; have HV := hid hv; have HD := hid hd; have HL := hid hl
    have HS := hid hs
    clear hl ho hb hv hd hs
    by_cases hlt : k < v.ks.n
    · obtain ⟨bx, ox, x, hax, hx, hrow⟩ := (ItV.ok_iff.1 HV.out).2.1.row hlt
      rw [HKA.out] at hax
      subst hax
      have hmem : x ∈ v.kids := List.mem_of_getElem? hx
      have HX := hid ((ItV.ok_iff.1 HV.out).2.2 x hmem)
      have HM := hid hmem
      have HT : Hid ((v.kids.take (k + 1)).map ItV.it = (v.kids.take k).map ItV.it ++ [x.it]) := by
        show _ = _
        rw [List.take_add_one, hx]; simp
      have HR := hid hrow
      clear hx hmem hrow
      go_upto_region 6 with (first | (refine wpList_load_mid rfl 30 _ rfl bx (ox + k * 5) rfl x.arr.toList _ HR.out Tryd.underlying30 rfl iSize ?_; simp only [Array.toArray_toList]) | (refine wpList_alloc_obj rfl 30 rfl _ iZero ?_) | (refine wpList_store_obj rfl 30 _ _ rfl wr.heap.size rfl _ rfl _ _ (block_new wr _) rfl iSize (arr_one x) ?_; intro w5 hb5 hc5 hs5; have HB5 := hid hb5; have HC5 := hid hc5; have HS5 := hid hs5; clear hb5 hc5 hs5))
      have hbel : Below wr.heap.size wr w5 := ((Below.refl _ wr).alloc (Nat.le_refl _) _).trans (HC5.out.below (fun k hk => by rw [List.mem_singleton.1 hk]; exact Nat.le_refl _) (by simp))
      have HB := hid (B.out.below hbel); have HO5 := hid (HO.out.below hbel); have HV5 := hid (HV.out.below hbel); have HD5 := hid (HD.out.below hbel); have HX5 := hid (HX.out.below hbel)
      have hszz := hbel.size
      have HZ5 := hid (Nat.le_trans HZW.out hszz)
      clear hszz HZW
      clear hbel HC5 HS5 HR B HO HV HD HX
      generalize wr.heap.size = c at *
      go_wp2_with (refine wpList_load_row rfl 30 _ rfl c rfl _ _ _ _ HB5.out Tryd.underlying30 rfl iSize ?_)
      refine (IH.out x HM.out _ HX5.out).mono ?_
      rintro e w6 ⟨x', rfl, hit, hok, hlow, hb6⟩
      have HIT := hid hit; have HOK := hid hok; have HB6 := hid hb6
      have HLOW := hid (fun k hk => Nat.le_trans HB.out.size (hlow k hk))
      have HNEW := hid hlow
      clear hit hok hb6 hlow
      go_wp2_with (first | (refine wpList_buildSlice rfl 28 30 1 _ rfl x'.arr i _ Tryd.underlying28 hi hz0 (by rw [hz1]; decide) (by rw [hz1]; decide) (by rw [hz1]; kernel_rfl) ?_) | (at_builtin; go_must (refine wpList_append_c rfl _ _ 28 rfl z 30 i _ 5 72 Tryd.underlying28 hi hz0 hz1 hz2 rfl (by decide) (.slice s.a s.n s.c) s.n _ rfl ((HO5.out.below HB6.out).below ((Below.refl _ _).alloc (Nat.le_refl _) (.cells x'.arr 30))).own _ 1 _ x'.cells rfl (RdC.new _ _ _ _ x'.cells (by simp [ItV.cells]) 5 rfl _ rfl) (by have := itm_one [x']; simpa [itmCells] using this) (fun hx => by cases hx) (by unfold maxLen; have := HS.out; omega) (by have := HS.out; omega) (by have := HZ5.out; have := HB6.out.size; simp; omega) ?_); intro a' c' w7 hown hgw hfr; have HO7 := hid hown; have HG7 := hid hgw; have HF7 := hid hfr; clear hown hgw hfr))
      have HSN := hid HS.out
      have ho6 := HO5.out.below HB6.out
      have hch : Chg s.v.ownBlock.toList w6 w7 := ((Chg.refl _ w6).alloc _).grown HG7.out (fun k hk => .inl (by rw [hk]; simp))
      have hlowb : ∀ k ∈ s.v.ownBlock.toList, z ≤ k := fun k hk => by
        rcases Nat.lt_or_ge k z with h' | h'
        · exact absurd hk (ho6.ahead h')
        · exact h'
      have hold : ∀ k, s.v.ownBlock = some k → k < w5.heap.size := fun k hk => (HO5.out.own.lt k hk).2
      have ho7 : OwnIt 30 w7 z (b + 2) ⟨a', s.n + 1, c'⟩ (l ++ [x']) :=
        ho6.app ((Below.refl _ _).alloc (Nat.le_refl _) _) x' HOK.out (fun k hk he => by have := hold k he; have := HNEW.out k hk; omega) HLOW.out (by rw [itm_app]; simpa [itmCells] using HO7.out) HG7.out HF7.out
      have hb7 := (HB.out.below HB6.out).chg hch (fun k hk => by have := hlowb k hk; have := HZB.out; omega)
      have hv7 : v.ok w7 := ItV.ok.keep hch (HV5.out.below HB6.out) (fun k hk hm => by have := hlowb k hm; have := HZB.out; have := HLT.out k hk; omega)
      have hd7 : SlC w7 sd (v.data.map B8) := (HD5.out.below HB6.out).keep hch (fun k hk hm => by have := hlowb k hm; have := HSDL.out k hk; omega)
      have hz7 : z ≤ w7.heap.size := by have := HZ5.out; have := HB6.out.size; have := hch.size; omega
      have hl7 : (l ++ [x']).map ItV.it = (v.kids.take (k + 1)).map ItV.it := by rw [HT.out, ← HL.out, List.map_append, List.map_cons, List.map_nil, HIT.out]
      have H7 := hid (And.intro hz7 (And.intro ho7 (And.intro hb7 (And.intro hv7 hd7))))
      have HL7 := hid hl7
      clear ho6 hch hlowb hold ho7 hb7 hv7 hd7 hz7 hl7
      go_roundw
      case rel => 
        have hs := HSN.out
        first
          | exact ⟨k + 1, ⟨a', s.n + 1, c'⟩, l ++ [x'], by omega, by go_num, rfl, by simp; omega, HL7.out, H7.out⟩
          | ((repeat apply Exists.intro); exact ⟨⟨k + 1, ⟨a', s.n + 1, c'⟩, l ++ [x'], by omega, by go_num, rfl, by simp; omega, HL7.out, H7.out⟩, rfl⟩)
      case measure => simp [intOf]; omega
    · obtain rfl : k = v.ks.n := by omega
      have hc4 := cell_of_block (j := 4) B.out.box (ar4 _)
      have hfz : ∀ j, wr.frozen? ⟨b, j, none⟩ = false := fun j => frozen_of_block B.out.box
      go_upto_region 9 with (fail)
      clear hc4 hfz
      have B9 : Hid (Bx2 30 30 w _ b ({ v with ds := sd, ks := s, kids := l } : ItV).arr itZ.arr) := B.out.set 4 (.slice s.a s.n s.c)
      have hcb : Chg [b] wr (wr.setCell ⟨b, 4, none⟩ (.slice s.a s.n s.c)) := (Chg.refl [b] wr).setCell (.inl (by simp)) _
      have HOK : Hid (ItV.ok wr { v with ds := sd, ks := s, kids := l }) := ItV.ok_iff.2 ⟨HD.out, HO.out.sl (by rw [HS.out]; exact hnn), HO.out.ok⟩
      have HF : Hid (∀ k ∈ ItV.foot { v with ds := sd, ks := s, kids := l }, b + 2 ≤ k) := by
        intro k hk
        rcases ItV.mem_foot.1 hk with h' | h' | ⟨x, hx, h'⟩
        · exact HSF.out k h'
        · have := HO.out.blk k h'; have := HZB.out; omega
        · exact HO.out.low x hx k h'
      have HIT : Hid (ItV.it { v with ds := sd, ks := s, kids := l } = v.it) := by
        show _ = _
        have hlk := (ItV.ok_iff.1 HV.out).2.1.klen
        rw [ItV.it_eq, ItV.it_eq]
        simp only [HL.out]
        rw [List.take_of_length_le (by omega)]
      have HOK9 := hid (ItV.ok.keep hcb HOK.out (fun k hk hm => by have := HF.out k hk; have := List.mem_singleton.1 hm; omega))
      clear hcb HOK B HV HO HD HL HS
      generalize wr.setCell ⟨b, 4, none⟩ (.slice s.a s.n s.c) = w9 at *
      go_wp2_with (first | (refine wpList_load_row rfl 30 _ rfl b rfl _ _ _ _ B9.out.box Tryd.underlying30 rfl iSize ?_) | (refine wpList_store_obj rfl 30 _ _ rfl (b + 1) rfl _ rfl _ _ B9.out.res rfl iSize (arr_one _) ?_; intro w10 hb10 hc10 hs10; have HB10 := hid hb10; have HC10 := hid hc10; clear hb10 hc10 hs10))
      refine bodyPost_ret (results_cell_row rfl _ _ (b + 1) _ _ _ _ rfl HB10.out Tryd.underlying30 rfl iSize) rfl ?_
      refine ⟨_, rfl, HIT.out, ItV.ok.keep HC10.out HOK9.out (fun k hk hm => by have := HF.out k hk; have := List.mem_singleton.1 hm; omega), fun k hk => by have := HF.out k hk; rw [HBE.out]; omega, ?_⟩
      rw [HBE.out]
      exact B9.out.done HC10.out
end Go.Proofs.YteenglgnakenmaaDoor
