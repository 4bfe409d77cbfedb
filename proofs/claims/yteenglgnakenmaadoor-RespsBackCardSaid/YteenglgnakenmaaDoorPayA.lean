/- Several texts in one. -/
import Derived.Test.YteenglgnakenmaaDoorItem4
import Derived.Lib.ConvBytes
namespace Go.Proofs.YteenglgnakenmaaDoor
open Go.RowKit
set_option linter.unusedVariables false
set_option linter.unusedSimpArgs false
set_option maxRecDepth 100000
set_option maxHeartbeats 1600000
theorem bytesW_below (w : World) (e : TypeId) (s : ByteArray) : Below w.heap.size w (Lib.bytesWorld w e s) :=
  ⟨rfl, rfl, rfl, by rw [Lib.bytesWorld_size]; omega, fun k hk => Lib.bytesWorld_at_old w e s k hk⟩
theorem bytesW_slC (w : World) (e : TypeId) (s : ByteArray) (h : s.size ≤ 140737488355328) (c : Nat)
  (hc : s.size ≤ c) : SlC (Lib.bytesWorld w e s) ⟨some ⟨w.heap.size, 0, none⟩, s.size, c⟩ (s.data.toList.map B8) := by
  refine ⟨⟨by simp, fun j hj => ⟨w.heap.size, 0, rfl, fun i u hu => ?_⟩⟩, by simp, h, fun k hk => ?_, hc⟩
  · rw [List.getElem?_map] at hu
    cases hq : s.data.toList[i]? with
    | none => rw [hq] at hu; cases hu
    | some y =>
      rw [hq] at hu
      simp only [Option.map_some, Option.some.injEq] at hu
      subst hu
      have hi : i < s.size := by have := (List.getElem?_eq_some_iff.1 hq).1; simpa using this
      rw [Nat.zero_add, Lib.bytesWorld_cell w e s i hi, List.getD_eq_getElem?_getD, hq]
      rfl
  · simp [Sl.blk] at hk; rw [hk, Lib.bytesWorld_size]; omega
/-- A made item: what is told of it. -/
def Made (it : Itm) (w : World) (e : Ending) (w' : World) : Prop :=
  ∃ v : ItV, e = .returned (.agg v.arr) ∧ v.it = it ∧ v.ok w' ∧ (∀ k ∈ v.foot, w.heap.size ≤ k) ∧ Below w.heap.size w w'
theorem it_flat (t y i : Int) (d : List UInt8) (ds : Sl) : ItV.it { tag := t, typ := y, int := i, data := d, ds := ds } = { tag := t, typ := y, int := i, data := d } := by rw [ItV.it_eq]; rfl
theorem ok_flat {w : World} {t y i : Int} {d : List UInt8} {ds : Sl} (h : SlC w ds (d.map B8)) : ItV.ok w { tag := t, typ := y, int := i, data := d, ds := ds } := ItV.ok_iff.2 ⟨h, SlR.nil w 5, by simp⟩
theorem foot_flat {t y i : Int} {d : List UInt8} {ds : Sl} {k : Nat} (h : k ∈ ItV.foot { tag := t, typ := y, int := i, data := d, ds := ds }) : k ∈ ds.blk := by
  rcases ItV.mem_foot.1 h with h' | h' | ⟨x, hx, _⟩
  · exact h'
  · simp [Sl.blk] at h'
  · simp at hx
theorem payNumber_any (t k n : Int) (w : World) : Calls Tryd.prog 15 #[.int .i64 t, .int .i64 k, .int .i64 n] w fun e w' => e = .returned (.agg (ItV.arr { tag := t, typ := k, int := n })) ∧ Below w.heap.size w w' := by
  generalize hbe : w.heap.size = b
  have HBE := hid hbe; clear hbe
  go_enter Tryd.func15, Tryd.ntmps15
  go_upto_region 1 with (refine wpList_alloc_obj rfl 30 rfl _ iZero ?_)
  go_simp
  have hbw : Below w.heap.size w (w.alloc (.cells itZ.arr 30)) := (Below.refl _ _).alloc (Nat.le_refl _) _
  have hb0 := block_new w (.cells itZ.arr 30)
  have hsz : (w.alloc (.cells itZ.arr 30)).heap.size = w.heap.size + 1 := by simp
  rw [HBE.out] at hbw hb0 hsz ⊢
  have HBW := hid hbw; have HB0 := hid hb0; have HSZ := hid hsz
  clear hbw hb0 hsz
  generalize w.alloc (.cells itZ.arr 30) = W at *
  have HB := HB0
  go_wp2_with (refine wpList_store_obj rfl 30 _ _ rfl b rfl (ItV.arr { tag := t, typ := k, int := n }) rfl _ _ HB.out rfl iSize (arr_one _) ?_; intro w10 hb10 hc10 hs10; have HB10 := hid hb10; have HC10 := hid hc10; clear hb10 hc10 hs10)
  refine bodyPost_ret (results_cell_row rfl _ _ b _ _ _ _ rfl HB10.out Tryd.underlying30 rfl iSize) rfl ?_
  exact ⟨rfl, HBW.out.trans (HC10.out.below (fun k hk => by rw [List.mem_singleton.1 hk]; exact Nat.le_refl _) (by rw [HSZ.out]; omega))⟩
theorem payText_any (t : Int) (s : ByteArray) (w : World) (hs : s.size ≤ 140737488355328) : Calls Tryd.prog 21 #[.int .i64 t, .string s] w (Made { tag := t, typ := 7, data := s.data.toList } w) := by
  have kc := fun w => Lib.run_convert_string_bytes (P := Tryd.prog) w 9 27 5 s Tryd.underlying9 Tryd.underlying27 Tryd.underlying5
  generalize hbe : w.heap.size = b
  have HBE := hid hbe; clear hbe
  go_enter Tryd.func21, Tryd.ntmps21
  go_upto_region 1 with (refine wpList_alloc_obj rfl 30 rfl _ iZero ?_)
  go_simp
  have hbw : Below w.heap.size w (w.alloc (.cells itZ.arr 30)) := (Below.refl _ _).alloc (Nat.le_refl _) _
  have hb0 := block_new w (.cells itZ.arr 30)
  have hsz : (w.alloc (.cells itZ.arr 30)).heap.size = w.heap.size + 1 := by simp
  rw [HBE.out] at hbw hb0 hsz ⊢
  have HBW := hid hbw; have HB0 := hid hb0; have HSZ := hid hsz
  clear hbw hb0 hsz
  generalize w.alloc (.cells itZ.arr 30) = W at *
  have hb1 := bytesW_below W 5 s
  have HB := hid ((hb1.block _ (by rw [HSZ.out]; omega)).trans HB0.out)
  have HS := hid (bytesW_slC W 5 s hs (grownCap W s.size 0 5)
  (grownCap_ge _ _ _ _))
  have HB1 := hid (HBW.out.trans (hb1.mono (by rw [HSZ.out]; omega)))
  have HZ1 := hid hb1.size
  clear hb1
  have HKC := hid (kc W); clear kc
  have kc := HKC.out
  generalize grownCap W s.size 0 5 = cp at *
  generalize Lib.bytesWorld W 5 s = W2 at *
  obtain ⟨z, hz⟩ : ∃ z, W.heap.size = z := ⟨_, rfl⟩
  have HZ := hid hz
  rw [hz] at kc HS
  clear hz
  go_wp2_with (refine wpList_store_obj rfl 30 _ _ rfl b rfl (ItV.arr { tag := t, typ := 7, data := s.data.toList, ds := ⟨some ⟨z, 0, none⟩, s.size, cp⟩ }) rfl _ _ HB.out rfl iSize (arr_one _) ?_; intro w10 hb10 hc10 hs10; have HB10 := hid hb10; have HC10 := hid hc10; clear hb10 hc10 hs10)
  refine bodyPost_ret (results_cell_row rfl _ _ b _ _ _ _ rfl HB10.out Tryd.underlying30 rfl iSize) rfl ?_
  have hzb : b + 1 = z := by rw [← HZ.out, HSZ.out]
  refine ⟨_, rfl, it_flat _ _ _ _ _, ItV.ok.keep HC10.out (ok_flat HS.out) (fun k hk hm => ?_), fun k hk => ?_, ?_⟩
  · have := foot_flat hk; simp [Sl.blk] at this; have := List.mem_singleton.1 hm; omega
  · have := foot_flat hk; simp [Sl.blk] at this; rw [HBE.out]; omega
  · rw [HBE.out]; exact HB1.out.trans (HC10.out.below (fun k hk => by rw [List.mem_singleton.1 hk]; exact Nat.le_refl _) (by have := HZ1.out; rw [HSZ.out] at this; omega))
/-- What Bytes makes: its data lie in a row of its own. -/
def MadeB (t : Int) (l : List UInt8) (w : World) (e : Ending) (w' : World) : Prop :=
  ∃ s : Sl, e = .returned (.agg (ItV.arr { tag := t, typ := 8, data := l, ds := s })) ∧ s.n = l.length ∧ w'.ownsRow w.heap.size 5 1 (.slice s.a s.n s.c) s.n (l.map B8) ∧ Below w.heap.size w w'
theorem payBytes_any (t : Int) (s : Sl) (l : List UInt8) (w : World) (h : SlC w s (l.map B8)) : Calls Tryd.prog 20 #[.int .i64 t, .slice s.a s.n s.c] w (MadeB t l w) := by
  obtain ⟨i, hi, hz0, hz1, hz2⟩ := info_parts oInfoB
  have HS := hid h
  have hsm := h.sm
  clear h
  generalize hbe : w.heap.size = b
  have HBE := hid hbe; clear hbe
  go_enter Tryd.func20, Tryd.ntmps20
  go_upto_region 1 with (refine wpList_alloc_obj rfl 30 rfl _ iZero ?_)
  go_simp
  have hbw : Below w.heap.size w (w.alloc (.cells itZ.arr 30)) := (Below.refl _ _).alloc (Nat.le_refl _) _
  have hb0 := block_new w (.cells itZ.arr 30)
  have hsz : (w.alloc (.cells itZ.arr 30)).heap.size = w.heap.size + 1 := by simp
  have HS1 := hid (HS.out.below hbw)
  rw [HBE.out] at hbw hb0 hsz ⊢
  have HBW := hid hbw; have HB0 := hid hb0; have HSZ := hid hsz
  clear hbw hb0 hsz
  generalize w.alloc (.cells itZ.arr 30) = W at *
  clear HS
  go_wp2_with (first | (at_builtin; go_must (refine wpList_append_bytes rfl _ _ 27 rfl (b + 1) 5 i _ Tryd.underlying27 hi hz0 hz1 hz2 rfl _ 0 [] rfl (World.ownsRow_made W #[] 0 (by rw [HSZ.out]; exact Nat.le_refl _) (by unfold maxLen; omega) rfl) _ _ _ l rfl (HS1.out.below ((Below.refl _ _).alloc (Nat.le_refl _) _)).rd.rdB HS1.out.no (by omega) (by have := HSZ.out; simp; omega) ?_); go_loud (intro a' c' w2 hown hg; have HO := hid hown; have HG := hid hg; clear hown hg; have ho := HO.out; have hch : Chg [] W w2 := ((Chg.refl [] W).alloc _).grown HG.out (fun k hk => .inr (by have hk2 : some W.heap.size = some k := hk; cases hk2; exact Nat.le_refl _)); have hbw2 : Below W.heap.size W w2 := hch.below (by simp) (Nat.le_refl _); have HB := hid ((hbw2.block _ (by rw [HSZ.out]; omega)).trans HB0.out); have HB2 := hid (HBW.out.trans (hbw2.mono (by rw [HSZ.out]; omega))); have HZ2 := hid hbw2.size; rw [List.nil_append, Nat.zero_add] at ho; have HO2 := hid ho; clear ho hch hbw2 HO HG)) | (refine wpList_store_obj rfl 30 _ _ rfl b rfl (ItV.arr { tag := t, typ := 8, data := l, ds := ⟨a', s.n, c'⟩ }) rfl _ _ HB.out rfl iSize (arr_one _) ?_; intro w10 hb10 hc10 hs10; have HB10 := hid hb10; have HC10 := hid hc10; clear hb10 hc10 hs10))
  refine bodyPost_ret (results_cell_row rfl _ _ b _ _ _ _ rfl HB10.out Tryd.underlying30 rfl iSize) rfl ?_
  have hc := HC10.out
  refine ⟨⟨a', s.n, c'⟩, rfl, ?_, ?_, ?_⟩
  · have := HS1.out.rd.len; simp at this; exact this.symm
  · rw [HBE.out]
    refine ownsRow_base (hc.owns HO2.out (fun k hk hm => ?_)) (fun k hk => ?_)
    · have := (HO2.out.lt k hk).1; have := List.mem_singleton.1 hm; omega
    · have := (HO2.out.lt k hk).1; omega
  · rw [HBE.out]; exact HB2.out.trans (hc.below (fun k hk => by rw [List.mem_singleton.1 hk]; exact Nat.le_refl _) (by have := HZ2.out; rw [HSZ.out] at this; omega))
end Go.Proofs.YteenglgnakenmaaDoor
namespace Go.Proofs.YteenglgnakenmaaDoor
open Go.RowKit
set_option linter.unusedVariables false
set_option linter.unusedSimpArgs false
set_option maxRecDepth 100000
set_option maxHeartbeats 1600000
/-- A slice of one item. -/
theorem wp_build_item {P : Program} {o : Oper} {a : Act} {w : World} {K : Act → World → Prop} {Q : Exit → Act → World → Prop} (T E : TypeId) (x : Operand) (ho : o.op = .buildSlice T 1 #[(0, x)]) (v : ItV) (hx : a.eval x = .agg v.arr)
    (i : TypeInfo) (hu : P.underlying T = some (.slice E)) (hi : P.info? E = some i) (hz : i.zero = some (.agg itZ.arr)) (hs : i.size = 5)
    (h : K (a.put o.dst (.slice (some ⟨w.heap.size, 0, none⟩) 1 1)) (w.alloc (.cells v.arr E))) : o.wp P a w K Q := by
  refine wp_buildSlice T E 1 _ ho v.arr i _ hu hi hz (by rw [hs]; decide) (by rw [hs]; decide) ?_ h
  rw [hs, show ((#[(0, x)] : Array (Nat × Operand)).map fun (i, x) => (i, a.eval x)).toList = [(0, Value.agg v.arr)] from by simp [hx]]
  kernel_rfl
theorem wpList_build_item {P : Program} {ops : Array Oper} {rest : List Oper} {o : Oper} {a : Act} {w : World} {Q : Exit → Act → World → Prop} (hg : o.guard = none) (T E : TypeId) (x : Operand) (ho : o.op = .buildSlice T 1 #[(0, x)]) (v : ItV) (hx : a.eval x = .agg v.arr)
    (i : TypeInfo) (hu : P.underlying T = some (.slice E)) (hi : P.info? E = some i) (hz : i.zero = some (.agg itZ.arr)) (hs : i.size = 5)
    (h : wpList P ops Q rest (a.put o.dst (.slice (some ⟨w.heap.size, 0, none⟩) 1 1)) (w.alloc (.cells v.arr E))) : wpList P ops Q (o :: rest) a w :=
  wpList_plain hg fun _ hK => wp_build_item T E x ho v hx i hu hi hz hs (hK _ _ h)
/-- In a region: a copy in new memory; a slice of one. -/
def stCopy (x : ItV) (B : Nat) : St Grow := ⟨fun v w => ∃ x' : ItV, v = .agg x'.arr ∧ x'.it = x.it ∧ x'.ok w ∧ ∀ k ∈ x'.foot, B ≤ k, fun v w w' h hg => let ⟨x', e, h1, h2, h3⟩ := h; ⟨x', e, h1, h2.below hg, h3⟩⟩
def stOne (x : ItV) (T : TypeId) (B : Nat) : St Grow := ⟨fun v w => ∃ (x' : ItV) (p : Nat), v = .slice (some ⟨p, 0, none⟩) 1 1 ∧ w.heap[p]? = some (.cells x'.arr T (0, 0)) ∧ x'.it = x.it ∧ x'.ok w ∧ (∀ k ∈ x'.foot, B ≤ k), fun v w w' h hg => let ⟨x', p, e, h0, h1, h2, h3⟩ := h; ⟨x', p, e, (hg.block _ (block_lt h0)).trans h0, h1, h2.below hg, h3⟩⟩
theorem RdC.of_block {w : World} {p : Nat} {C : Array Value} {T : TypeId} {fr : Nat × Nat} (h : w.heap[p]? = some (.cells C T fr)) : RdC w (some ⟨p, 0, none⟩) C.size C.toList :=
  ⟨by simp, fun j hj => ⟨p, 0, rfl, fun i u hu => by rw [Nat.zero_add]; exact cell_of_block h (by simpa using hu)⟩⟩
theorem payOf_any (tag : Int) (s : Sl) (l : List ItV) (w : World) (hs : SlR w s 5 (itmCells l)) (hl : ∀ x ∈ l, x.ok w) : Calls Tryd.prog 17 #[.int .i64 tag, .slice s.a s.n s.c] w (Made { tag := tag, typ := 1, kids := l.map ItV.it } w) := by
  obtain ⟨i, hi, hz0, hz1, hz2⟩ := info_parts iInfo
  have hsn := hs.sm
  have HV := hid (show ItV.ok w { ks := s, kids := l } from ItV.ok_iff.2 ⟨SlC.nil w, hs, hl⟩)
  have HKL := hid hs.klen
  clear hs hl
  generalize hbe : w.heap.size = b
  have HBE := hid hbe; clear hbe
  go_enter Tryd.func17, Tryd.ntmps17
  go_upto_region 1 with (refine wpList_alloc_obj rfl 30 rfl _ iZero ?_)
  go_simp
  have hbw : Below w.heap.size w (w.alloc (.cells itZ.arr 30)) := (Below.refl _ _).alloc (Nat.le_refl _) _
  have hb0 := block_new w (.cells itZ.arr 30)
  have hsz : (w.alloc (.cells itZ.arr 30)).heap.size = w.heap.size + 1 := by simp
  have HV0 := hid (HV.out.below hbw)
  have HLT := hid HV.out.lt
  rw [HBE.out] at hbw hb0 hsz HLT ⊢
  have HBW := hid hbw; have HB0 := hid hb0; have HSZ := hid hsz
  clear hbw hb0 hsz HV
  generalize w.alloc (.cells itZ.arr 30) = W at *
  go_upto_region 2 with (first | (refine wpList_alloc_obj rfl 30 rfl _ iZero ?_) | (refine wpList_store_obj rfl 30 _ _ rfl W.heap.size rfl (ItV.arr { tag := tag, typ := 1 }) rfl _ _ (block_new W _) rfl iSize (arr_one _) ?_; intro w3 hb3 hc3 hs3; have HB3 := hid hb3; have HC3 := hid hc3; have HS3 := hid hs3; clear hb3 hc3 hs3))
  have hbel : Below W.heap.size W w3 := ((Below.refl _ W).alloc (Nat.le_refl _) _).trans (HC3.out.below (fun k hk => by rw [List.mem_singleton.1 hk]; exact Nat.le_refl _) (by simp))
  have B3 : Hid (Bx2 30 30 w w3 b itZ.arr (ItV.arr { tag := tag, typ := 1 })) := ⟨(hbel.block _ (by rw [HSZ.out]; omega)).trans HB0.out, by rw [← HSZ.out]; exact HB3.out, HBW.out.trans (hbel.mono (by rw [HSZ.out]; omega))⟩
  have HV3 := hid (HV0.out.below hbel)
  clear hbel HB3 HC3 HS3 HV0 HB0 HBW
  rw [HSZ.out]
  clear HSZ
  go_wp2_with fail
  go_loopw [12] (fun y wr => ∃ (k : Nat) (so : Sl) (lo : List ItV), k ≤ s.n ∧ y = .int .i64 k ∧ so.n = k ∧ lo.map ItV.it = (l.take k).map ItV.it ∧ OwnIt 30 wr (b + 2) (b + 2) so lo ∧ Bx2 30 30 w wr b itZ.arr (ItV.arr { tag := tag, typ := 1, ks := so, kids := lo }) ∧ ItV.ok wr { ks := s, kids := l }) (fun y _ => s.n - (intOf y).toNat)
  case atStart => exact ⟨0, {}, [], Nat.zero_le _, rfl, rfl, by simp, OwnIt.nil _ _ _ _, B3.out, HV3.out⟩
  case round =>
    clear B3 HV3
    obtain ⟨k, so, lo, hk, rfl, hs, hl, ho, hb, hv⟩ := hrel
    have HO := hid ho; have B := hid hb; have HV := hid hv; have HL := hid hl; have HS := hid hs
    clear hl ho hb hv hs
    by_cases hlt : k < s.n
    · obtain ⟨bx, ox, x, hax, hx, hrow⟩ := (ItV.ok_iff.1 HV.out).2.1.row hlt
      obtain ⟨sa, sn, sc⟩ := s
      simp only at hax
      subst hax
      simp only at hx hlt hk hsn HKL HLT HV
      have hmem : x ∈ l := List.mem_of_getElem? hx
      have HX := hid ((ItV.ok_iff.1 HV.out).2.2 x hmem)
      have HT : Hid ((l.take (k + 1)).map ItV.it = (l.take k).map ItV.it ++ [x.it]) := by
        show _ = _
        rw [List.take_add_one, hx]; simp
      have HR := hid hrow
      clear hx hmem hrow
      go_upto_region 5 with (first | (refine wpList_load_mid rfl 30 _ rfl bx (ox + k * 5) rfl x.arr.toList _ HR.out Tryd.underlying30 rfl iSize ?_; simp only [Array.toArray_toList]) | (refine wpList_alloc_obj rfl 30 rfl _ iZero ?_) | (refine wpList_store_obj rfl 30 _ _ rfl wr.heap.size rfl _ rfl _ _ (block_new wr _) rfl iSize (arr_one x) ?_; intro w5 hb5 hc5 hs5; have HB5 := hid hb5; have HC5 := hid hc5; have HS5 := hid hs5; clear hb5 hc5 hs5))
      have hbel : Below wr.heap.size wr w5 := ((Below.refl _ wr).alloc (Nat.le_refl _) _).trans (HC5.out.below (fun k hk => by rw [List.mem_singleton.1 hk]; exact Nat.le_refl _) (by simp))
      have HB := hid (B.out.below hbel); have HO5 := hid (HO.out.below hbel); have HV5 := hid (HV.out.below hbel); have HX5 := hid (HX.out.below hbel)
      clear hbel HC5 HS5 HR B HO HV HX
      generalize wr.heap.size = c at *
      have HBZ := hid HB.out.size
      obtain ⟨z, hz⟩ : ∃ z, w5.heap.size = z := ⟨_, rfl⟩
      have HZ := hid hz; clear hz
      refine wp_region_each 5 [.eq (.pointer (some ⟨b + 1, 4, none⟩)), .eq (.slice so.a so.n so.c), .eq (.agg x.arr), stCopy x z, stOne x 30 z] (by kernel_rfl) (by kernel_rfl) (by kernel_rfl) (by kernel_rfl) ?_ ?_
      · as_aux_lemma =>
          refine each_5 ?_ ?_ ?_ ?_ ?_ (each_n)
          · intro w1 hg Ar seen
            have s5 := seen.sl 5 (.pointer (some ⟨b + 1, 0, none⟩))
            refine does_plain rfl fun K Q' hK => ?_
            go_simp; exact hK _ _ (Grow.refl _) rfl
          · intro w1 hg Ar seen
            have e0 := seen.de 0 16
            refine does_plain rfl fun K Q' hK => ?_
            have hc := cell_of_block (j := 4) ((hg.block _ (block_lt HB.out.res)).trans HB.out.res) (ar4 _)
            go_simp; exact hK _ _ (Grow.refl _) rfl
          · intro w1 hg Ar seen
            have s7 := seen.sl 7 (.pointer (some ⟨c, 0, none⟩))
            refine does_plain rfl fun K Q' hK => ?_
            refine wp_load_row 30 _ rfl c (by simp [Act.eval, s7]) _ _ _ _ ((hg.block _ (block_lt HB5.out)).trans HB5.out) Tryd.underlying30 rfl iSize ?_
            exact hK _ _ (Grow.refl _) rfl
          · intro w1 hg Ar seen
            obtain ⟨v2, e2, h2⟩ := seen.dp 2 18
            rcases h2 with rfl
            refine does_plain rfl fun K Q' hK => ?_
            go_simp
            refine (payCopied_any x _ (HX5.out.below hg)).mono ?_
            rintro e u ⟨x', rfl, h1, h2, h3, hb⟩
            exact hK _ _ hb ⟨x', rfl, h1, h2, fun k hk => by have := h3 k hk; have := hg.size; have := HZ.out; omega⟩
          · intro w1 hg Ar seen
            obtain ⟨v3, e3, h3⟩ := seen.dp 3 19
            refine does_plain rfl fun K Q' hK => ?_
            obtain ⟨x', rfl, h1, h2, h4⟩ := h3
            refine wp_build_item _ 30 _ rfl x' (by simp [Act.eval, e3]) i Tryd.underlying28 hi hz0 hz1 ?_
            exact hK _ _ ((Below.refl _ _).alloc (Nat.le_refl _) _) ⟨x', _, rfl, block_new _ _, h1, h2.below ((Below.refl _ _).alloc (Nat.le_refl _) _), h4⟩
      intro w1 hg
      refine upon_w' (js := [0, 1, 2, 3, 4]) (by rfl) ?_
      refine upon_e (some 16) (upon_e (some 17) (upon_e (some 18) (upon_v (some 19) fun v3 h3 => upon_v (some 20) fun v4 h4 => upon_n ?_)))
      go_simp
      clear h3
      obtain ⟨x', p, rfl, hp, hit, hok, hlow⟩ := h4
      have HP := hid hp; have HIT := hid hit; have HOK := hid hok; have HLOW := hid hlow
      have HO1 := hid (HO5.out.below hg)
      have HB1 := hid (HB.out.below hg)
      have HV1 := hid (HV5.out.below hg)
      have hold : ∀ k, so.v.ownBlock = some k → k < z := fun k hk => by have := (HO5.out.own.lt k hk).2; have := HZ.out; omega
      have HOLD := hid hold
      have HGZ : Hid (z ≤ w1.heap.size) := by show _ ≤ _; rw [← HZ.out]; exact hg.size
      clear hp hit hok hlow hold hg HO5 HB HV5 HX5
      go_simp
      go_wp2_with (at_builtin; go_must (refine wpList_append_c rfl _ _ 28 rfl (b + 2) 30 i _ 5 72 Tryd.underlying28 hi hz0 hz1 hz2 rfl (by decide) (.slice so.a so.n so.c) so.n _ rfl HO1.out.own _ 1 _ x'.arr.toList rfl (RdC.of_block HP.out) (by have := itm_one [x']; simpa [itmCells, ItV.cells] using this) (fun hx => by cases hx) (by unfold maxLen; have := HS.out; omega) (by have := HS.out; omega) (by have := HB1.out.size; omega) ?_); go_loud (intro a' c' w7 hown hgw hfr; have HO7 := hid hown; have HG7 := hid hgw; have HF7 := hid hfr; have HCH : Hid (Chg so.v.ownBlock.toList w1 w7) := (Chg.refl _ w1).grown HG7.out (fun k hk => .inl (by rw [hk]; simp)); have HB7 := hid (HB1.out.chg HCH.out (fun k hk => by rcases Nat.lt_or_ge k (b + 2) with h' | h'; exact absurd hk (HO1.out.ahead h'); exact h')); have hc4 := cell_of_block (j := 4) HB7.out.res (ar4 _); have hfz : ∀ j, w7.frozen? ⟨b + 1, j, none⟩ = false := (fun j => frozen_of_block HB7.out.res); clear hown hgw hfr))
      have HSN := hid HS.out
      have ho7 : OwnIt 30 w7 (b + 2) (b + 2) ⟨a', so.n + 1, c'⟩ (lo ++ [x']) :=
        HO1.out.app (Below.refl _ _) x' HOK.out (fun k hk he => by have := HOLD.out k he; have := HLOW.out k hk; omega) (fun k hk => by have := HLOW.out k hk; have := HZ.out; have := HBZ.out; omega) (by rw [itm_app]; simpa [itmCells, ItV.cells] using HO7.out) HG7.out HF7.out
      have hset : Chg [b + 1] w7 (w7.setCell ⟨b + 1, 4, none⟩ (.slice a' (so.n + 1) c')) := (Chg.refl [b + 1] w7).setCell (.inl (by simp)) _
      have hb8 : Bx2 30 30 w _ b itZ.arr (ItV.arr { tag := tag, typ := 1, ks := ⟨a', so.n + 1, c'⟩, kids := lo ++ [x'] }) := HB7.out.set2 4 (.slice a' (so.n + 1) c')
      have ho8 := ho7.chg hset (fun k hk hm => by have := (ho7.own.lt k hk).1; have := List.mem_singleton.1 hm; omega) (fun x hx k hk hm => by have := ho7.low x hx k hk; have := List.mem_singleton.1 hm; omega)
      have hv8 := ItV.ok.keep hset (ItV.ok.keep HCH.out HV1.out (fun k hk hm => by rcases Nat.lt_or_ge k (b + 2) with h' | h'; exact HO1.out.ahead h' hm; have := HLT.out k hk; omega)) (fun k hk hm => by have := HLT.out k hk; have := List.mem_singleton.1 hm; omega)
      have hl7 : (lo ++ [x']).map ItV.it = (l.take (k + 1)).map ItV.it := by rw [HT.out, ← HL.out, List.map_append, List.map_cons, List.map_nil, HIT.out]
      have H7 := hid (And.intro ho8 (And.intro hb8 hv8))
      have HL7 := hid hl7
      clear ho7 hset hb8 ho8 hv8 hl7 hc4 hfz HB7 HCH HO1 HB1 HV1
      go_roundw
      case rel =>
        have hs := HSN.out
        first
          | exact ⟨k + 1, ⟨a', so.n + 1, c'⟩, lo ++ [x'], by omega, by go_num, by simp; omega, HL7.out, H7.out⟩
          | ((repeat apply Exists.intro); exact ⟨⟨k + 1, ⟨a', so.n + 1, c'⟩, lo ++ [x'], by omega, by go_num, by simp; omega, HL7.out, H7.out⟩, rfl⟩)
      case measure => simp [intOf]; omega
    · obtain rfl : k = s.n := by omega
      have HOK : Hid (ItV.ok wr { tag := tag, typ := 1, ks := so, kids := lo }) := ItV.ok_iff.2 ⟨SlC.nil _, HO.out.sl (by rw [HS.out]; exact hsn), HO.out.ok⟩
      have HF : Hid (∀ k ∈ ItV.foot { tag := tag, typ := 1, ks := so, kids := lo }, b + 2 ≤ k) := by
        intro k hk
        rcases ItV.mem_foot.1 hk with h' | h' | ⟨x, hx, h'⟩
        · simp [Sl.blk] at h'
        · exact HO.out.blk k h'
        · exact HO.out.low x hx k h'
      have HIT : Hid (ItV.it { tag := tag, typ := 1, ks := so, kids := lo } = { tag := tag, typ := 1, kids := l.map ItV.it }) := by
        show _ = _
        rw [ItV.it_eq]
        simp only [HL.out]
        rw [List.take_of_length_le (by rw [HKL.out]; exact Nat.le_refl _)]
      clear HV HO HL HS
      go_wp2_with (first | (refine wpList_load_row rfl 30 _ rfl (b + 1) rfl _ _ _ _ B.out.res Tryd.underlying30 rfl iSize ?_) | (refine wpList_store_obj rfl 30 _ _ rfl b rfl _ rfl _ _ B.out.box rfl iSize (arr_one _) ?_; intro w10 hb10 hc10 hs10; have HB10 := hid hb10; have HC10 := hid hc10; clear hb10 hc10 hs10))
      refine bodyPost_ret (results_cell_row rfl _ _ b _ _ _ _ rfl HB10.out Tryd.underlying30 rfl iSize) rfl ?_
      refine ⟨_, rfl, HIT.out, ItV.ok.keep HC10.out HOK.out (fun k hk hm => by have := HF.out k hk; have := List.mem_singleton.1 hm; omega), fun k hk => by have := HF.out k hk; rw [HBE.out]; omega, ?_⟩
      rw [HBE.out]
      exact B.out.bel.trans (HC10.out.below (fun k hk => by rw [List.mem_singleton.1 hk]; exact Nat.le_refl _) (by have := B.out.size; omega))
theorem paySome_any (s : Sl) (l : List ItV) (w : World) (hs : SlR w s 5 (itmCells l)) (hl : ∀ x ∈ l, x.ok w) : Calls Tryd.prog 18 #[.slice s.a s.n s.c] w fun e w' => ∃ (so : Sl) (lo : List ItV), e = .returned (.slice so.a so.n so.c) ∧ lo.map ItV.it = (l.filter fun x => x.tag != 0).map ItV.it ∧ OwnIt 30 w' w.heap.size w.heap.size so lo ∧ Below w.heap.size w w' := by
  obtain ⟨i, hi, hz0, hz1, hz2⟩ := info_parts iInfo
  have hsn := hs.sm
  have HV := hid (show ItV.ok w { ks := s, kids := l } from ItV.ok_iff.2 ⟨SlC.nil w, hs, hl⟩)
  have HKL := hid hs.klen
  clear hs hl
  generalize hbe : w.heap.size = b
  have HBE := hid hbe; clear hbe
  go_enter Tryd.func18, Tryd.ntmps18
  go_wp2_with fail
  go_loopw [3, 8] (fun u y wr => ∃ (k : Nat) (so : Sl) (lo : List ItV), k ≤ s.n ∧ y = .int .i64 k ∧ u = .slice so.a so.n so.c ∧ so.n ≤ k ∧ lo.map ItV.it = ((l.take k).filter fun x => x.tag != 0).map ItV.it ∧ OwnIt 30 wr b b so lo ∧ Below b w wr ∧ ItV.ok wr { ks := s, kids := l }) (fun _ y _ => s.n - (intOf y).toNat)
  case atStart => exact ⟨0, {}, [], Nat.zero_le _, rfl, rfl, Nat.le_refl _, by simp, OwnIt.nil _ _ _ _, Below.refl _ _, HV.out⟩
  case round =>
    have HLT := hid HV.out.lt
    rw [HBE.out] at HLT
    clear HV
    obtain ⟨k, so, lo, hk, rfl, rfl, hs, hl, ho, hb, hv⟩ := hrel
    have HO := hid ho; have B := hid hb; have HV := hid hv; have HL := hid hl; have HS := hid hs
    clear hl ho hb hv hs
    by_cases hlt : k < s.n
    · obtain ⟨bx, ox, x, hax, hx, hrow⟩ := (ItV.ok_iff.1 HV.out).2.1.row hlt
      obtain ⟨sa, sn, sc⟩ := s
      simp only at hax
      subst hax
      simp only at hx hlt hk hsn HKL HLT HV
      have hmem : x ∈ l := List.mem_of_getElem? hx
      have HX := hid ((ItV.ok_iff.1 HV.out).2.2 x hmem)
      have HT : Hid (((l.take (k + 1)).filter fun x => x.tag != 0).map ItV.it = ((l.take k).filter fun x => x.tag != 0).map ItV.it ++ (if x.tag != 0 then [x.it] else [])) := by
        show _ = _
        rw [List.take_add_one, hx, List.filter_append, List.map_append]
        congr 1
        cases h : (x.tag != 0) <;> simp [h]
      have HR := hid hrow
      clear hx hmem hrow
      go_upto_region 5 with (first | (refine wpList_load_mid rfl 30 _ rfl bx (ox + k * 5) rfl x.arr.toList _ HR.out Tryd.underlying30 rfl iSize ?_; simp only [Array.toArray_toList]) | (refine wpList_alloc_obj rfl 30 rfl _ iZero ?_) | (refine wpList_store_obj rfl 30 _ _ rfl wr.heap.size rfl _ rfl _ _ (block_new wr _) rfl iSize (arr_one x) ?_; intro w5 hb5 hc5 hs5; have HB5 := hid hb5; have HC5 := hid hc5; have HS5 := hid hs5; clear hb5 hc5 hs5))
      have hbel : Below wr.heap.size wr w5 := ((Below.refl _ wr).alloc (Nat.le_refl _) _).trans (HC5.out.below (fun k hk => by rw [List.mem_singleton.1 hk]; exact Nat.le_refl _) (by simp))
      have HZW : Hid (b ≤ wr.heap.size) := by show _ ≤ _; rw [← HBE.out]; exact B.out.size
      have HB := hid (B.out.trans (hbel.mono HZW.out)); have HO5 := hid (HO.out.below hbel); have HV5 := hid (HV.out.below hbel); have HX5 := hid (HX.out.below hbel)
      have HZ5 := hid (Nat.le_trans HZW.out hbel.size)
      clear hbel HC5 HS5 HR B HO HV HX HZW
      generalize wr.heap.size = c at *
      have hc0 := cell_of_block (j := 0) HB5.out (ar0 x)
      cases ht : (x.tag != 0) with
      | true =>
        have ht2 : (x.tag == 0) = false := by simpa using ht
        have HT2 : Hid (((l.take (k + 1)).filter fun x => x.tag != 0).map ItV.it = ((l.take k).filter fun x => x.tag != 0).map ItV.it ++ [x.it]) := by show _ = _; have := HT.out; rw [ht] at this; simpa using this
        clear ht HT
        go_upto_region 6 with (fail)
        clear hc0 ht2
        go_wp2_with (refine wpList_load_row rfl 30 _ rfl c rfl _ _ _ _ HB5.out Tryd.underlying30 rfl iSize ?_)
        refine (payCopied_any x _ HX5.out).mono ?_
        rintro e w6 ⟨x', rfl, hit, hok, hlow, hb6⟩
        have HIT := hid hit; have HOK := hid hok; have HB6 := hid hb6
        have HLOW := hid (fun k hk => Nat.le_trans HZ5.out (hlow k hk))
        have HNEW := hid hlow
        clear hit hok hb6 hlow
        go_wp2_with (first | (refine wpList_build_item rfl 28 30 _ rfl x' rfl i Tryd.underlying28 hi hz0 hz1 ?_) | (at_builtin; go_must (refine wpList_append_c rfl _ _ 28 rfl b 30 i _ 5 72 Tryd.underlying28 hi hz0 hz1 hz2 rfl (by decide) (.slice so.a so.n so.c) so.n _ rfl ((HO5.out.below HB6.out).below ((Below.refl _ _).alloc (Nat.le_refl _) (.cells x'.arr 30))).own _ 1 _ x'.cells rfl (RdC.new _ _ _ _ x'.cells (by simp [ItV.cells]) 5 rfl _ rfl) (by have := itm_one [x']; simpa [itmCells] using this) (fun hx => by cases hx) (by unfold maxLen; have := HS.out; omega) (by have := HS.out; omega) (by have := HZ5.out; have := HB6.out.size; simp; omega) ?_); go_loud (intro a' c' w7 hown hgw hfr; have HO7 := hid hown; have HG7 := hid hgw; have HF7 := hid hfr; clear hown hgw hfr)))
        have HSN := hid HS.out
        have ho6 := HO5.out.below HB6.out
        have hch : Chg so.v.ownBlock.toList w6 w7 := ((Chg.refl _ w6).alloc _).grown HG7.out (fun k hk => .inl (by rw [hk]; simp))
        have hlowb : ∀ k ∈ so.v.ownBlock.toList, b ≤ k := fun k hk => by
          rcases Nat.lt_or_ge k b with h' | h'
          · exact absurd hk (ho6.ahead h')
          · exact h'
        have hold : ∀ k, so.v.ownBlock = some k → k < w5.heap.size := fun k hk => (HO5.out.own.lt k hk).2
        have ho7 : OwnIt 30 w7 b b ⟨a', so.n + 1, c'⟩ (lo ++ [x']) :=
          ho6.app ((Below.refl _ _).alloc (Nat.le_refl _) _) x' HOK.out (fun k hk he => by have := hold k he; have := HNEW.out k hk; omega) HLOW.out (by rw [itm_app]; simpa [itmCells] using HO7.out) HG7.out HF7.out
        have hb7 : Below b w w7 := (HB.out.trans (HB6.out.mono HZ5.out)).trans (hch.below hlowb (by have := HZ5.out; have := HB6.out.size; omega))
        have hv7 : ItV.ok w7 _ := ItV.ok.keep hch (HV5.out.below HB6.out) (fun k hk hm => by have := hlowb k hm; have := HLT.out k hk; omega)
        have hl7 : (lo ++ [x']).map ItV.it = ((l.take (k + 1)).filter fun x => x.tag != 0).map ItV.it := by rw [HT2.out, ← HL.out, List.map_append, List.map_cons, List.map_nil, HIT.out]
        have H7 := hid (And.intro ho7 (And.intro hb7 hv7))
        have HL7 := hid hl7
        clear ho6 hch hlowb hold ho7 hb7 hv7 hl7
        go_roundw
        case rel =>
          have hs := HSN.out
          first
            | exact ⟨k + 1, ⟨a', so.n + 1, c'⟩, lo ++ [x'], by omega, by go_num, rfl, by simp; omega, HL7.out, H7.out⟩
            | ((repeat apply Exists.intro); exact ⟨⟨k + 1, ⟨a', so.n + 1, c'⟩, lo ++ [x'], by omega, by go_num, rfl, by simp; omega, HL7.out, H7.out⟩, rfl⟩)
        case measure => simp [intOf]; omega
      | false =>
        have ht2 : (x.tag == 0) = true := by simpa using ht
        have HT2 : Hid (((l.take (k + 1)).filter fun x => x.tag != 0).map ItV.it = ((l.take k).filter fun x => x.tag != 0).map ItV.it) := by show _ = _; have := HT.out; rw [ht] at this; simpa using this
        clear ht HT
        go_wp2_with fail
        go_roundw
        case rel =>
          have hs := HS.out
          have h1 := HL.out
          rw [← HT2.out] at h1
          first
            | exact ⟨k + 1, so, lo, by omega, by go_num, rfl, by omega, h1, HO5.out, HB.out, HV5.out⟩
            | ((repeat apply Exists.intro); exact ⟨⟨k + 1, so, lo, by omega, by go_num, rfl, by omega, h1, HO5.out, HB.out, HV5.out⟩, rfl⟩)
        case measure => simp [intOf]; omega
    · obtain rfl : k = s.n := by omega
      have HL2 : Hid (lo.map ItV.it = (l.filter fun x => x.tag != 0).map ItV.it) := by
        have h1 := HL.out
        rwa [List.take_of_length_le (by rw [HKL.out]; exact Nat.le_refl _)] at h1
      go_wp2_with fail
      go_ret
      exact ⟨so, lo, rfl, HL2.out, HO.out, B.out⟩
end Go.Proofs.YteenglgnakenmaaDoor
namespace Go.Proofs.YteenglgnakenmaaDoor
open Go.RowKit
set_option linter.unusedVariables false
set_option linter.unusedSimpArgs false
set_option maxRecDepth 100000
set_option maxHeartbeats 1600000
structure Fld where
  tag : Int := 0
  typ : Int := 0
  need : Bool := false
  many : Bool := false
instance : Inhabited Fld := ⟨{}⟩
def Fld.arr (f : Fld) : Array Value := #[.int .i64 f.tag, .int .i64 f.typ, .bool f.need, .bool f.many]
def fldCells (l : List Fld) : List Value := l.flatMap fun f => f.arr.toList
theorem fld_len (l : List Fld) : (fldCells l).length = l.length * 4 := by
  induction l with
  | nil => rfl
  | cons v r ih => simp only [fldCells, List.flatMap_cons, List.length_append, List.length_cons]; have : v.arr.toList.length = 4 := rfl; rw [this]; unfold fldCells at ih; rw [ih]; omega
theorem fld_one (l : List Fld) : ∀ u ∈ fldCells l, u.oneCell' = true := by
  intro u hu
  obtain ⟨x, _, hx⟩ := List.mem_flatMap.1 hu
  simp [Fld.arr] at hx
  rcases hx with rfl | rfl | rfl | rfl <;> rfl
theorem fld_app (l r : List Fld) : fldCells (l ++ r) = fldCells l ++ fldCells r := by unfold fldCells; rw [List.flatMap_append]
theorem fld_get (l : List Fld) : ∀ (k j : Nat) (v : Fld), l[k]? = some v → j < 4 → (fldCells l)[k * 4 + j]? = v.arr[j]? := by
  induction l with
  | nil => intro k j v h; simp at h
  | cons x r ih =>
    intro k j v h hj
    have e : fldCells (x :: r) = x.arr.toList ++ fldCells r := rfl
    have hl : x.arr.toList.length = 4 := rfl
    cases k with
    | zero =>
      simp at h; subst h
      rw [e, List.getElem?_append_left (by omega)]
      simp
    | succ k =>
      rw [e, List.getElem?_append_right (by omega), ← ih k j v (by simpa using h) hj]
      congr 1; omega
theorem SlR.flen {w : World} {s : Sl} {l : List Fld} (h : SlR w s 4 (fldCells l)) : l.length = s.n := by
  have := h.rd.len; rw [fld_len] at this; omega
theorem SlR.fld {w : World} {s : Sl} {l : List Fld} (h : SlR w s 4 (fldCells l)) {k : Nat} (hk : k < s.n) :
    ∃ b off f, s.a = some ⟨b, off, none⟩ ∧ l[k]? = some f ∧ w.rangeAt b (off + k * 4) f.arr.toList := by
  have hl := h.flen
  obtain ⟨b, off, ha, hc⟩ := h.rd.cell 0 (by omega)
  have hv : l[k]? = some (l[k]'(by omega)) := List.getElem?_eq_getElem _
  refine ⟨b, off, l[k]'(by omega), ha, hv, fun j u hu => ?_⟩
  have hj : j < 4 := (List.getElem?_eq_some_iff.1 hu).1
  rw [Nat.add_assoc]
  exact hc (k * 4 + j) u ((fld_get l k j _ hv hj).trans (by simpa using hu))
/-- The cells of a range, one by one. -/
theorem range_cell {w : World} {b o : Nat} {cs : List Value} (h : w.rangeAt b o cs) (j : Nat) {v : Value} (hv : cs[j]? = some v) : w.cell? ⟨b, o + j, none⟩ = some v := h j v hv
/-- The place of a tag, from one on. -/
def placeN (l : List Fld) (k : Nat) (tag : Int) : Option Nat := ((l.drop k).findIdx? fun f => f.tag == tag).map (· + k)
def placeI (o : Option Nat) : Int := match o with
  | some k => (k : Int)
  | none => -1
theorem place_step {l : List Fld} {k : Nat} {f : Fld} {tag : Int} (h : l[k]? = some f) : (f.tag == tag) = true ∧ placeN l k tag = some k ∨ (f.tag == tag) = false ∧ placeN l k tag = placeN l (k + 1) tag := by
  have hd : l.drop k = f :: l.drop (k + 1) := by
    rw [List.drop_eq_getElem_cons (List.getElem?_eq_some_iff.1 h).1]
    congr 1
    exact (List.getElem?_eq_some_iff.1 h).2
  unfold placeN
  rw [hd, List.findIdx?_cons]
  cases ht : (f.tag == tag) with
  | true => left; simp
  | false =>
    right
    refine ⟨rfl, ?_⟩
    cases (l.drop (k + 1)).findIdx? fun f => f.tag == tag with
    | none => rfl
    | some j => simp; omega
theorem place_end {l : List Fld} {k : Nat} {tag : Int} (h : l.length ≤ k) : placeN l k tag = none := by
  unfold placeN; rw [List.drop_eq_nil_of_le h]; rfl
theorem place_lt {l : List Fld} {k j : Nat} {tag : Int} (h : placeN l k tag = some j) : k ≤ j ∧ j < l.length := by
  unfold placeN at h
  cases hf : (l.drop k).findIdx? fun f => f.tag == tag with
  | none => rw [hf] at h; cases h
  | some i =>
    rw [hf] at h
    simp at h
    have := (List.findIdx?_eq_some_iff_getElem.1 hf).1
    simp at this
    omega
theorem place_any (s : Sl) (l : List Fld) (k : Nat) (tag : Int) (w : World) (h : SlR w s 4 (fldCells l)) (hk : k ≤ 1099511627776) :
    Calls Tryd.prog 35 #[.slice s.a s.n s.c, .int .i64 (k : Int), .int .i64 tag] w fun e w' => e = .returned (.int .i64 (placeI (placeN l k tag))) ∧ w = w' := by
  have HS := hid h
  have hsm := h.sm
  clear h
  obtain ⟨sa, hsa⟩ : ∃ sa, s.a = sa := ⟨_, rfl⟩
  rw [hsa]
  have HSA := hid hsa; clear hsa
  go_enter Tryd.func35, Tryd.ntmps35
  go_wp2_with fail
  go_loop [7] (fun i => ∃ j : Nat, i = .int .i64 j ∧ j ≤ max k s.n ∧ k ≤ j ∧ placeN l k tag = placeN l j tag) (fun i => (max k s.n) - (intOf i).toNat)
  case atStart => exact ⟨k, rfl, by omega, by omega, rfl⟩
  case round =>
    obtain ⟨j, rfl, hj, hkj, hp⟩ := hrel
    have HP := hid hp; clear hp
    by_cases hlt : j < s.n
    · obtain ⟨bx, ox, f, hax, hf, hrow⟩ := HS.out.fld hlt
      rw [HSA.out] at hax
      subst hax
      have hc := range_cell hrow 0 (v := .int .i64 f.tag) rfl
      rw [Nat.add_zero] at hc
      rcases place_step (tag := tag) hf with ⟨h1, h2⟩ | ⟨h1, h2⟩
      · have H2 := hid h2
        clear h2 hf hrow
        go_wp2_with fail
        go_ret
        exact ⟨by rw [HP.out, H2.out]; rfl, rfl⟩
      · have H2 := hid h2
        clear h2 hf hrow
        go_wp2_with fail
        go_round
        case rel => exact ⟨j + 1, by go_num, by omega, by omega, HP.out.trans H2.out⟩
        case measure => simp [intOf]; omega
    · have H2 := hid (place_end (l := l) (k := j) (tag := tag) (by rw [HS.out.flen]; omega))
      go_wp2_with fail
      go_ret
      exact ⟨by rw [HP.out, H2.out]; rfl, rfl⟩
end Go.Proofs.YteenglgnakenmaaDoor
namespace Go.Proofs.YteenglgnakenmaaDoor
open Go.RowKit
set_option linter.unusedVariables false
set_option linter.unusedSimpArgs false
set_option maxRecDepth 100000
set_option maxHeartbeats 1600000
/-- An item stored over the last of a row's own. -/
theorem wpList_store_item {P : Program} {w : World} {ops : Array Oper} {rest : List Oper} {op : Oper} {a : Act} {Q : Exit → Act → World → Prop} (hgd : op.guard = none) (ty : TypeId) (x y : Operand) (ho : op.op = .store ty x y)
    (g o : Nat) (hx : a.eval x = .pointer (some ⟨g, o, none⟩)) (v : ItV) (hy : a.eval y = .agg v.arr) {base n m c : Nat} {T : TypeId} {xs zs : List Value} (hown : w.ownsRow base T 5 (.slice (some ⟨g, 0, none⟩) m c) m (xs ++ zs)) (hm : m = n + 1) (hx5 : xs.length = n * 5) (ho5 : o = n * 5)
    (hi : (P.info? ty).map (·.size) = some 5) (h1 : v.arr.all (·.oneCell') = true)
    (h : ∀ w', w'.ownsRow base T 5 (.slice (some ⟨g, 0, none⟩) m c) m (xs ++ v.cells) → Chg [g] w w' → w'.heap.size = w.heap.size → wpList P ops Q rest (a.put op.dst undef) w') : wpList P ops Q (op :: rest) a w := by
  subst ho5; subst hm
  have hzs : zs.length = 5 := by have := hown.1; simp at this; omega
  rcases hown.2 with ⟨hv, h0⟩ | ⟨g', cap, cur, hv, hg, hh, hnc, hcm, hcs, ht⟩
  · cases hv
  · simp only [Value.slice.injEq, Option.some.injEq, Addr.mk.injEq] at hv
    obtain ⟨⟨rfl, _⟩, _, rfl⟩ := hv
    have hroom : n * 5 + 5 ≤ cur.size := by rw [hcs]; have := Nat.mul_le_mul_right 5 hnc; omega
    have hvl : v.arr.toList.length = 5 := rfl
    refine wpList_store_mid hgd ty x y ho g (n * 5) v.arr hx hy ?_ hi h1 (h _ ?_ ?_ ?_)
    · intro j hj
      have hj5 : j < 5 := hj
      refine ⟨?_, frozen_of_block hh⟩
      rw [cell_of_block hh (Array.getElem?_eq_getElem (by omega))]; rfl
    · refine ⟨by simp [ItV.cells, hx5, hvl]; omega, .inr ⟨g, c, setSeg cur (n * 5) v.arr.toList, rfl, hg, setCells_block _ _ _ _ hh, hnc, hcm, by rw [setSeg_size]; exact hcs, ?_⟩⟩
      refine List.ext_getElem? fun k => ?_
      have hcur : ∀ k, k < n * 5 → cur[k]? = xs[k]? := fun k hk => by
        have := congrArg (fun l => l[k]?) ht
        simp only [List.getElem?_take, if_pos (show k < (n + 1) * 5 by omega), List.getElem?_append_left (show k < xs.length by omega)] at this
        simpa using this
      rw [List.getElem?_take]
      by_cases hk : k < (n + 1) * 5
      · rw [if_pos hk, Array.getElem?_toList, setSeg_get _ _ _ _ (by rw [hvl]; exact hroom), hvl]
        by_cases hkn : k < n * 5
        · rw [if_neg (by omega), hcur k hkn, List.getElem?_append_left (by omega)]
        · rw [if_pos (by omega), List.getElem?_append_right (by omega), hx5]; rfl
      · rw [if_neg hk, List.getElem?_eq_none]
        simp [ItV.cells, hx5]
        have : v.arr.size = 5 := rfl
        omega
    · exact setCells_chg _ _ _ (Chg.refl _ _) (.inl (by simp))
    · have : ∀ (vs : List Value) (o : Nat) (w : World), (w.setCells g o vs).heap.size = w.heap.size := by
        intro vs
        induction vs with
        | nil => intro o w; rfl
        | cons v r ih => intro o w; rw [World.setCells, ih]; simp [World.setCell]
      exact this _ _ _
/-- the same, one operation -/
theorem wp_store_item {P : Program} {w : World} {op : Oper} {a : Act} {K : Act → World → Prop} {Q : Exit → Act → World → Prop} (ty : TypeId) (x y : Operand) (ho : op.op = .store ty x y)
    (g o : Nat) (hx : a.eval x = .pointer (some ⟨g, o, none⟩)) (v : ItV) (hy : a.eval y = .agg v.arr) {base n m c : Nat} {T : TypeId} {xs zs : List Value} (hown : w.ownsRow base T 5 (.slice (some ⟨g, 0, none⟩) m c) m (xs ++ zs)) (hm : m = n + 1) (hx5 : xs.length = n * 5) (ho5 : o = n * 5)
    (hi : (P.info? ty).map (·.size) = some 5) (h1 : v.arr.all (·.oneCell') = true)
    (h : ∀ w', w'.ownsRow base T 5 (.slice (some ⟨g, 0, none⟩) m c) m (xs ++ v.cells) → Chg [g] w w' → w'.heap.size = w.heap.size → K (a.put op.dst undef) w') : op.wp P a w K Q := by
  subst ho5; subst hm
  have hzs : zs.length = 5 := by have := hown.1; simp at this; omega
  rcases hown.2 with ⟨hv, h0⟩ | ⟨g', cap, cur, hv, hg, hh, hnc, hcm, hcs, ht⟩
  · cases hv
  · simp only [Value.slice.injEq, Option.some.injEq, Addr.mk.injEq] at hv
    obtain ⟨⟨rfl, _⟩, _, rfl⟩ := hv
    have hroom : n * 5 + 5 ≤ cur.size := by rw [hcs]; have := Nat.mul_le_mul_right 5 hnc; omega
    have hvl : v.arr.toList.length = 5 := rfl
    refine wp_store_mid ty x y ho g (n * 5) v.arr hx hy ?_ hi h1 (h _ ?_ ?_ ?_)
    · intro j hj
      have hj5 : j < 5 := hj
      refine ⟨?_, frozen_of_block hh⟩
      rw [cell_of_block hh (Array.getElem?_eq_getElem (by omega))]; rfl
    · refine ⟨by simp [ItV.cells, hx5, hvl]; omega, .inr ⟨g, c, setSeg cur (n * 5) v.arr.toList, rfl, hg, setCells_block _ _ _ _ hh, hnc, hcm, by rw [setSeg_size]; exact hcs, ?_⟩⟩
      refine List.ext_getElem? fun k => ?_
      have hcur : ∀ k, k < n * 5 → cur[k]? = xs[k]? := fun k hk => by
        have := congrArg (fun l => l[k]?) ht
        simp only [List.getElem?_take, if_pos (show k < (n + 1) * 5 by omega), List.getElem?_append_left (show k < xs.length by omega)] at this
        simpa using this
      rw [List.getElem?_take]
      by_cases hk : k < (n + 1) * 5
      · rw [if_pos hk, Array.getElem?_toList, setSeg_get _ _ _ _ (by rw [hvl]; exact hroom), hvl]
        by_cases hkn : k < n * 5
        · rw [if_neg (by omega), hcur k hkn, List.getElem?_append_left (by omega)]
        · rw [if_pos (by omega), List.getElem?_append_right (by omega), hx5]; rfl
      · rw [if_neg hk, List.getElem?_eq_none]
        simp [ItV.cells, hx5]
        have : v.arr.size = 5 := rfl
        omega
    · exact setCells_chg _ _ _ (Chg.refl _ _) (.inl (by simp))
    · have : ∀ (vs : List Value) (o : Nat) (w : World), (w.setCells g o vs).heap.size = w.heap.size := by
        intro vs
        induction vs with
        | nil => intro o w; rfl
        | cons v r ih => intro o w; rw [World.setCells, ih]; simp [World.setCell]
      exact this _ _ _
/-- Rows of items: a slice of slices, all the call's own. -/
structure Rows2 (T1 T : TypeId) (w : World) (base low : Nat) (s : Sl) (sls : List Sl) (rows : List (List ItV)) : Prop where
  own : w.ownsRow base T1 1 (.slice s.a s.n s.c) s.n (sls.map Sl.v)
  len : rows.length = sls.length
  each : ∀ (k : Nat) (sl : Sl) (l : List ItV), sls[k]? = some sl → rows[k]? = some l → OwnIt T w base low sl l
  apart : ∀ (i j : Nat) (si sj : Sl) (k : Nat), i ≠ j → sls[i]? = some si → sls[j]? = some sj → si.v.ownBlock = some k → sj.v.ownBlock ≠ some k
  cross : ∀ (si : Sl) (l : List ItV) (x : ItV) (k : Nat), si ∈ sls → l ∈ rows → x ∈ l → k ∈ x.foot → si.v.ownBlock ≠ some k
  outer : ∀ (l : List ItV) (x : ItV) (k : Nat), l ∈ rows → x ∈ l → k ∈ x.foot → s.v.ownBlock ≠ some k
section
variable {T1 T : TypeId} {w w' : World} {base low : Nat} {s : Sl} {sls : List Sl} {rows : List (List ItV)}
theorem Rows2.chg (h : Rows2 T1 T w base low s sls rows) {G : List Nat} (hc : Chg G w w') (h1 : ∀ k, s.v.ownBlock = some k → k ∉ G) (h2 : ∀ si ∈ sls, ∀ k, si.v.ownBlock = some k → k ∉ G) (h3 : ∀ l ∈ rows, ∀ x ∈ l, Disj x.foot G) : Rows2 T1 T w' base low s sls rows :=
  ⟨hc.owns h.own h1, h.len, fun k sl l hs hl => (h.each k sl l hs hl).chg hc (h2 sl (List.mem_of_getElem? hs)) (h3 l (List.mem_of_getElem? hl)), h.apart, h.cross, h.outer⟩
theorem Rows2.below (h : Rows2 T1 T w base low s sls rows) (hb : Below w.heap.size w w') : Rows2 T1 T w' base low s sls rows :=
  h.chg (Chg.of_below hb []) (fun k _ hm => by cases hm) (fun _ _ k _ hm => by cases hm) (fun _ _ x _ k _ hm => by cases hm)
theorem Rows2.slen (h : Rows2 T1 T w base low s sls rows) : sls.length = s.n := by have := h.own.1; simpa using this
theorem Rows2.start (hT : T1 ≠ T) {a : Option Addr} {n c : Nat} (ho : w.ownsRow base T1 1 (.slice a n c) n (List.replicate n (.slice none 0 0))) : Rows2 T1 T w base low ⟨a, n, c⟩ (List.replicate n {}) (List.replicate n []) := by
  refine ⟨by simpa using ho, by simp, fun k sl l hs hl => ?_, fun i j si sj k _ hi _ hb => ?_, fun si l x k _ hl hx => ?_, fun l x k hl hx => ?_⟩
  · obtain rfl : sl = {} := List.eq_of_mem_replicate (List.mem_of_getElem? hs)
    obtain rfl : l = [] := List.eq_of_mem_replicate (List.mem_of_getElem? hl)
    exact OwnIt.nil _ _ _ _
  · obtain rfl : si = {} := List.eq_of_mem_replicate (List.mem_of_getElem? hi)
    cases hb
  · obtain rfl : l = [] := List.eq_of_mem_replicate hl
    cases hx
  · obtain rfl : l = [] := List.eq_of_mem_replicate hl
    cases hx
/-- One row has grown by an item; its slice is laid back. -/
theorem Rows2.push (h : Rows2 T1 T w base low s sls rows) (hT : T1 ≠ T) {g i : Nat} (hg : s.a = some ⟨g, 0, none⟩) {sl sl' : Sl} {l : List ItV} (hi : sls[i]? = some sl) (hl : rows[i]? = some l)
    (y : ItV) (hy : y.ok w) (hylow : ∀ k ∈ y.foot, low ≤ k) (hyn : ∀ k ∈ y.foot, (∀ si ∈ sls, si.v.ownBlock ≠ some k) ∧ s.v.ownBlock ≠ some k)
    (hc : Chg (g :: sl.v.ownBlock.toList) w w') (hrow : w'.ownsRow base T 5 (.slice sl'.a sl'.n sl'.c) sl'.n (itmCells (l ++ [y]))) (hout : w'.ownsRow base T1 1 (.slice s.a s.n s.c) s.n ((sls.set i sl').map Sl.v))
    (hf : sl'.v.ownBlock = sl.v.ownBlock ∨ ∀ k, sl'.v.ownBlock = some k → w.heap.size ≤ k) : Rows2 T1 T w' base low s (sls.set i sl') (rows.set i (l ++ [y])) := by
  obtain ⟨sa, sn, sc⟩ := s
  simp only at hg; subst hg
  have hin : i < sls.length := (List.getElem?_eq_some_iff.1 hi).1
  have hmem : sl ∈ sls := List.mem_of_getElem? hi
  have hlmem : l ∈ rows := List.mem_of_getElem? hl
  have hir : i < rows.length := (List.getElem?_eq_some_iff.1 hl).1
  have hgs : g < w.heap.size := (h.own.lt g rfl).2
  have hrow' : ∀ j sj, sls[j]? = some sj → ∃ lj, rows[j]? = some lj := fun j sj hj => ⟨rows[j]'(by have := (List.getElem?_eq_some_iff.1 hj).1; have := h.len; omega), List.getElem?_eq_getElem _⟩
  have hgr : ∀ si ∈ sls, si.v.ownBlock ≠ some g := fun si hsi => by
    obtain ⟨j, hj⟩ := List.getElem?_of_mem hsi
    obtain ⟨lj, hlj⟩ := hrow' j si hj
    exact typ_ne h.own (h.each j si lj hj hlj).own hT rfl
  have hin2 : ∀ k, k ∈ sl.v.ownBlock.toList → sl.v.ownBlock = some k := fun k hm => by
    cases hv : sl.v.ownBlock with
    | none => rw [hv] at hm; cases hm
    | some y => rw [hv] at hm; simp at hm; rw [hm]
  have hlt2 : ∀ (j : Nat) (sj : Sl) (k : Nat), sls[j]? = some sj → sj.v.ownBlock = some k → k < w.heap.size := fun j sj k hj hk => by
    obtain ⟨lj, hlj⟩ := hrow' j sj hj
    exact ((h.each j sj lj hj hlj).own.lt k hk).2
  have hfoot : ∀ l2 ∈ rows.set i (l ++ [y]), ∀ x ∈ l2, x.ok w ∧ (∀ k ∈ x.foot, low ≤ k) ∧ ∀ k ∈ x.foot, (∀ si ∈ sls, si.v.ownBlock ≠ some k) ∧ g ≠ k ∧ k < w.heap.size := by
    have hold : ∀ l2 ∈ rows, ∀ x ∈ l2, x.ok w ∧ (∀ k ∈ x.foot, low ≤ k) ∧ ∀ k ∈ x.foot, (∀ si ∈ sls, si.v.ownBlock ≠ some k) ∧ g ≠ k ∧ k < w.heap.size := by
      intro l2 h' x hx
      obtain ⟨j, hj⟩ := List.getElem?_of_mem h'
      obtain ⟨sj, hsj⟩ : ∃ sj, sls[j]? = some sj := ⟨sls[j]'(by have := (List.getElem?_eq_some_iff.1 hj).1; have := h.len; omega), List.getElem?_eq_getElem _⟩
      have hE := h.each j sj l2 hsj hj
      exact ⟨hE.ok x hx, hE.low x hx, fun k hk => ⟨fun si hsi => h.cross si l2 x k hsi h' hx hk, fun he => h.outer l2 x k h' hx hk (by rw [← he]; rfl), (hE.ok x hx).lt k hk⟩⟩
    intro l2 hl2 x hx
    rcases List.mem_or_eq_of_mem_set hl2 with h' | h'
    · exact hold l2 h' x hx
    · subst h'
      rcases List.mem_append.1 hx with h2 | h2
      · exact hold l hlmem x h2
      · rw [List.mem_singleton.1 h2]
        exact ⟨hy, hylow, fun k hk => ⟨(hyn k hk).1, fun he => (hyn k hk).2 (by rw [← he]; rfl), hy.lt k hk⟩⟩
  have hdisj : ∀ l2 ∈ rows.set i (l ++ [y]), ∀ x ∈ l2, Disj x.foot (g :: sl.v.ownBlock.toList) := fun l2 hl2 x hx k hk hm => by
    have := (hfoot l2 hl2 x hx).2.2 k hk
    rcases List.mem_cons.1 hm with h' | h'
    · exact this.2.1 h'.symm
    · exact this.1 sl hmem (hin2 k h')
  have hsl' : ∀ k, sl'.v.ownBlock = some k → (sl.v.ownBlock = some k) ∨ w.heap.size ≤ k := fun k hk => by
    rcases hf with h' | h'
    · left; rw [← h']; exact hk
    · right; exact h' k hk
  refine ⟨hout, by simp [h.len], ?_, ?_, ?_, ?_⟩
  · intro k s2 l2 hs2 hl2
    by_cases hki : k = i
    · subst hki
      rw [List.getElem?_set_self hin] at hs2
      rw [List.getElem?_set_self hir] at hl2
      cases hs2; cases hl2
      have hm := List.mem_set hir (l ++ [y])
      refine ⟨hrow, fun x hx => ItV.ok.keep hc (hfoot _ hm x hx).1 (hdisj _ hm x hx), fun x hx q hq he => ?_, fun x hx => (hfoot _ hm x hx).2.1⟩
      have h3 := (hfoot _ hm x hx).2.2 q hq
      rcases hsl' q he with h' | h'
      · exact h3.1 sl hmem h'
      · omega
    · rw [List.getElem?_set_ne (by omega)] at hs2 hl2
      refine (h.each k s2 l2 hs2 hl2).chg hc (fun q hq hm => ?_) (fun x hx => ?_)
      · rcases List.mem_cons.1 hm with h' | h'
        · exact hgr s2 (List.mem_of_getElem? hs2) (by rw [hq, h'])
        · exact h.apart i k sl s2 q (by omega) hi hs2 (hin2 q h') hq
      · have hm2 : l2 ∈ rows.set i (l ++ [y]) := List.mem_of_getElem? (i := k) (by rw [List.getElem?_set_ne (by omega)]; exact hl2)
        exact hdisj l2 hm2 x hx
  · intro p q sp sq k hpq hp hq hk
    by_cases hpi : p = i
    · subst hpi
      rw [List.getElem?_set_self hin] at hp
      cases hp
      rw [List.getElem?_set_ne (by omega)] at hq
      rcases hsl' k hk with h' | h'
      · exact h.apart p q sl sq k hpq hi hq h'
      · intro he; have := hlt2 q sq k hq he; omega
    · rw [List.getElem?_set_ne (by omega)] at hp
      by_cases hqi : q = i
      · subst hqi
        rw [List.getElem?_set_self hin] at hq
        cases hq
        intro he
        rcases hsl' k he with h' | h'
        · exact h.apart p q sp sl k hpq hp hi hk h'
        · have := hlt2 p sp k hp hk; omega
      · rw [List.getElem?_set_ne (by omega)] at hq
        exact h.apart p q sp sq k hpq hp hq hk
  · intro si l2 x k hsi hl2 hx hk
    have hff := (hfoot l2 hl2 x hx).2.2 k hk
    rcases List.mem_or_eq_of_mem_set hsi with h' | h'
    · exact hff.1 si h'
    · subst h'
      intro he
      rcases hsl' k he with h2 | h2
      · exact hff.1 sl hmem h2
      · omega
  · intro l2 x k hl2 hx hk he
    have he2 : some g = some k := he
    cases he2
    exact ((hfoot l2 hl2 x hx).2.2 _ hk).2.1 rfl
end
end Go.Proofs.YteenglgnakenmaaDoor
namespace Go.Proofs.YteenglgnakenmaaDoor
open Go.RowKit
set_option linter.unusedVariables false
set_option linter.unusedSimpArgs false
/-- One kid more. -/
def parseStep (l : List Fld) (st : Nat × List (List Itm)) (x : Itm) : Except Int (Nat × List (List Itm)) :=
  match placeN l st.1 x.tag with
  | none => .error 4
  | some k =>
    if (st.2.getD k []).length ≠ 0 ∧ (l.getD k default).many = false then .error 4
    else if x.typ ≠ (l.getD k default).typ then .error 7
    else .ok (k, st.2.set k (st.2.getD k [] ++ [x]))
def parseKids (l : List Fld) (kids : List Itm) : Except Int (Nat × List (List Itm)) := kids.foldlM (parseStep l) (0, List.replicate l.length [])
/-- Is a field missed? -/
def missK (l : List Fld) (rows : List (List Itm)) (k : Nat) : Bool := (l.getD k default).need && (rows.getD k []).isEmpty
def missing (l : List Fld) (rows : List (List Itm)) : Bool := (List.range l.length).any (missK l rows)
def parseV (l : List Fld) (i : Itm) : Except Int (List (List Itm)) :=
  if i.typ ≠ 1 then .error 4
  else match parseKids l i.kids with
    | .error e => .error e
    | .ok st => if missing l st.2 = true then .error 6 else .ok st.2
theorem kids_take {l : List Fld} {kids : List Itm} {k : Nat} {x : Itm} {st : Nat × List (List Itm)} (h : parseKids l (kids.take k) = .ok st) (hx : kids[k]? = some x) : parseKids l (kids.take (k + 1)) = parseStep l st x := by
  unfold parseKids at *
  rw [List.take_add_one, hx, List.foldlM_append, h]
  show (List.foldlM (parseStep l) st [x]) = _
  rw [List.foldlM_cons]
  cases parseStep l st x <;> rfl
theorem kids_err {l : List Fld} {kids : List Itm} {k : Nat} {e : Int} (h : parseKids l (kids.take k) = .error e) : parseKids l kids = .error e := by
  unfold parseKids at *
  rw [← List.take_append_drop k kids, List.foldlM_append, h]
  rfl
theorem parse_err {l : List Fld} {i : Itm} {k : Nat} {e : Int} (h1 : i.typ = 1) (h : parseKids l (i.kids.take k) = .error e) : parseV l i = .error e := by
  unfold parseV
  rw [if_neg (by simp [h1]), kids_err h]
theorem parse_typ {l : List Fld} {i : Itm} (h : i.typ ≠ 1) : parseV l i = .error 4 := by unfold parseV; rw [if_pos h]
theorem parse_ok {l : List Fld} {i : Itm} {st : Nat × List (List Itm)} (h1 : i.typ = 1) (h : parseKids l i.kids = .ok st) : parseV l i = if missing l st.2 = true then .error 6 else .ok st.2 := by
  unfold parseV
  rw [if_neg (by simp [h1]), h]
theorem missing_yes {l : List Fld} {rows : List (List Itm)} {k : Nat} (hk : k < l.length) (h : missK l rows k = true) : missing l rows = true :=
  List.any_eq_true.2 ⟨k, List.mem_range.2 hk, h⟩
theorem missing_no {l : List Fld} {rows : List (List Itm)} (h : ∀ k, k < l.length → missK l rows k = false) : missing l rows = false := by
  rw [missing, List.any_eq_false]
  intro k hk
  rw [h k (List.mem_range.1 hk)]; simp
theorem parseKids_len {l : List Fld} : ∀ (kids : List Itm) (st st' : Nat × List (List Itm)), kids.foldlM (parseStep l) st = .ok st' → st'.2.length = st.2.length := by
  intro kids
  induction kids with
  | nil => intro st st' h; cases h; rfl
  | cons x r ih =>
    intro st st' h
    rw [List.foldlM_cons] at h
    cases hs : parseStep l st x with
    | error e => rw [hs] at h; cases h
    | ok s1 =>
      rw [hs] at h
      rw [ih s1 st' h]
      unfold parseStep at hs
      cases hp : placeN l st.1 x.tag with
      | none => rw [hp] at hs; cases hs
      | some k =>
        rw [hp] at hs
        simp only at hs
        split at hs
        · cases hs
        · split at hs
          · cases hs
          · cases hs; simp
end Go.Proofs.YteenglgnakenmaaDoor
