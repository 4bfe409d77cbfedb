/- Makers of items: Of and Some of pay; Of of the reference. -/
import Derived.Test.YtbnbofooofedkaaDoorPay1
namespace Go.Proofs.YtbnbofooofedkaaDoor
open Go.RowKit
set_option linter.unusedVariables false
set_option linter.unusedSimpArgs false
set_option maxRecDepth 100000
set_option maxHeartbeats 1600000
/-- A slice of one item. -/
theorem wp_build_item {P : Program} {o : Oper} {a : Act} {w : World} {K : Act → World → Prop} {Q : Exit → Act → World → Prop} (T E : TypeId) (x : Operand) (ho : o.op = .buildSlice T 1 #[(0, x)]) (v : ItV) (hx : a.eval x = .agg v.arr)
  (i : TypeInfo) (hu : P.underlying T = some (.slice E)) (hi : P.info? E = some i) (hz : i.zero = some (.agg itZ.arr)) (hs : i.size = 5)
  (h : K (a.put o.dst (.slice (some ⟨w.heap.size, 0, none⟩) 1 1)) (w.alloc (.cells v.arr E))) : o.wp P a w K Q := by
 refine wp_buildSlice T E 1 _ ho v.arr i _ hu hi hz (by rw [hs]; decide) (by rw [hs]; decide) ?_ h
 rw [hs, show ((#[(0, x)] : Array (Nat × Operand)).map fun (i, x) => (i, a.eval x)).toList = [(0, Value.agg v.arr)] from by simp [hx]]
 kernel_rfl
theorem wpList_build_item {P : Program} {ops : Array Oper} {rest : List Oper} {o : Oper} {a : Act} {w : World} {Q : Exit → Act → World → Prop} (hg : o.guard = none) (T E : TypeId) (x : Operand) (ho : o.op = .buildSlice T 1 #[(0, x)]) (v : ItV) (hx : a.eval x = .agg v.arr)
  (i : TypeInfo) (hu : P.underlying T = some (.slice E)) (hi : P.info? E = some i) (hz : i.zero = some (.agg itZ.arr)) (hs : i.size = 5)
  (h : wpList P ops Q rest (a.put o.dst (.slice (some ⟨w.heap.size, 0, none⟩) 1 1)) (w.alloc (.cells v.arr E))) : wpList P ops Q (o :: rest) a w :=
 wpList_plain hg fun _ hK => wp_build_item T E x ho v hx i hu hi hz hs (hK _ _ h)
/-- In a region: a copy in new memory; a slice of one. -/
def stCopy (x : ItV) (B : Nat) : St Grow := ⟨fun v w => ∃ x' : ItV, v = .agg x'.arr ∧ x'.it = x.it ∧ x'.ok w ∧ ∀ k ∈ x'.foot, B ≤ k, fun v w w' h hg => let ⟨x', e, h1, h2, h3⟩ := h; ⟨x', e, h1, h2.below hg, h3⟩⟩
def stOne (x : ItV) (T : TypeId) (B : Nat) : St Grow := ⟨fun v w => ∃ (x' : ItV) (p : Nat), v = .slice (some ⟨p, 0, none⟩) 1 1 ∧ w.heap[p]? = some (.cells x'.arr T (0, 0)) ∧ x'.it = x.it ∧ x'.ok w ∧ (∀ k ∈ x'.foot, B ≤ k), fun v w w' h hg => let ⟨x', p, e, h0, h1, h2, h3⟩ := h; ⟨x', p, e, (hg.block _ (block_lt h0)).trans h0, h1, h2.below hg, h3⟩⟩
theorem RdC.of_block {w : World} {p : Nat} {C : Array Value} {T : TypeId} {fr : Nat × Nat} (h : w.heap[p]? = some (.cells C T fr)) : RdC w (some ⟨p, 0, none⟩) C.size C.toList :=
 ⟨by simp, fun j hj => ⟨p, 0, rfl, fun i u hu => by rw [Nat.zero_add]; exact cell_of_block h (by simpa using hu)⟩⟩
theorem payOf_any (tag : Int) (s : Sl) (l : List ItV) (w : World) (hs : SlR w s 5 (itmCells l)) (hl : ∀ x ∈ l, x.ok w) : Calls Tryd.prog 40 #[.int .i64 tag, .slice s.a s.n s.c] w (Made { tag := tag, typ := 1, kids := l.map ItV.it } w) := by
 obtain ⟨i, hi, hz0, hz1, hz2⟩ := info_parts iInfo
 have hsn := hs.sm
 have HV := hid (show ItV.ok w { ks := s, kids := l } from ItV.ok_iff.2 ⟨SlC.nil w, hs, hl⟩)
 have HKL := hid hs.klen
 clear hs hl
 generalize hbe : w.heap.size = b
 have HBE := hid hbe; clear hbe
 go_enter Tryd.func40, Tryd.ntmps40
 go_upto_region 1 with (refine wpList_alloc_obj rfl 27 rfl _ iZero ?_)
 go_simp
 have hbw : Below w.heap.size w (w.alloc (.cells itZ.arr 27)) := (Below.refl _ _).alloc (Nat.le_refl _) _
 have hb0 := block_new w (.cells itZ.arr 27)
 have hsz : (w.alloc (.cells itZ.arr 27)).heap.size = w.heap.size + 1 := by simp
 have HV0 := hid (HV.out.below hbw)
 have HLT := hid HV.out.lt
 rw [HBE.out] at hbw hb0 hsz HLT ⊢
 have HBW := hid hbw; have HB0 := hid hb0; have HSZ := hid hsz
 clear hbw hb0 hsz HV
 generalize w.alloc (.cells itZ.arr 27) = W at *
 go_upto_region 2 with (first | (refine wpList_alloc_obj rfl 27 rfl _ iZero ?_) | (refine wpList_store_obj rfl 27 _ _ rfl W.heap.size rfl (ItV.arr { tag := tag, typ := 1 }) rfl _ _ (block_new W _) rfl iSize (arr_one _) ?_; intro w3 hb3 hc3 hs3; have HB3 := hid hb3; have HC3 := hid hc3; have HS3 := hid hs3; clear hb3 hc3 hs3))
 have hbel : Below W.heap.size W w3 := ((Below.refl _ W).alloc (Nat.le_refl _) _).trans (HC3.out.below (fun k hk => by rw [List.mem_singleton.1 hk]; exact Nat.le_refl _) (by simp))
 have B3 : Hid (Bx2 27 27 w w3 b itZ.arr (ItV.arr { tag := tag, typ := 1 })) := ⟨(hbel.block _ (by rw [HSZ.out]; omega)).trans HB0.out, by rw [← HSZ.out]; exact HB3.out, HBW.out.trans (hbel.mono (by rw [HSZ.out]; omega))⟩
 have HV3 := hid (HV0.out.below hbel)
 clear hbel HB3 HC3 HS3 HV0 HB0 HBW
 rw [HSZ.out]
 clear HSZ
 go_wp2_with fail
 go_loopw [12] (fun y wr => ∃ (k : Nat) (so : Sl) (lo : List ItV), k ≤ s.n ∧ y = .int .i64 k ∧ so.n = k ∧ lo.map ItV.it = (l.take k).map ItV.it ∧ OwnIt 27 wr (b + 2) (b + 2) so lo ∧ Bx2 27 27 w wr b itZ.arr (ItV.arr { tag := tag, typ := 1, ks := so, kids := lo }) ∧ ItV.ok wr { ks := s, kids := l }) (fun y _ => s.n - (intOf y).toNat)
 case atStart => exact ⟨0, {}, [], Nat.zero_le _, rfl, rfl, by simp, OwnIt.nil _ _ _ _, B3.out, HV3.out⟩
 case round =>
  clear B3 HV3
  obtain ⟨k, so, lo, hk, rfl, hs, hl, ho, hb, hv⟩ := hrel
  have HO := hid ho; have B := hid hb; have HV := hid hv; have HL := hid hl; have HS := hid hs
  clear hl ho hb hv hs
  by_cases hlt : k < s.n
  ·obtain ⟨bx, ox, x, hax, hx, hrow⟩ := (ItV.ok_iff.1 HV.out).2.1.row hlt
   obtain ⟨sa, sn, sc⟩ := s
   simp only at hax
   subst hax
   simp only at hx hlt hk hsn HKL HLT HV
   have hmem : x ∈ l := List.mem_of_getElem? hx
   have HX := hid ((ItV.ok_iff.1 HV.out).2.2 x hmem)
   have HT : Hid ((l.take (k + 1)).map ItV.it = (l.take k).map ItV.it ++ [x.it]) := by
    show _ = _
    rw [List.take_add_one, hx]; simp
   have HR := hid hrow
   clear hx hmem hrow
   go_upto_region 5 with (first | (refine wpList_load_mid rfl 27 _ rfl bx (ox + k * 5) rfl x.arr.toList _ HR.out Tryd.underlying27 rfl iSize ?_; simp only [Array.toArray_toList]) | (refine wpList_alloc_obj rfl 27 rfl _ iZero ?_) | (refine wpList_store_obj rfl 27 _ _ rfl wr.heap.size rfl _ rfl _ _ (block_new wr _) rfl iSize (arr_one x) ?_; intro w5 hb5 hc5 hs5; have HB5 := hid hb5; have HC5 := hid hc5; have HS5 := hid hs5; clear hb5 hc5 hs5))
   have hbel : Below wr.heap.size wr w5 := ((Below.refl _ wr).alloc (Nat.le_refl _) _).trans (HC5.out.below (fun k hk => by rw [List.mem_singleton.1 hk]; exact Nat.le_refl _) (by simp))
   have HB := hid (B.out.below hbel); have HO5 := hid (HO.out.below hbel); have HV5 := hid (HV.out.below hbel); have HX5 := hid (HX.out.below hbel)
   clear hbel HC5 HS5 HR B HO HV HX
   generalize wr.heap.size = c at *
   have HBZ := hid HB.out.size
   obtain ⟨z, hz⟩ : ∃ z, w5.heap.size = z := ⟨_, rfl⟩
   have HZ := hid hz; clear hz
   refine wp_region_each 5 [.eq (.pointer (some ⟨b + 1, 4, none⟩)), .eq (.slice so.a so.n so.c), .eq (.agg x.arr), stCopy x z, stOne x 27 z] (by kernel_rfl) (by kernel_rfl) (by kernel_rfl) (by kernel_rfl) ?_ ?_
   ·as_aux_lemma =>
     refine each_5 ?_ ?_ ?_ ?_ ?_ (each_n)
     ·intro w1 hg Ar seen
      have s5 := seen.sl 5 (.pointer (some ⟨b + 1, 0, none⟩))
      refine does_plain rfl fun K Q' hK => ?_
      go_simp; exact hK _ _ (Grow.refl _) rfl
     ·intro w1 hg Ar seen
      have e0 := seen.de 0 16
      refine does_plain rfl fun K Q' hK => ?_
      have hc := cell_of_block (j := 4) ((hg.block _ (block_lt HB.out.res)).trans HB.out.res) (ar4 _)
      go_simp; exact hK _ _ (Grow.refl _) rfl
     ·intro w1 hg Ar seen
      have s7 := seen.sl 7 (.pointer (some ⟨c, 0, none⟩))
      refine does_plain rfl fun K Q' hK => ?_
      refine wp_load_row 27 _ rfl c (by simp [Act.eval, s7]) _ _ _ _ ((hg.block _ (block_lt HB5.out)).trans HB5.out) Tryd.underlying27 rfl iSize ?_
      exact hK _ _ (Grow.refl _) rfl
     ·intro w1 hg Ar seen
      obtain ⟨v2, e2, h2⟩ := seen.dp 2 18
      rcases h2 with rfl
      refine does_plain rfl fun K Q' hK => ?_
      go_simp
      refine (payCopied_any x _ (HX5.out.below hg)).mono ?_
      rintro e u ⟨x', rfl, h1, h2, h3, hb⟩
      exact hK _ _ hb ⟨x', rfl, h1, h2, fun k hk => by have := h3 k hk; have := hg.size; have := HZ.out; omega⟩
     ·intro w1 hg Ar seen
      obtain ⟨v3, e3, h3⟩ := seen.dp 3 19
      refine does_plain rfl fun K Q' hK => ?_
      obtain ⟨x', rfl, h1, h2, h4⟩ := h3
      refine wp_build_item _ 27 _ rfl x' (by simp [Act.eval, e3]) i Tryd.underlying25 hi hz0 hz1 ?_
      exact hK _ _ ((Below.refl _ _).alloc (Nat.le_refl _) _) ⟨x', _, rfl, block_new _ _, h1, h2.below ((Below.refl _ _).alloc (Nat.le_refl _) _), h4⟩
   intro w1 hg
   refine upon_w' (js := [0, 1, 2, 3, 4]) (by rfl) ?_
   refine upon_e (some 16) (upon_e (some 17) (upon_e (some 18) (upon_v (some 19) fun v3 h3 => upon_v (some 20) fun v4 h4 => upon_n ?_)))
   go_simp
   clear h3
   obtain ⟨x', p, rfl, hp, hit, hok, hlow⟩ := h4
   have HP := hid hp; have HIT := hid hit; have HOK := hid hok; have HLOW := hid hlow
   have HO1 := hid (HO5.out.below hg)
   have HB1 := hid (HB.out.below hg)
   have HV1 := hid (HV5.out.below hg)
   have hold : ∀ k, so.v.ownBlock = some k → k < z := fun k hk => by have := (HO5.out.own.lt k hk).2; have := HZ.out; omega
   have HOLD := hid hold
   have HGZ : Hid (z ≤ w1.heap.size) := by show _ ≤ _; rw [← HZ.out]; exact hg.size
   clear hp hit hok hlow hold hg HO5 HB HV5 HX5
   go_simp
   go_wp2_with (at_builtin; go_must (refine wpList_append_c rfl _ _ 25 rfl (b + 2) 27 i _ 5 72 Tryd.underlying25 hi hz0 hz1 hz2 rfl (by decide) (.slice so.a so.n so.c) so.n _ rfl HO1.out.own _ 1 _ x'.arr.toList rfl (RdC.of_block HP.out) (by have := itm_one [x']; simpa [itmCells, ItV.cells] using this) (fun hx => by cases hx) (by unfold maxLen; have := HS.out; omega) (by have := HS.out; omega) (by have := HB1.out.size; omega) ?_); go_loud (intro a' c' w7 hown hgw hfr; have HO7 := hid hown; have HG7 := hid hgw; have HF7 := hid hfr; have HCH : Hid (Chg so.v.ownBlock.toList w1 w7) := (Chg.refl _ w1).grown HG7.out (fun k hk => .inl (by rw [hk]; simp)); have HB7 := hid (HB1.out.chg HCH.out (fun k hk => by rcases Nat.lt_or_ge k (b + 2) with h' | h'; exact absurd hk (HO1.out.ahead h'); exact h')); have hc4 := cell_of_block (j := 4) HB7.out.res (ar4 _); have hfz : ∀ j, w7.frozen? ⟨b + 1, j, none⟩ = false := (fun j => frozen_of_block HB7.out.res); clear hown hgw hfr))
   have HSN := hid HS.out
   have ho7 : OwnIt 27 w7 (b + 2) (b + 2) ⟨a', so.n + 1, c'⟩ (lo ++ [x']) :=
    HO1.out.app (Below.refl _ _) x' HOK.out (fun k hk he => by have := HOLD.out k he; have := HLOW.out k hk; omega) (fun k hk => by have := HLOW.out k hk; have := HZ.out; have := HBZ.out; omega) (by rw [itm_app]; simpa [itmCells, ItV.cells] using HO7.out) HG7.out HF7.out
   have hset : Chg [b + 1] w7 (w7.setCell ⟨b + 1, 4, none⟩ (.slice a' (so.n + 1) c')) := (Chg.refl [b + 1] w7).setCell (.inl (by simp)) _
   have hb8 : Bx2 27 27 w _ b itZ.arr (ItV.arr { tag := tag, typ := 1, ks := ⟨a', so.n + 1, c'⟩, kids := lo ++ [x'] }) := HB7.out.set2 4 (.slice a' (so.n + 1) c')
   have ho8 := ho7.chg hset (fun k hk hm => by have := (ho7.own.lt k hk).1; have := List.mem_singleton.1 hm; omega) (fun x hx k hk hm => by have := ho7.low x hx k hk; have := List.mem_singleton.1 hm; omega)
   have hv8 := ItV.ok.keep hset (ItV.ok.keep HCH.out HV1.out (fun k hk hm => by rcases Nat.lt_or_ge k (b + 2) with h' | h'; exact HO1.out.ahead h' hm; have := HLT.out k hk; omega)) (fun k hk hm => by have := HLT.out k hk; have := List.mem_singleton.1 hm; omega)
   have hl7 : (lo ++ [x']).map ItV.it = (l.take (k + 1)).map ItV.it := by rw [HT.out, ← HL.out, List.map_append, List.map_cons, List.map_nil, HIT.out]
   have H7 := hid (And.intro ho8 (And.intro hb8 hv8))
   have HL7 := hid hl7
   clear ho7 hset hb8 ho8 hv8 hl7 hc4 hfz HB7 HCH HO1 HB1 HV1
   go_roundw
   case rel =>
    have hs := HSN.out
    first
     | exact ⟨k + 1, ⟨a', so.n + 1, c'⟩, lo ++ [x'], by omega, by go_num, by simp; omega, HL7.out, H7.out⟩
     | ((repeat apply Exists.intro); exact ⟨⟨k + 1, ⟨a', so.n + 1, c'⟩, lo ++ [x'], by omega, by go_num, by simp; omega, HL7.out, H7.out⟩, rfl⟩)
   case measure => simp [intOf]; omega
  ·obtain rfl : k = s.n := by omega
   have HOK : Hid (ItV.ok wr { tag := tag, typ := 1, ks := so, kids := lo }) := ItV.ok_iff.2 ⟨SlC.nil _, HO.out.sl (by rw [HS.out]; exact hsn), HO.out.ok⟩
   have HF : Hid (∀ k ∈ ItV.foot { tag := tag, typ := 1, ks := so, kids := lo }, b + 2 ≤ k) := by
    intro k hk
    rcases ItV.mem_foot.1 hk with h' | h' | ⟨x, hx, h'⟩
    ·simp [Sl.blk] at h'
    ·exact HO.out.blk k h'
    ·exact HO.out.low x hx k h'
   have HIT : Hid (ItV.it { tag := tag, typ := 1, ks := so, kids := lo } = { tag := tag, typ := 1, kids := l.map ItV.it }) := by
    show _ = _
    rw [ItV.it_eq]
    simp only [HL.out]
    rw [List.take_of_length_le (by rw [HKL.out]; exact Nat.le_refl _)]
   clear HV HO HL HS
   go_wp2_with (first | (refine wpList_load_row rfl 27 _ rfl (b + 1) rfl _ _ _ _ B.out.res Tryd.underlying27 rfl iSize ?_) | (refine wpList_store_obj rfl 27 _ _ rfl b rfl _ rfl _ _ B.out.box rfl iSize (arr_one _) ?_; intro w10 hb10 hc10 hs10; have HB10 := hid hb10; have HC10 := hid hc10; clear hb10 hc10 hs10))
   refine bodyPost_ret (results_cell_row rfl _ _ b _ _ _ _ rfl HB10.out Tryd.underlying27 rfl iSize) rfl ?_
   refine ⟨_, rfl, HIT.out, ItV.ok.keep HC10.out HOK.out (fun k hk hm => by have := HF.out k hk; have := List.mem_singleton.1 hm; omega), fun k hk => by have := HF.out k hk; rw [HBE.out]; omega, ?_⟩
   rw [HBE.out]
   exact B.out.bel.trans (HC10.out.below (fun k hk => by rw [List.mem_singleton.1 hk]; exact Nat.le_refl _) (by have := B.out.size; omega))
theorem paySome_any (s : Sl) (l : List ItV) (w : World) (hs : SlR w s 5 (itmCells l)) (hl : ∀ x ∈ l, x.ok w) : Calls Tryd.prog 41 #[.slice s.a s.n s.c] w fun e w' => ∃ (so : Sl) (lo : List ItV), e = .returned (.slice so.a so.n so.c) ∧ lo.map ItV.it = (l.filter fun x => x.tag != 0).map ItV.it ∧ OwnIt 27 w' w.heap.size w.heap.size so lo ∧ Below w.heap.size w w' := by
 obtain ⟨i, hi, hz0, hz1, hz2⟩ := info_parts iInfo
 have hsn := hs.sm
 have HV := hid (show ItV.ok w { ks := s, kids := l } from ItV.ok_iff.2 ⟨SlC.nil w, hs, hl⟩)
 have HKL := hid hs.klen
 clear hs hl
 generalize hbe : w.heap.size = b
 have HBE := hid hbe; clear hbe
 go_enter Tryd.func41, Tryd.ntmps41
 go_wp2_with fail
 go_loopw [3, 8] (fun u y wr => ∃ (k : Nat) (so : Sl) (lo : List ItV), k ≤ s.n ∧ y = .int .i64 k ∧ u = .slice so.a so.n so.c ∧ so.n ≤ k ∧ lo.map ItV.it = ((l.take k).filter fun x => x.tag != 0).map ItV.it ∧ OwnIt 27 wr b b so lo ∧ Below b w wr ∧ ItV.ok wr { ks := s, kids := l }) (fun _ y _ => s.n - (intOf y).toNat)
 case atStart => exact ⟨0, {}, [], Nat.zero_le _, rfl, rfl, Nat.le_refl _, by simp, OwnIt.nil _ _ _ _, Below.refl _ _, HV.out⟩
 case round =>
  have HLT := hid HV.out.lt
  rw [HBE.out] at HLT
  clear HV
  obtain ⟨k, so, lo, hk, rfl, rfl, hs, hl, ho, hb, hv⟩ := hrel
  have HO := hid ho; have B := hid hb; have HV := hid hv; have HL := hid hl; have HS := hid hs
  clear hl ho hb hv hs
  by_cases hlt : k < s.n
  ·obtain ⟨bx, ox, x, hax, hx, hrow⟩ := (ItV.ok_iff.1 HV.out).2.1.row hlt
   obtain ⟨sa, sn, sc⟩ := s
   simp only at hax
   subst hax
   simp only at hx hlt hk hsn HKL HLT HV
   have hmem : x ∈ l := List.mem_of_getElem? hx
   have HX := hid ((ItV.ok_iff.1 HV.out).2.2 x hmem)
   have HT : Hid (((l.take (k + 1)).filter fun x => x.tag != 0).map ItV.it = ((l.take k).filter fun x => x.tag != 0).map ItV.it ++ (if x.tag != 0 then [x.it] else [])) := by
    show _ = _
    rw [List.take_add_one, hx, List.filter_append, List.map_append]
    congr 1
    cases h : (x.tag != 0) <;> simp [h]
   have HR := hid hrow
   clear hx hmem hrow
   go_upto_region 5 with (first | (refine wpList_load_mid rfl 27 _ rfl bx (ox + k * 5) rfl x.arr.toList _ HR.out Tryd.underlying27 rfl iSize ?_; simp only [Array.toArray_toList]) | (refine wpList_alloc_obj rfl 27 rfl _ iZero ?_) | (refine wpList_store_obj rfl 27 _ _ rfl wr.heap.size rfl _ rfl _ _ (block_new wr _) rfl iSize (arr_one x) ?_; intro w5 hb5 hc5 hs5; have HB5 := hid hb5; have HC5 := hid hc5; have HS5 := hid hs5; clear hb5 hc5 hs5))
   have hbel : Below wr.heap.size wr w5 := ((Below.refl _ wr).alloc (Nat.le_refl _) _).trans (HC5.out.below (fun k hk => by rw [List.mem_singleton.1 hk]; exact Nat.le_refl _) (by simp))
   have HZW : Hid (b ≤ wr.heap.size) := by show _ ≤ _; rw [← HBE.out]; exact B.out.size
   have HB := hid (B.out.trans (hbel.mono HZW.out)); have HO5 := hid (HO.out.below hbel); have HV5 := hid (HV.out.below hbel); have HX5 := hid (HX.out.below hbel)
   have HZ5 := hid (Nat.le_trans HZW.out hbel.size)
   clear hbel HC5 HS5 HR B HO HV HX HZW
   generalize wr.heap.size = c at *
   have hc0 := cell_of_block (j := 0) HB5.out (ar0 x)
   cases ht : (x.tag != 0) with
   | true =>
    have ht2 : (x.tag == 0) = false := by simpa using ht
    have HT2 : Hid (((l.take (k + 1)).filter fun x => x.tag != 0).map ItV.it = ((l.take k).filter fun x => x.tag != 0).map ItV.it ++ [x.it]) := by show _ = _; have := HT.out; rw [ht] at this; simpa using this
    clear ht HT
    go_upto_region 6 with (fail)
    clear hc0 ht2
    go_wp2_with (refine wpList_load_row rfl 27 _ rfl c rfl _ _ _ _ HB5.out Tryd.underlying27 rfl iSize ?_)
    refine (payCopied_any x _ HX5.out).mono ?_
    rintro e w6 ⟨x', rfl, hit, hok, hlow, hb6⟩
    have HIT := hid hit; have HOK := hid hok; have HB6 := hid hb6
    have HLOW := hid (fun k hk => Nat.le_trans HZ5.out (hlow k hk))
    have HNEW := hid hlow
    clear hit hok hb6 hlow
    go_wp2_with (first | (refine wpList_build_item rfl 25 27 _ rfl x' rfl i Tryd.underlying25 hi hz0 hz1 ?_) | (at_builtin; go_must (refine wpList_append_c rfl _ _ 25 rfl b 27 i _ 5 72 Tryd.underlying25 hi hz0 hz1 hz2 rfl (by decide) (.slice so.a so.n so.c) so.n _ rfl ((HO5.out.below HB6.out).below ((Below.refl _ _).alloc (Nat.le_refl _) (.cells x'.arr 27))).own _ 1 _ x'.cells rfl (RdC.new _ _ _ _ x'.cells (by simp [ItV.cells]) 5 rfl _ rfl) (by have := itm_one [x']; simpa [itmCells] using this) (fun hx => by cases hx) (by unfold maxLen; have := HS.out; omega) (by have := HS.out; omega) (by have := HZ5.out; have := HB6.out.size; simp; omega) ?_); go_loud (intro a' c' w7 hown hgw hfr; have HO7 := hid hown; have HG7 := hid hgw; have HF7 := hid hfr; clear hown hgw hfr)))
    have HSN := hid HS.out
    have ho6 := HO5.out.below HB6.out
    have hch : Chg so.v.ownBlock.toList w6 w7 := ((Chg.refl _ w6).alloc _).grown HG7.out (fun k hk => .inl (by rw [hk]; simp))
    have hlowb : ∀ k ∈ so.v.ownBlock.toList, b ≤ k := fun k hk => by
     rcases Nat.lt_or_ge k b with h' | h'
     ·exact absurd hk (ho6.ahead h')
     ·exact h'
    have hold : ∀ k, so.v.ownBlock = some k → k < w5.heap.size := fun k hk => (HO5.out.own.lt k hk).2
    have ho7 : OwnIt 27 w7 b b ⟨a', so.n + 1, c'⟩ (lo ++ [x']) :=
     ho6.app ((Below.refl _ _).alloc (Nat.le_refl _) _) x' HOK.out (fun k hk he => by have := hold k he; have := HNEW.out k hk; omega) HLOW.out (by rw [itm_app]; simpa [itmCells] using HO7.out) HG7.out HF7.out
    have hb7 : Below b w w7 := (HB.out.trans (HB6.out.mono HZ5.out)).trans (hch.below hlowb (by have := HZ5.out; have := HB6.out.size; omega))
    have hv7 : ItV.ok w7 _ := ItV.ok.keep hch (HV5.out.below HB6.out) (fun k hk hm => by have := hlowb k hm; have := HLT.out k hk; omega)
    have hl7 : (lo ++ [x']).map ItV.it = ((l.take (k + 1)).filter fun x => x.tag != 0).map ItV.it := by rw [HT2.out, ← HL.out, List.map_append, List.map_cons, List.map_nil, HIT.out]
    have H7 := hid (And.intro ho7 (And.intro hb7 hv7))
    have HL7 := hid hl7
    clear ho6 hch hlowb hold ho7 hb7 hv7 hl7
    go_roundw
    case rel =>
     have hs := HSN.out
     first
      | exact ⟨k + 1, ⟨a', so.n + 1, c'⟩, lo ++ [x'], by omega, by go_num, rfl, by simp; omega, HL7.out, H7.out⟩
      | ((repeat apply Exists.intro); exact ⟨⟨k + 1, ⟨a', so.n + 1, c'⟩, lo ++ [x'], by omega, by go_num, rfl, by simp; omega, HL7.out, H7.out⟩, rfl⟩)
    case measure => simp [intOf]; omega
   | false =>
    have ht2 : (x.tag == 0) = true := by simpa using ht
    have HT2 : Hid (((l.take (k + 1)).filter fun x => x.tag != 0).map ItV.it = ((l.take k).filter fun x => x.tag != 0).map ItV.it) := by show _ = _; have := HT.out; rw [ht] at this; simpa using this
    clear ht HT
    go_wp2_with fail
    go_roundw
    case rel =>
     have hs := HS.out
     have h1 := HL.out
     rw [← HT2.out] at h1
     first
      | exact ⟨k + 1, so, lo, by omega, by go_num, rfl, by omega, h1, HO5.out, HB.out, HV5.out⟩
      | ((repeat apply Exists.intro); exact ⟨⟨k + 1, so, lo, by omega, by go_num, rfl, by omega, h1, HO5.out, HB.out, HV5.out⟩, rfl⟩)
    case measure => simp [intOf]; omega
  ·obtain rfl : k = s.n := by omega
   have HL2 : Hid (lo.map ItV.it = (l.filter fun x => x.tag != 0).map ItV.it) := by
    have h1 := HL.out
    rwa [List.take_of_length_le (by rw [HKL.out]; exact Nat.le_refl _)] at h1
   go_wp2_with fail
   go_ret
   exact ⟨so, lo, rfl, HL2.out, HO.out, B.out⟩
end Go.Proofs.YtbnbofooofedkaaDoor
