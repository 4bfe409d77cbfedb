/- ttlv.Kid, pay.copied. -/
import Derived.Test.YteenglgnakenmaaDoorItem2
namespace Go.Proofs.YteenglgnakenmaaDoor
open Go.RowKit
set_option linter.unusedVariables false
set_option linter.unusedSimpArgs false
set_option maxRecDepth 100000
set_option maxHeartbeats 1600000
theorem results_cell_tmp {P : Program} {fn : Func} {p q : Tmp} {ty : TypeId} (h : fn.results = #[.cell p ty, .tmp q]) (tmps : Array Value) (w : World) (g : Nat) (t : TypeId) (cs : Array Value) (fr : Nat × Nat) (d : TypeDesc)
    (hp : tmps.getD p undef = .pointer (some ⟨g, 0, none⟩)) (hg : w.heap[g]? = some (.cells cs t fr))
    (hu : P.underlying ty = some d) (hd : (match d with | .struct _ | .array _ _ => true | _ => false) = true) (hi : (P.info? ty).map (·.size) = some cs.size) (v : Value) (hv : tmps.getD q undef = v) :
    (results fn tmps).run P w = .ok (.tuple #[.agg cs, v]) w := by
  have hp' : tmps[p]?.getD undef = .pointer (some ⟨g, 0, none⟩) := by simpa using hp
  have hv' : tmps[q]?.getD undef = v := by simpa using hv
  simp [results, h, hp', hv', asAddr, run_loadVar_row w g t ty cs fr d hg hu hd hi]
theorem iBuild0 (w : World) : (Instr.build 30 #[]).run Tryd.prog w = .ok (.agg itZ.arr) w := by kernel_rfl
theorem iBuild4 (s : Sl) (l : List ItV) (w : World) : (Instr.build 30 #[(4, .slice s.a s.n s.c)]).run Tryd.prog w = .ok (.agg (ItV.arr { ks := s, kids := l })) w := by kernel_rfl
theorem find_take {α : Type} {p : α → Bool} {l : List α} {k : Nat} {x : α} (h : (l.take k).find? p = none) (hx : l[k]? = some x) : (p x = true → l.find? p = some x) ∧ (p x = false → (l.take (k + 1)).find? p = none) := by
  constructor
  · intro hp
    rw [← List.take_append_drop k l, List.find?_append, h]
    have : l.drop k = x :: l.drop (k + 1) := by
      rw [List.drop_eq_getElem_cons (List.getElem?_eq_some_iff.1 hx).1]
      congr 1
      exact (List.getElem?_eq_some_iff.1 hx).2
    rw [this]; simp [hp]
  · intro hp
    rw [List.take_add_one, hx, List.find?_append, h]; simp [hp]
def KidRes (v : ItV) (tag : Int) (w : World) (e : Ending) (w' : World) : Prop :=
  match v.kids.find? (fun x => x.tag == tag) with
  | some x => ∃ v' : ItV, e = .returned (.tuple #[.agg v'.arr, .bool true]) ∧ v'.it = x.it ∧ v'.ok w' ∧ (∀ k ∈ v'.foot, w.heap.size ≤ k) ∧ Below w.heap.size w w'
  | none => e = .returned (.tuple #[.agg itZ.arr, .bool false]) ∧ Below w.heap.size w w'
theorem kid_any (v : ItV) (tag : Int) (w : World) (hv : v.ok w) : Calls Tryd.prog 55 #[.agg v.arr, .int .i64 tag] w (KidRes v tag w) := by
  obtain ⟨i, hi, hz0, hz1, hz2⟩ := info_parts iInfo
  have HV := hid hv
  clear hv
  generalize hbe : w.heap.size = b
  have HBE := hid hbe; clear hbe
  go_enter Tryd.func55, Tryd.ntmps55
  go_upto_region 1 with (refine wpList_alloc_obj rfl 30 rfl _ iZero ?_)
  go_simp
  have B0 := hid (Bx2.start (T := 30) (T' := 30) (cs := v.arr) (zs := itZ.arr) (w := w) HBE.out)
  rw [HBE.out]
  have HV0 := hid (HV.out.below (((Below.refl _ w).alloc (Nat.le_refl _) (.cells v.arr 30)).alloc (by simp) (.cells itZ.arr 30)))
  generalize (w.alloc (.cells v.arr 30)).alloc (.cells itZ.arr 30) = W at *
  clear HV
  have hc4 := cell_of_block (j := 4) B0.out.box (ar4 _)
  obtain ⟨ka, hka⟩ : ∃ ka, v.ks.a = ka := ⟨_, rfl⟩
  rw [hka] at hc4
  have HKA := hid hka; clear hka
  have hnn : v.ks.n ≤ 1099511627776 := (ItV.ok_iff.1 HV0.out).2.1.sm
  go_wp2_with fail
  clear hc4
  go_loopw [11] (fun y wr => ∃ (k : Nat), k ≤ v.ks.n ∧ y = .int .i64 k ∧ (v.kids.take k).find? (fun x => x.tag == tag) = none ∧ Bx2 30 30 w wr b v.arr itZ.arr ∧ v.ok wr) (fun y _ => v.ks.n - (intOf y).toNat)
  case atStart => exact ⟨0, Nat.zero_le _, rfl, rfl, B0.out, HV0.out⟩
  case round =>
    clear B0 HV0
    obtain ⟨k, hk, rfl, hl, hb, hv⟩ := hrel
    have B := hid hb; have HV := hid hv; have HL := hid hl
    clear hl hb hv
    by_cases hlt : k < v.ks.n
    · obtain ⟨bx, ox, x, hax, hx, hrow⟩ := (ItV.ok_iff.1 HV.out).2.1.row hlt
      rw [HKA.out] at hax
      subst hax
      have hmem : x ∈ v.kids := List.mem_of_getElem? hx
      have HX := hid ((ItV.ok_iff.1 HV.out).2.2 x hmem)
      have HT := hid (find_take HL.out hx)
      have HR := hid hrow
      clear hx hmem hrow
      go_upto_region 4 with (first | (refine wpList_load_mid rfl 30 _ rfl bx (ox + k * 5) rfl x.arr.toList _ HR.out Tryd.underlying30 rfl iSize ?_; simp only [Array.toArray_toList]) | (refine wpList_alloc_obj rfl 30 rfl _ iZero ?_) | (refine wpList_store_obj rfl 30 _ _ rfl wr.heap.size rfl _ rfl _ _ (block_new wr _) rfl iSize (arr_one x) ?_; intro w5 hb5 hc5 hs5; have HB5 := hid hb5; have HC5 := hid hc5; have HS5 := hid hs5; clear hb5 hc5 hs5))
      have hbel : Below wr.heap.size wr w5 := ((Below.refl _ wr).alloc (Nat.le_refl _) _).trans (HC5.out.below (fun k hk => by rw [List.mem_singleton.1 hk]; exact Nat.le_refl _) (by simp))
      have HB := hid (B.out.below hbel); have HV5 := hid (HV.out.below hbel); have HX5 := hid (HX.out.below hbel)
      clear hbel HC5 HS5 HR B HV HX
      generalize wr.heap.size = c at *
      have hc0 := cell_of_block (j := 0) HB5.out (ar0 x)
      cases ht : (x.tag == tag) with
      | true =>
        have HF := hid (HT.out.1 ht)
        go_wp2_with (refine wpList_load_row rfl 30 _ rfl c rfl _ _ _ _ HB5.out Tryd.underlying30 rfl iSize ?_)
        refine (copied_any x _ HX5.out).mono ?_
        rintro e w6 ⟨x', rfl, hit, hok, hlow, hb6⟩
        have HIT := hid hit; have HOK := hid hok; have B6 := hid (HB.out.below hb6)
        have HLOW := hid (fun k hk => Nat.le_trans HB.out.size (hlow k hk))
        clear hit hok hb6 hlow hc0
        go_wp2_with (refine wpList_store_obj rfl 30 _ _ rfl (b + 1) rfl _ rfl _ _ B6.out.res rfl iSize (arr_one _) ?_; intro w10 hb10 hc10 hs10; have HB10 := hid hb10; have HC10 := hid hc10; clear hb10 hc10 hs10)
        refine bodyPost_ret (results_cell_tmp rfl _ _ (b + 1) _ _ _ _ rfl HB10.out Tryd.underlying30 rfl iSize _ rfl) rfl ?_
        unfold KidRes
        rw [HF.out]
        refine ⟨x', rfl, HIT.out, ItV.ok.keep HC10.out HOK.out (fun k hk hm => by have := HLOW.out k hk; have := List.mem_singleton.1 hm; omega), fun k hk => by have := HLOW.out k hk; rw [HBE.out]; omega, ?_⟩
        rw [HBE.out]
        exact B6.out.done HC10.out
      | false =>
        have HF := hid (HT.out.2 ht)
        go_wp2_with fail
        go_roundw
        case rel =>
          first
            | exact ⟨k + 1, by omega, by go_num, HF.out, HB.out, HV5.out⟩
            | ((repeat apply Exists.intro); exact ⟨⟨k + 1, by omega, by go_num, HF.out, HB.out, HV5.out⟩, rfl⟩)
        case measure => simp [intOf]; omega
    · obtain rfl : k = v.ks.n := by omega
      have HF : Hid (v.kids.find? (fun x => x.tag == tag) = none) := by
        have h1 := HL.out
        rw [List.take_of_length_le (by have := (ItV.ok_iff.1 HV.out).2.1.klen; omega)] at h1
        exact h1
      go_wp2_with (first | (refine wpList_build_obj rfl 30 _ rfl #[] rfl _ (iBuild0 _) ?_) | (refine wpList_store_obj rfl 30 _ _ rfl (b + 1) rfl itZ.arr rfl _ _ B.out.res rfl iSize (arr_one itZ) ?_; intro w10 hb10 hc10 hs10; have HB10 := hid hb10; have HC10 := hid hc10; clear hb10 hc10 hs10))
      refine bodyPost_ret (results_cell_tmp rfl _ _ (b + 1) _ _ _ _ rfl HB10.out Tryd.underlying30 rfl iSize _ rfl) rfl ?_
      unfold KidRes
      rw [HF.out]
      refine ⟨rfl, ?_⟩
      rw [HBE.out]
      exact B.out.done HC10.out
theorem payCopied_any (v : ItV) (w : World) (hv : v.ok w) : Calls Tryd.prog 34 #[.agg v.arr] w (Copied v w) := by
  obtain ⟨i, hi, hz0, hz1, hz2⟩ := info_parts iInfo
  have HV := hid hv
  clear hv
  generalize hbe : w.heap.size = b
  have HBE := hid hbe; clear hbe
  go_enter Tryd.func34, Tryd.ntmps34
  go_upto_region 1 with (refine wpList_alloc_obj rfl 30 rfl _ iZero ?_)
  go_simp
  have B0 := hid (Bx2.start (T := 30) (T' := 30) (cs := v.arr) (zs := itZ.arr) (w := w) HBE.out)
  rw [HBE.out]
  have HV0 := hid (HV.out.below (((Below.refl _ w).alloc (Nat.le_refl _) (.cells v.arr 30)).alloc (by simp) (.cells itZ.arr 30)))
  generalize (w.alloc (.cells v.arr 30)).alloc (.cells itZ.arr 30) = W at *
  clear HV
  have hb1 : Below W.heap.size W (W.alloc (.cells v.arr 30)) := (Below.refl _ _).alloc (Nat.le_refl _) _
  have B1 := hid (B0.out.below hb1)
  have hc0 := cell_of_block (j := 0) B1.out.box (ar0 _)
  have HO : Hid (OwnIt 30 (W.alloc (.cells v.arr 30)) W.heap.size 0 ⟨some ⟨W.heap.size, 0, none⟩, 1, 1⟩ [v]) := by
    refine ⟨⟨rfl, .inr ⟨W.heap.size, 1, v.arr, rfl, Nat.le_refl _, block_new _ _, Nat.le_refl _, by unfold maxLen; omega, rfl, by simp [itmCells, ItV.cells, ItV.arr]⟩⟩, fun x hx => ?_, fun x hx k hk he => ?_, fun x _ k _ => Nat.zero_le _⟩
    · rw [List.mem_singleton.1 hx]; exact HV0.out.below hb1
    · rw [List.mem_singleton.1 hx] at hk
      have := HV0.out.lt k hk
      simp [Sl.v, Value.ownBlock] at he
      omega
  go_wp2_with (first | (refine wpList_load_row rfl 30 _ rfl b rfl _ _ _ _ B0.out.box Tryd.underlying30 rfl iSize ?_) | (refine wpList_buildSlice rfl 28 30 1 _ rfl v.arr i _ Tryd.underlying28 hi hz0 (by rw [hz1]; decide) (by rw [hz1]; decide) (by rw [hz1]; kernel_rfl) ?_) | (refine wpList_build_obj rfl 30 _ rfl #[(4, .slice (some ⟨W.heap.size, 0, none⟩) 1 1)] rfl _ (iBuild4 ⟨some ⟨W.heap.size, 0, none⟩, 1, 1⟩ [v] _) ?_))
  have HK : Hid (ItV.ok (W.alloc (.cells v.arr 30)) { ks := ⟨some ⟨W.heap.size, 0, none⟩, 1, 1⟩, kids := [v] }) :=
    ItV.ok_iff.2 ⟨SlC.nil _, HO.out.sl (by simp), HO.out.ok⟩
  clear hb1 hc0
  refine (kid_any _ v.tag _ HK.out).mono ?_
  intro e w6 hres
  unfold KidRes at hres
  have hfd : List.find? (fun x : ItV => x.tag == v.tag) (ItV.kids { ks := ⟨some ⟨W.heap.size, 0, none⟩, 1, 1⟩, kids := [v] }) = some v := by simp
  rw [hfd] at hres
  obtain ⟨x', rfl, hit, hok, hlow, hb6⟩ := hres
  have HIT := hid hit; have HOK := hid hok; have B6 := hid (B1.out.below hb6)
  have HLOW := hid (fun k hk => Nat.le_trans B1.out.size (hlow k hk))
  clear hit hok hb6 hlow hfd HK HO B0 B1 HV0
  go_upto_region 2 with (first | (refine wpList_alloc_obj rfl 30 rfl _ iZero ?_) | (refine wpList_store_obj rfl 30 _ _ rfl w6.heap.size rfl _ rfl _ _ (block_new w6 _) rfl iSize (arr_one x') ?_; intro w7 hb7 hc7 hs7; have HB7 := hid hb7; have HC7 := hid hc7; clear hb7 hc7 hs7))
  have hbel : Below w6.heap.size w6 w7 := ((Below.refl _ w6).alloc (Nat.le_refl _) _).trans (HC7.out.below (fun k hk => by rw [List.mem_singleton.1 hk]; exact Nat.le_refl _) (by simp))
  have B7 := hid (B6.out.below hbel)
  have HOK7 := hid (HOK.out.below hbel)
  clear hbel HC7 HOK B6
  generalize w6.heap.size = c at *
  go_wp2_with (first | (refine wpList_load_row rfl 30 _ rfl c rfl _ _ _ _ HB7.out Tryd.underlying30 rfl iSize ?_) | (refine wpList_store_obj rfl 30 _ _ rfl (b + 1) rfl _ rfl _ _ B7.out.res rfl iSize (arr_one _) ?_; intro w10 hb10 hc10 hs10; have HB10 := hid hb10; have HC10 := hid hc10; clear hb10 hc10 hs10))
  refine bodyPost_ret (results_cell_row rfl _ _ (b + 1) _ _ _ _ rfl HB10.out Tryd.underlying30 rfl iSize) rfl ?_
  refine ⟨x', rfl, HIT.out, ItV.ok.keep HC10.out HOK7.out (fun k hk hm => by have := HLOW.out k hk; have := List.mem_singleton.1 hm; omega), fun k hk => by have := HLOW.out k hk; rw [HBE.out]; omega, ?_⟩
  rw [HBE.out]
  exact B7.out.done HC10.out
end Go.Proofs.YteenglgnakenmaaDoor
