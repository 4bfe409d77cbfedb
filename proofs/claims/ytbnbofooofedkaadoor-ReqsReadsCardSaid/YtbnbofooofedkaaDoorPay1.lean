/- Makers of items: Text, Bytes, Number of pay and of the reference. -/
import Derived.Test.YtbnbofooofedkaaDoorItem4
import Derived.Lib.ConvBytes
namespace Go.Proofs.YtbnbofooofedkaaDoor
open Go.RowKit
set_option linter.unusedVariables false
set_option linter.unusedSimpArgs false
set_option maxRecDepth 100000
set_option maxHeartbeats 1600000
theorem bytesW_below (w : World) (e : TypeId) (s : ByteArray) : Below w.heap.size w (Lib.bytesWorld w e s) :=
 ⟨rfl, rfl, rfl, by rw [Lib.bytesWorld_size]; omega, fun k hk => Lib.bytesWorld_at_old w e s k hk⟩
theorem bytesW_slC (w : World) (e : TypeId) (s : ByteArray) (h : s.size ≤ 140737488355328) (c : Nat) : SlC (Lib.bytesWorld w e s) ⟨some ⟨w.heap.size, 0, none⟩, s.size, c⟩ (s.data.toList.map B8) := by
 refine ⟨⟨by simp, fun j hj => ⟨w.heap.size, 0, rfl, fun i u hu => ?_⟩⟩, by simp, h, fun k hk => ?_⟩
 ·rw [List.getElem?_map] at hu
  cases hq : s.data.toList[i]? with
  | none => rw [hq] at hu; cases hu
  | some y =>
   rw [hq] at hu
   simp only [Option.map_some, Option.some.injEq] at hu
   subst hu
   have hi : i < s.size := by have := (List.getElem?_eq_some_iff.1 hq).1; simpa using this
   rw [Nat.zero_add, Lib.bytesWorld_cell w e s i hi, List.getD_eq_getElem?_getD, hq]
   rfl
 ·simp [Sl.blk] at hk; rw [hk, Lib.bytesWorld_size]; omega
/-- A made item: what is told of it. -/
def Made (it : Itm) (w : World) (e : Ending) (w' : World) : Prop :=
 ∃ v : ItV, e = .returned (.agg v.arr) ∧ v.it = it ∧ v.ok w' ∧ (∀ k ∈ v.foot, w.heap.size ≤ k) ∧ Below w.heap.size w w'
theorem it_flat (t y i : Int) (d : List UInt8) (ds : Sl) : ItV.it { tag := t, typ := y, int := i, data := d, ds := ds } = { tag := t, typ := y, int := i, data := d } := by rw [ItV.it_eq]; rfl
theorem ok_flat {w : World} {t y i : Int} {d : List UInt8} {ds : Sl} (h : SlC w ds (d.map B8)) : ItV.ok w { tag := t, typ := y, int := i, data := d, ds := ds } := ItV.ok_iff.2 ⟨h, SlR.nil w 5, by simp⟩
theorem foot_flat {t y i : Int} {d : List UInt8} {ds : Sl} {k : Nat} (h : k ∈ ItV.foot { tag := t, typ := y, int := i, data := d, ds := ds }) : k ∈ ds.blk := by
 rcases ItV.mem_foot.1 h with h' | h' | ⟨x, hx, _⟩
 ·exact h'
 ·simp [Sl.blk] at h'
 ·simp at hx
theorem payNumber_any (t k n : Int) (w : World) : Calls Tryd.prog 39 #[.int .i64 t, .int .i64 k, .int .i64 n] w fun e w' => e = .returned (.agg (ItV.arr { tag := t, typ := k, int := n })) ∧ Below w.heap.size w w' := by
 generalize hbe : w.heap.size = b
 have HBE := hid hbe; clear hbe
 go_enter Tryd.func39, Tryd.ntmps39
 go_upto_region 1 with (refine wpList_alloc_obj rfl 27 rfl _ iZero ?_)
 go_simp
 have hbw : Below w.heap.size w (w.alloc (.cells itZ.arr 27)) := (Below.refl _ _).alloc (Nat.le_refl _) _
 have hb0 := block_new w (.cells itZ.arr 27)
 have hsz : (w.alloc (.cells itZ.arr 27)).heap.size = w.heap.size + 1 := by simp
 rw [HBE.out] at hbw hb0 hsz ⊢
 have HBW := hid hbw; have HB0 := hid hb0; have HSZ := hid hsz
 clear hbw hb0 hsz
 generalize w.alloc (.cells itZ.arr 27) = W at *
 have HB := HB0
 go_wp2_with (refine wpList_store_obj rfl 27 _ _ rfl b rfl (ItV.arr { tag := t, typ := k, int := n }) rfl _ _ HB.out rfl iSize (arr_one _) ?_; intro w10 hb10 hc10 hs10; have HB10 := hid hb10; have HC10 := hid hc10; clear hb10 hc10 hs10)
 refine bodyPost_ret (results_cell_row rfl _ _ b _ _ _ _ rfl HB10.out Tryd.underlying27 rfl iSize) rfl ?_
 exact ⟨rfl, HBW.out.trans (HC10.out.below (fun k hk => by rw [List.mem_singleton.1 hk]; exact Nat.le_refl _) (by rw [HSZ.out]; omega))⟩
theorem refNumber_any (t k n : Int) (w : World) : Calls Tryd.prog 45 #[.int .i64 t, .int .i64 k, .int .i64 n] w fun e w' => e = .returned (.agg (ItV.arr { tag := t, typ := k, int := n })) ∧ Below w.heap.size w w' := by
 generalize hbe : w.heap.size = b
 have HBE := hid hbe; clear hbe
 go_enter Tryd.func45, Tryd.ntmps45
 go_upto_region 1 with (refine wpList_alloc_obj rfl 27 rfl _ iZero ?_)
 go_simp
 have hbw : Below w.heap.size w (w.alloc (.cells itZ.arr 27)) := (Below.refl _ _).alloc (Nat.le_refl _) _
 have hb0 := block_new w (.cells itZ.arr 27)
 have hsz : (w.alloc (.cells itZ.arr 27)).heap.size = w.heap.size + 1 := by simp
 rw [HBE.out] at hbw hb0 hsz ⊢
 have HBW := hid hbw; have HB0 := hid hb0; have HSZ := hid hsz
 clear hbw hb0 hsz
 generalize w.alloc (.cells itZ.arr 27) = W at *
 have HB := HB0
 go_wp2_with (refine wpList_store_obj rfl 27 _ _ rfl b rfl (ItV.arr { tag := t, typ := k, int := n }) rfl _ _ HB.out rfl iSize (arr_one _) ?_; intro w10 hb10 hc10 hs10; have HB10 := hid hb10; have HC10 := hid hc10; clear hb10 hc10 hs10)
 refine bodyPost_ret (results_cell_row rfl _ _ b _ _ _ _ rfl HB10.out Tryd.underlying27 rfl iSize) rfl ?_
 exact ⟨rfl, HBW.out.trans (HC10.out.below (fun k hk => by rw [List.mem_singleton.1 hk]; exact Nat.le_refl _) (by rw [HSZ.out]; omega))⟩
theorem handNum_any (t k n : Int) (w : World) : Calls Tryd.prog 52 #[.int .i64 t, .int .i64 k, .int .i64 n] w fun e w' => e = .returned (.agg (ItV.arr { tag := t, typ := k, int := n })) ∧ Below w.heap.size w w' := by
 generalize hbe : w.heap.size = b
 have HBE := hid hbe; clear hbe
 go_enter Tryd.func52, Tryd.ntmps52
 go_upto_region 1 with (refine wpList_alloc_obj rfl 27 rfl _ iZero ?_)
 go_simp
 have hbw : Below w.heap.size w (w.alloc (.cells itZ.arr 27)) := (Below.refl _ _).alloc (Nat.le_refl _) _
 have hb0 := block_new w (.cells itZ.arr 27)
 have hsz : (w.alloc (.cells itZ.arr 27)).heap.size = w.heap.size + 1 := by simp
 rw [HBE.out] at hbw hb0 hsz ⊢
 have HBW := hid hbw; have HB0 := hid hb0; have HSZ := hid hsz
 clear hbw hb0 hsz
 generalize w.alloc (.cells itZ.arr 27) = W at *
 have HB := HB0
 go_wp2_with (refine wpList_store_obj rfl 27 _ _ rfl b rfl (ItV.arr { tag := t, typ := k, int := n }) rfl _ _ HB.out rfl iSize (arr_one _) ?_; intro w10 hb10 hc10 hs10; have HB10 := hid hb10; have HC10 := hid hc10; clear hb10 hc10 hs10)
 refine bodyPost_ret (results_cell_row rfl _ _ b _ _ _ _ rfl HB10.out Tryd.underlying27 rfl iSize) rfl ?_
 exact ⟨rfl, HBW.out.trans (HC10.out.below (fun k hk => by rw [List.mem_singleton.1 hk]; exact Nat.le_refl _) (by rw [HSZ.out]; omega))⟩
theorem handText_any (t : Int) (s : ByteArray) (w : World) (hs : s.size ≤ 140737488355328) : Calls Tryd.prog 50 #[.int .i64 t, .string s] w (Made { tag := t, typ := 7, data := s.data.toList } w) := by
 have kc := fun w => Lib.run_convert_string_bytes (P := Tryd.prog) w 9 24 5 s Tryd.underlying9 Tryd.underlying24 Tryd.underlying5
 generalize hbe : w.heap.size = b
 have HBE := hid hbe; clear hbe
 go_enter Tryd.func50, Tryd.ntmps50
 go_upto_region 1 with (refine wpList_alloc_obj rfl 27 rfl _ iZero ?_)
 go_simp
 have hbw : Below w.heap.size w (w.alloc (.cells itZ.arr 27)) := (Below.refl _ _).alloc (Nat.le_refl _) _
 have hb0 := block_new w (.cells itZ.arr 27)
 have hsz : (w.alloc (.cells itZ.arr 27)).heap.size = w.heap.size + 1 := by simp
 rw [HBE.out] at hbw hb0 hsz ⊢
 have HBW := hid hbw; have HB0 := hid hb0; have HSZ := hid hsz
 clear hbw hb0 hsz
 generalize w.alloc (.cells itZ.arr 27) = W at *
 have hb1 := bytesW_below W 5 s
 have HB := hid ((hb1.block _ (by rw [HSZ.out]; omega)).trans HB0.out)
 have HS := hid (bytesW_slC W 5 s hs (grownCap W s.size 0 5))
 have HB1 := hid (HBW.out.trans (hb1.mono (by rw [HSZ.out]; omega)))
 have HZ1 := hid hb1.size
 clear hb1
 have HKC := hid (kc W); clear kc
 have kc := HKC.out
 generalize grownCap W s.size 0 5 = cp at *
 generalize Lib.bytesWorld W 5 s = W2 at *
 obtain ⟨z, hz⟩ : ∃ z, W.heap.size = z := ⟨_, rfl⟩
 have HZ := hid hz
 rw [hz] at kc HS
 clear hz
 go_wp2_with (refine wpList_store_obj rfl 27 _ _ rfl b rfl (ItV.arr { tag := t, typ := 7, data := s.data.toList, ds := ⟨some ⟨z, 0, none⟩, s.size, cp⟩ }) rfl _ _ HB.out rfl iSize (arr_one _) ?_; intro w10 hb10 hc10 hs10; have HB10 := hid hb10; have HC10 := hid hc10; clear hb10 hc10 hs10)
 refine bodyPost_ret (results_cell_row rfl _ _ b _ _ _ _ rfl HB10.out Tryd.underlying27 rfl iSize) rfl ?_
 have hzb : b + 1 = z := by rw [← HZ.out, HSZ.out]
 refine ⟨_, rfl, it_flat _ _ _ _ _, ItV.ok.keep HC10.out (ok_flat HS.out) (fun k hk hm => ?_), fun k hk => ?_, ?_⟩
 ·have := foot_flat hk; simp [Sl.blk] at this; have := List.mem_singleton.1 hm; omega
 ·have := foot_flat hk; simp [Sl.blk] at this; rw [HBE.out]; omega
 ·rw [HBE.out]; exact HB1.out.trans (HC10.out.below (fun k hk => by rw [List.mem_singleton.1 hk]; exact Nat.le_refl _) (by have := HZ1.out; rw [HSZ.out] at this; omega))
theorem refBytes_any (t : Int) (s : Sl) (w : World) : Calls Tryd.prog 46 #[.int .i64 t, .slice s.a s.n s.c] w fun e w' => e = .returned (.agg (ItV.arr { tag := t, typ := 8, ds := s })) ∧ Below w.heap.size w w' := by
 generalize hbe : w.heap.size = b
 have HBE := hid hbe; clear hbe
 go_enter Tryd.func46, Tryd.ntmps46
 go_upto_region 1 with (refine wpList_alloc_obj rfl 27 rfl _ iZero ?_)
 go_simp
 have hbw : Below w.heap.size w (w.alloc (.cells itZ.arr 27)) := (Below.refl _ _).alloc (Nat.le_refl _) _
 have hb0 := block_new w (.cells itZ.arr 27)
 have hsz : (w.alloc (.cells itZ.arr 27)).heap.size = w.heap.size + 1 := by simp
 rw [HBE.out] at hbw hb0 hsz ⊢
 have HBW := hid hbw; have HB0 := hid hb0; have HSZ := hid hsz
 clear hbw hb0 hsz
 generalize w.alloc (.cells itZ.arr 27) = W at *
 have HB := HB0
 go_wp2_with (refine wpList_store_obj rfl 27 _ _ rfl b rfl (ItV.arr { tag := t, typ := 8, ds := s }) rfl _ _ HB.out rfl iSize (arr_one _) ?_; intro w10 hb10 hc10 hs10; have HB10 := hid hb10; have HC10 := hid hc10; clear hb10 hc10 hs10)
 refine bodyPost_ret (results_cell_row rfl _ _ b _ _ _ _ rfl HB10.out Tryd.underlying27 rfl iSize) rfl ?_
 exact ⟨rfl, HBW.out.trans (HC10.out.below (fun k hk => by rw [List.mem_singleton.1 hk]; exact Nat.le_refl _) (by rw [HSZ.out]; omega))⟩
theorem refOf_any (t : Int) (s : Sl) (w : World) : Calls Tryd.prog 44 #[.int .i64 t, .slice s.a s.n s.c] w fun e w' => e = .returned (.agg (ItV.arr { tag := t, typ := 1, ks := s })) ∧ Below w.heap.size w w' := by
 generalize hbe : w.heap.size = b
 have HBE := hid hbe; clear hbe
 go_enter Tryd.func44, Tryd.ntmps44
 go_upto_region 1 with (refine wpList_alloc_obj rfl 27 rfl _ iZero ?_)
 go_simp
 have hbw : Below w.heap.size w (w.alloc (.cells itZ.arr 27)) := (Below.refl _ _).alloc (Nat.le_refl _) _
 have hb0 := block_new w (.cells itZ.arr 27)
 have hsz : (w.alloc (.cells itZ.arr 27)).heap.size = w.heap.size + 1 := by simp
 rw [HBE.out] at hbw hb0 hsz ⊢
 have HBW := hid hbw; have HB0 := hid hb0; have HSZ := hid hsz
 clear hbw hb0 hsz
 generalize w.alloc (.cells itZ.arr 27) = W at *
 have HB := HB0
 go_wp2_with (refine wpList_store_obj rfl 27 _ _ rfl b rfl (ItV.arr { tag := t, typ := 1, ks := s }) rfl _ _ HB.out rfl iSize (arr_one _) ?_; intro w10 hb10 hc10 hs10; have HB10 := hid hb10; have HC10 := hid hc10; clear hb10 hc10 hs10)
 refine bodyPost_ret (results_cell_row rfl _ _ b _ _ _ _ rfl HB10.out Tryd.underlying27 rfl iSize) rfl ?_
 exact ⟨rfl, HBW.out.trans (HC10.out.below (fun k hk => by rw [List.mem_singleton.1 hk]; exact Nat.le_refl _) (by rw [HSZ.out]; omega))⟩
theorem handOf_any (t : Int) (s : Sl) (w : World) : Calls Tryd.prog 35 #[.int .i64 t, .slice s.a s.n s.c] w fun e w' => e = .returned (.agg (ItV.arr { tag := t, typ := 1, ks := s })) ∧ Below w.heap.size w w' := by
 generalize hbe : w.heap.size = b
 have HBE := hid hbe; clear hbe
 go_enter Tryd.func35, Tryd.ntmps35
 go_upto_region 1 with (refine wpList_alloc_obj rfl 27 rfl _ iZero ?_)
 go_simp
 have hbw : Below w.heap.size w (w.alloc (.cells itZ.arr 27)) := (Below.refl _ _).alloc (Nat.le_refl _) _
 have hb0 := block_new w (.cells itZ.arr 27)
 have hsz : (w.alloc (.cells itZ.arr 27)).heap.size = w.heap.size + 1 := by simp
 rw [HBE.out] at hbw hb0 hsz ⊢
 have HBW := hid hbw; have HB0 := hid hb0; have HSZ := hid hsz
 clear hbw hb0 hsz
 generalize w.alloc (.cells itZ.arr 27) = W at *
 have HB := HB0
 go_wp2_with (refine wpList_store_obj rfl 27 _ _ rfl b rfl (ItV.arr { tag := t, typ := 1, ks := s }) rfl _ _ HB.out rfl iSize (arr_one _) ?_; intro w10 hb10 hc10 hs10; have HB10 := hid hb10; have HC10 := hid hc10; clear hb10 hc10 hs10)
 refine bodyPost_ret (results_cell_row rfl _ _ b _ _ _ _ rfl HB10.out Tryd.underlying27 rfl iSize) rfl ?_
 exact ⟨rfl, HBW.out.trans (HC10.out.below (fun k hk => by rw [List.mem_singleton.1 hk]; exact Nat.le_refl _) (by rw [HSZ.out]; omega))⟩
/-- What Bytes makes: its data lie in a row of its own. -/
def MadeB (t : Int) (l : List UInt8) (w : World) (e : Ending) (w' : World) : Prop :=
 ∃ s : Sl, e = .returned (.agg (ItV.arr { tag := t, typ := 8, data := l, ds := s })) ∧ s.n = l.length ∧ w'.ownsRow w.heap.size 5 1 (.slice s.a s.n s.c) s.n (l.map B8) ∧ Below w.heap.size w w'
theorem payBytes_any (t : Int) (s : Sl) (l : List UInt8) (w : World) (h : SlC w s (l.map B8)) : Calls Tryd.prog 43 #[.int .i64 t, .slice s.a s.n s.c] w (MadeB t l w) := by
 obtain ⟨i, hi, hz0, hz1, hz2⟩ := info_parts oInfoB
 have HS := hid h
 have hsm := h.sm
 clear h
 generalize hbe : w.heap.size = b
 have HBE := hid hbe; clear hbe
 go_enter Tryd.func43, Tryd.ntmps43
 go_upto_region 1 with (refine wpList_alloc_obj rfl 27 rfl _ iZero ?_)
 go_simp
 have hbw : Below w.heap.size w (w.alloc (.cells itZ.arr 27)) := (Below.refl _ _).alloc (Nat.le_refl _) _
 have hb0 := block_new w (.cells itZ.arr 27)
 have hsz : (w.alloc (.cells itZ.arr 27)).heap.size = w.heap.size + 1 := by simp
 have HS1 := hid (HS.out.below hbw)
 rw [HBE.out] at hbw hb0 hsz ⊢
 have HBW := hid hbw; have HB0 := hid hb0; have HSZ := hid hsz
 clear hbw hb0 hsz
 generalize w.alloc (.cells itZ.arr 27) = W at *
 clear HS
 go_wp2_with (first | (at_builtin; go_must (refine wpList_append_bytes rfl _ _ 24 rfl (b + 1) 5 i _ Tryd.underlying24 hi hz0 hz1 hz2 rfl _ 0 [] rfl (World.ownsRow_made W #[] 0 (by rw [HSZ.out]; exact Nat.le_refl _) (by unfold maxLen; omega) rfl) _ _ _ l rfl (HS1.out.below ((Below.refl _ _).alloc (Nat.le_refl _) _)).rd.rdB HS1.out.no (by omega) (by have := HSZ.out; simp; omega) ?_); go_loud (intro a' c' w2 hown hg; have HO := hid hown; have HG := hid hg; clear hown hg; have ho := HO.out; have hch : Chg [] W w2 := ((Chg.refl [] W).alloc _).grown HG.out (fun k hk => .inr (by have hk2 : some W.heap.size = some k := hk; cases hk2; exact Nat.le_refl _)); have hbw2 : Below W.heap.size W w2 := hch.below (by simp) (Nat.le_refl _); have HB := hid ((hbw2.block _ (by rw [HSZ.out]; omega)).trans HB0.out); have HB2 := hid (HBW.out.trans (hbw2.mono (by rw [HSZ.out]; omega))); have HZ2 := hid hbw2.size; rw [List.nil_append, Nat.zero_add] at ho; have HO2 := hid ho; clear ho hch hbw2 HO HG)) | (refine wpList_store_obj rfl 27 _ _ rfl b rfl (ItV.arr { tag := t, typ := 8, data := l, ds := ⟨a', s.n, c'⟩ }) rfl _ _ HB.out rfl iSize (arr_one _) ?_; intro w10 hb10 hc10 hs10; have HB10 := hid hb10; have HC10 := hid hc10; clear hb10 hc10 hs10))
 refine bodyPost_ret (results_cell_row rfl _ _ b _ _ _ _ rfl HB10.out Tryd.underlying27 rfl iSize) rfl ?_
 have hc := HC10.out
 refine ⟨⟨a', s.n, c'⟩, rfl, ?_, ?_, ?_⟩
 ·have := HS1.out.rd.len; simp at this; exact this.symm
 ·rw [HBE.out]
  refine ownsRow_base (hc.owns HO2.out (fun k hk hm => ?_)) (fun k hk => ?_)
  ·have := (HO2.out.lt k hk).1; have := List.mem_singleton.1 hm; omega
  ·have := (HO2.out.lt k hk).1; omega
 ·rw [HBE.out]; exact HB2.out.trans (hc.below (fun k hk => by rw [List.mem_singleton.1 hk]; exact Nat.le_refl _) (by have := HZ2.out; rw [HSZ.out] at this; omega))
end Go.Proofs.YtbnbofooofedkaaDoor
