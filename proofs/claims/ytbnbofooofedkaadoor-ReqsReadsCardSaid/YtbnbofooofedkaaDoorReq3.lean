/- reqs.right, batch, Right. -/
import Derived.Test.YtbnbofooofedkaaDoorReq
import Derived.Test.YtbnbofooofedkaaDoorFlds
namespace Go.Proofs.YtbnbofooofedkaaDoor
open Go.RowKit
set_option linter.unusedVariables false
set_option linter.unusedSimpArgs false
set_option maxRecDepth 100000
set_option maxHeartbeats 1600000
def rqZ : RqIV := {}
def rvZ : RqV := {}
theorem qSize : (Tryd.prog.info? 41).map (·.size) = some 8 := by kernel_rfl
theorem qZero : (Tryd.prog.info? 41).map (·.zero) = some (some (.agg rqZ.arr)) := by kernel_rfl
theorem qInfo : (Tryd.prog.info? 41).map (fun i => (i.zero, i.size, i.bytes)) = some (some (.agg rqZ.arr), 8, 112) := by kernel_rfl
theorem vSize : (Tryd.prog.info? 32).map (·.size) = some 5 := by kernel_rfl
theorem vZero : (Tryd.prog.info? 32).map (·.zero) = some (some (.agg rvZ.arr)) := by kernel_rfl
theorem qarr_one (v : RqIV) : v.arr.all (·.oneCell') = true := by simp [RqIV.arr, Value.oneCell']
theorem varr_one (v : RqV) : v.arr.all (·.oneCell') = true := by simp [RqV.arr, Value.oneCell']
theorem pay_range (x : RqIV) : ∀ (j : Nat) v, x.pay.arr.toList[j]? = some v → x.arr[3 + j]? = some v := by
 intro j v h
 match j with
 | 0 => exact h
 | 1 => exact h
 | 2 => exact h
 | 3 => exact h
 | 4 => exact h
 | j + 5 => simp [ItV.arr] at h
theorem xr0 (v : RqIV) : v.arr[0]? = some (.int .i64 v.op) := rfl
theorem xr1 (v : RqIV) : v.arr[1]? = some (.bool v.has) := rfl
theorem xr2 (v : RqIV) : v.arr[2]? = some (.slice v.ids.a v.ids.n v.ids.c) := rfl
theorem right_any (x : RqIV) (w : World) (hx : x.ok w) : Calls Tryd.prog 36 #[.agg x.arr] w fun e w' => e = .returned (.bool (rightI x.rq)) ∧ Below w.heap.size w w' := by
 have HRQ : Hid (rightI x.rq = (decide (0 ≤ x.op) && decide (x.op ≤ 4294967295) && (x.has || decide (x.ids.n = 0)) && x.pay.tag == 4325497 && x.pay.typ == 1 && x.pay.int == 0 && decide (x.pay.ds.n = 0))) := by
  show _ = _
  unfold rightI RqIV.rq
  rw [ItV.it_eq]
  simp only [isEmpty_n hx.ids.lenB, isEmpty_n (ItV.ok_iff.1 hx.pay).1.lenB]
 clear hx
 generalize hbe : w.heap.size = b
 have HBE := hid hbe; clear hbe
 go_enter Tryd.func36, Tryd.ntmps36
 go_upto_region 1 with (fail)
 go_simp
 have HB0 := hid (block_new w (.cells x.arr 41))
 have HBW := hid ((Below.refl w.heap.size w).alloc (Nat.le_refl _) (.cells x.arr 41))
 have HSZ : Hid ((w.alloc (.cells x.arr 41)).heap.size = b + 1) := by show _ = _; simp [HBE.out]
 rw [HBE.out] at HB0 HBW ⊢
 generalize w.alloc (.cells x.arr 41) = W at *
 have HRG := hid (range_of_block HB0.out 3 x.pay.arr.toList (pay_range x))
 have HNB : Hid ((W.alloc (.cells itZ.arr 27)).heap[b + 1]? = some (.cells itZ.arr 27 (0, 0))) := by show _ = _; rw [← HSZ.out]; exact block_new W _
 go_upto_region 2 with (first | (refine wpList_load_mid rfl 27 _ rfl b 3 rfl x.pay.arr.toList _ HRG.out Tryd.underlying27 rfl iSize ?_; simp only [Array.toArray_toList]) | (refine wpList_alloc_obj rfl 27 rfl _ iZero ?_; rw [HSZ.out]) | (refine wpList_store_obj rfl 27 _ _ rfl (b + 1) rfl x.pay.arr rfl _ _ HNB.out rfl iSize (arr_one x.pay) ?_; intro w5 hb5 hc5 hs5; have HB5 := hid hb5; have HC5 := hid hc5; clear hb5 hc5 hs5))
 have B : Hid (Below b w w5) := HBW.out.trans (((Below.refl _ W).alloc (by rw [HSZ.out]; omega) _).trans (HC5.out.below (fun k hk => by rw [List.mem_singleton.1 hk]; omega) (by simp [HSZ.out]; omega)))
 have HX5 : Hid (w5.heap[b]? = some (.cells x.arr 41 (0, 0))) := (HC5.out.block b (by simp [HSZ.out]; omega) (by simp)).trans (by rw [heap_alloc_old]; exact HB0.out; exact block_lt HB0.out)
 clear HRG HC5 HBW HB0 HSZ HNB
 have c0 := cell_of_block (j := 0) HX5.out (xr0 x)
 have c1 := cell_of_block (j := 1) HX5.out (xr1 x)
 have c2 := cell_of_block (j := 2) HX5.out (xr2 x)
 have p0 := cell_of_block (j := 0) HB5.out (ar0 x.pay)
 have p1 := cell_of_block (j := 1) HB5.out (ar1 x.pay)
 have p2 := cell_of_block (j := 2) HB5.out (ar2 x.pay)
 have p3 := cell_of_block (j := 3) HB5.out (ar3 x.pay)
 clear HX5 HB5
 by_cases e0 : 0 ≤ x.op
 ·by_cases e1 : x.op ≤ 4294967295
  ·by_cases e2 : x.has = true ∨ x.ids.n = 0
   ·by_cases e3 : x.pay.tag = 4325497
    ·by_cases e4 : x.pay.typ = 1
     ·by_cases e5 : x.pay.int = 0
      ·cases e6 : x.has with
       | true =>
        go_wp2_with fail
        go_ret
        exact ⟨by rw [HRQ.out]; simp [cast_eq0, e0, e1, e3, e4, e5, e6], B.out⟩
       | false =>
        have e7 : x.ids.n = 0 := by rcases e2 with h | h; rw [h] at e6; cases e6; exact h
        go_wp2_with fail
        go_ret
        exact ⟨by rw [HRQ.out]; simp [cast_eq0, e0, e1, e3, e4, e5, e7], B.out⟩
      ·have hne : (x.pay.int == 0) = false := by simpa using e5
       cases e6 : x.has with
       | true =>
        go_wp2_with fail
        go_ret
        exact ⟨by rw [HRQ.out]; simp [cast_eq0, e0, e1, e3, e4, hne, e6], B.out⟩
       | false =>
        have e7 : x.ids.n = 0 := by rcases e2 with h | h; rw [h] at e6; cases e6; exact h
        go_wp2_with fail
        go_ret
        exact ⟨by rw [HRQ.out]; simp [cast_eq0, e0, e1, e3, e4, hne, e7], B.out⟩
     ·have hne : (x.pay.typ == 1) = false := by simpa using e4
      cases e6 : x.has with
      | true =>
       go_wp2_with fail
       go_ret
       exact ⟨by rw [HRQ.out]; simp [cast_eq0, e0, e1, e3, hne, e6], B.out⟩
      | false =>
       have e7 : x.ids.n = 0 := by rcases e2 with h | h; rw [h] at e6; cases e6; exact h
       go_wp2_with fail
       go_ret
       exact ⟨by rw [HRQ.out]; simp [cast_eq0, e0, e1, e3, hne, e7], B.out⟩
    ·have hne : (x.pay.tag == 4325497) = false := by simpa using e3
     cases e6 : x.has with
     | true =>
      go_wp2_with fail
      go_ret
      exact ⟨by rw [HRQ.out]; simp [cast_eq0, e0, e1, hne, e6], B.out⟩
     | false =>
      have e7 : x.ids.n = 0 := by rcases e2 with h | h; rw [h] at e6; cases e6; exact h
      go_wp2_with fail
      go_ret
      exact ⟨by rw [HRQ.out]; simp [cast_eq0, e0, e1, hne, e7], B.out⟩
   ·have e6 : x.has = false := by cases h : x.has; rfl; exact absurd (Or.inl h) e2
    have e7 : ¬ x.ids.n = 0 := fun h => e2 (Or.inr h)
    have hne : ((x.ids.n : Int) == 0) = false := by simp; omega
    go_wp2_with fail
    go_ret
    exact ⟨by rw [HRQ.out]; simp [cast_eq0, e0, e1, e6, e7], B.out⟩
  ·go_wp2_with fail
   go_ret
   exact ⟨by rw [HRQ.out]; simp [cast_eq0, e0]; intros; omega, B.out⟩
 ·go_wp2_with fail
  go_ret
  exact ⟨by rw [HRQ.out]; simp [cast_eq0]; intros; omega, B.out⟩
theorem batch_any (s : Sl) (l : List RqIV) (w : World) (hs : SlR w s 8 (rqCells l)) : Calls Tryd.prog 37 #[.slice s.a s.n s.c] w fun e w' => e = .returned (.bool (batchV (l.map RqIV.rq))) ∧ Below w.heap.size w w' := by
 obtain ⟨a, n, c⟩ := s
 have HL : Hid (l.length = n) := hs.qlen
 have hnm : n ≤ 1099511627776 := hs.sm
 have HS := hid hs
 have HBV : Hid (batchV (l.map RqIV.rq) = (l.all (fun x => decide (n ≤ 1) || x.has) && decide (1 ≤ n) && decide (n ≤ 20))) := by
  show _ = _
  unfold batchV
  rw [List.length_map, HL.out, List.all_map]
  rfl
 clear hs
 simp only
 generalize hbe : w.heap.size = b
 have HBE := hid hbe; clear hbe
 have HBB : Hid (Below b w w) := Below.refl _ _
 have HWB : Hid (b ≤ w.heap.size) := by show _ ≤ _; rw [HBE.out]; exact Nat.le_refl _
 go_enter Tryd.func37, Tryd.ntmps37
 go_wp2_with fail
 go_loopw [7] (fun y wr => ∃ (k : Nat), k ≤ n ∧ y = .int .i64 k ∧ (l.take k).all (fun x => decide (n ≤ 1) || x.has) = true ∧ Below b w wr ∧ b ≤ wr.heap.size ∧ SlR wr ⟨a, n, c⟩ 8 (rqCells l)) (fun y _ => n - (intOf y).toNat)
 case atStart => exact ⟨0, Nat.zero_le _, rfl, by simp, HBB.out, HWB.out, HS.out⟩
 case round =>
  clear HBB HWB HS
  obtain ⟨k, hk, rfl, hall, hb, hwb, hs⟩ := hrel
  have HB := hid hb; have HS := hid hs; have HA := hid hall; have HWB := hid hwb
  clear hb hs hall hwb
  by_cases hlt : k < n
  ·obtain ⟨bx, ox, x, hax, hx, hrow⟩ := HS.out.rqrow hlt
   simp only at hax
   subst hax
   have HX : Hid (l[k]? = some x) := hx
   have HT : Hid ((l.take (k + 1)).all (fun x => decide (n ≤ 1) || x.has) = ((l.take k).all (fun x => decide (n ≤ 1) || x.has) && (decide (n ≤ 1) || x.has))) := by
    show _ = _
    rw [List.take_add_one, hx, List.all_append]; simp
   have HR := hid hrow
   clear hx hrow
   go_upto_region 4 with (first | (refine wpList_load_mid rfl 41 _ rfl bx (ox + k * 8) rfl x.arr.toList _ HR.out Tryd.underlying41 rfl qSize ?_; simp only [Array.toArray_toList]) | (refine wpList_alloc_obj rfl 41 rfl _ qZero ?_) | (refine wpList_store_obj rfl 41 _ _ rfl wr.heap.size rfl _ rfl _ _ (block_new wr _) rfl qSize (qarr_one x) ?_; intro w5 hb5 hc5 hs5; have HB5 := hid hb5; have HC5 := hid hc5; have HS5 := hid hs5; clear hb5 hc5 hs5))
   have hbel : Below wr.heap.size wr w5 := ((Below.refl _ wr).alloc (Nat.le_refl _) _).trans (HC5.out.below (fun k hk => by rw [List.mem_singleton.1 hk]; exact Nat.le_refl _) (by simp))
   have HB2 := hid (HB.out.trans (hbel.mono HWB.out)); have HS2 := hid (HS.out.below hbel)
   have HWB2 := hid (Nat.le_trans HWB.out hbel.size)
   clear hbel HC5 HS5 HR HB HS
   generalize wr.heap.size = z at *
   have c1 := cell_of_block (j := 1) HB5.out (xr1 x)
   clear HB5
   by_cases h1 : (1 : Int) < (n : Int)
   ·cases hh : x.has with
    | true =>
     go_wp2_with fail
     go_roundw
     case rel =>
      have h3 : (l.take (k + 1)).all (fun x => decide (n ≤ 1) || x.has) = true := by rw [HT.out, HA.out, hh]; simp
      first
       | exact ⟨k + 1, by omega, by go_num, h3, HB2.out, HWB2.out, HS2.out⟩
       | ((repeat apply Exists.intro); exact ⟨⟨k + 1, by omega, by go_num, h3, HB2.out, HWB2.out, HS2.out⟩, rfl⟩)
     case measure => simp [intOf]; omega
    | false =>
     go_wp2_with fail
     go_ret
     have h3 : l.all (fun x => decide (n ≤ 1) || x.has) = false := by
      rw [List.all_eq_false]
      exact ⟨x, List.mem_of_getElem? HX.out, by simp [hh]; omega⟩
     exact ⟨by rw [HBV.out, h3]; rfl, HB2.out⟩
   ·have h2 : decide (n ≤ 1) = true := by simp; omega
    go_wp2_with fail
    go_roundw
    case rel =>
     have h3 : (l.take (k + 1)).all (fun x => decide (n ≤ 1) || x.has) = true := by rw [HT.out, HA.out, h2]; simp
     first
      | exact ⟨k + 1, by omega, by go_num, h3, HB2.out, HWB2.out, HS2.out⟩
      | ((repeat apply Exists.intro); exact ⟨⟨k + 1, by omega, by go_num, h3, HB2.out, HWB2.out, HS2.out⟩, rfl⟩)
    case measure => simp [intOf]; omega
  ·obtain rfl : k = n := by omega
   have h3 : l.all (fun x => decide (k ≤ 1) || x.has) = true := by
    have := HA.out
    rwa [List.take_of_length_le (by have := HL.out; omega)] at this
   have H3 := hid h3
   clear h3
   by_cases h1 : (1 : Int) ≤ (k : Int)
   ·by_cases h2 : (k : Int) ≤ 20
    ·go_wp2_with fail
     go_ret
     exact ⟨by rw [HBV.out, H3.out]; simp; omega, HB.out⟩
    ·go_wp2_with fail
     go_ret
     exact ⟨by rw [HBV.out, H3.out]; simp; omega, HB.out⟩
   ·go_wp2_with fail
    go_ret
    exact ⟨by rw [HBV.out, H3.out]; simp; omega, HB.out⟩
end Go.Proofs.YtbnbofooofedkaaDoor
