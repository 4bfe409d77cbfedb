/- The reference's SameRequest, of requests that are the same. The reference's RightRequest. -/
import Derived.Test.YtbnbofooofedkaaDoorReq5
namespace Go.Proofs.YtbnbofooofedkaaDoor
section
open Go.RowKit
set_option linter.unusedVariables false
set_option linter.unusedSimpArgs false
set_option maxRecDepth 100000
set_option maxHeartbeats 4000000
theorem sameRq_any (q r : RqV) (w : World) (hq : q.ok w) (hr : r.ok w) (he : q.rq = r.rq) : Calls Tryd.prog 11 #[.agg q.arr, .agg r.arr] w fun e w' => e = .returned (.bool true) ∧ Below w.heap.size w w' := by
 have e0 : r.major = q.major := (congrArg Rq.major he).symm
 have e1 : r.minor = q.minor := (congrArg Rq.minor he).symm
 have e2 : r.max = q.max := (congrArg Rq.max he).symm
 have e3 : r.opt = q.opt := (congrArg Rq.opt he).symm
 have ei : r.items.map RqIV.rq = q.items.map RqIV.rq := (congrArg Rq.items he).symm
 have en : r.its.n = q.its.n := by rw [← hr.its.qlen, ← hq.its.qlen, ← List.length_map (f := RqIV.rq), ei, List.length_map]
 have HQ := hid hq; have HR := hid hr; have EI := hid ei; have EN := hid en
 clear hq hr he ei
 generalize hbe : w.heap.size = b
 have HBE := hid hbe; clear hbe
 go_enter Tryd.func11, Tryd.ntmps11
 go_upto_region 1 with (fail)
 go_simp
 have B0 := hid (Bx2.start (T := 32) (T' := 32) (cs := q.arr) (zs := r.arr) (w := w) HBE.out)
 rw [HBE.out]
 have hbw := ((Below.refl _ w).alloc (Nat.le_refl _) (.cells q.arr 32)).alloc (by simp) (.cells r.arr 32)
 have HQ0 := hid (HQ.out.below hbw); have HR0 := hid (HR.out.below hbw)
 clear HQ HR hbw
 generalize (w.alloc (.cells q.arr 32)).alloc (.cells r.arr 32) = W at *
 obtain ⟨kn, hkn⟩ : ∃ kn, q.its.n = kn := ⟨_, rfl⟩
 obtain ⟨ka, hka⟩ : ∃ ka, q.its.a = ka := ⟨_, rfl⟩
 obtain ⟨ra, hra⟩ : ∃ ra, r.its.a = ra := ⟨_, rfl⟩
 have HN := hid hkn; have HKA := hid hka; have HRA := hid hra
 have d0 := cell_of_block (j := 0) B0.out.box (qr0 q); have d1 := cell_of_block (j := 1) B0.out.box (qr1 q); have d2 := cell_of_block (j := 2) B0.out.box (qr2 q); have d3 := cell_of_block (j := 3) B0.out.box (qr3 q); have d4 := cell_of_block (j := 4) B0.out.box (qr4 q)
 have f0 := cell_of_block (j := 0) B0.out.res (qr0 r); have f1 := cell_of_block (j := 1) B0.out.res (qr1 r); have f2 := cell_of_block (j := 2) B0.out.res (qr2 r); have f3 := cell_of_block (j := 3) B0.out.res (qr3 r); have f4 := cell_of_block (j := 4) B0.out.res (qr4 r)
 rw [e0] at f0; rw [e1] at f1; rw [e2] at f2; rw [e3] at f3; rw [hra, en, hkn] at f4; rw [hka, hkn] at d4
 have hkb : kn ≤ 1099511627776 := by rw [← hkn]; exact HQ0.out.its.sm
 clear hkn hka hra e0 e1 e2 e3 en
 go_wp2_with fail
 clear d0 d1 d2 d3 d4 f0 f1 f2 f3 f4
 go_loopw [5] (fun y wr => ∃ k : Nat, k ≤ kn ∧ y = .int .i64 k ∧ Below W.heap.size W wr) (fun y _ => kn - (intOf y).toNat)
 case atStart => exact ⟨0, Nat.zero_le _, rfl, Below.refl _ _⟩
 case round =>
  obtain ⟨k, hk, rfl, hbw⟩ := hrel
  have HBR := hid hbw
  have HBX := hid (B0.out.below hbw)
  have d4 := cell_of_block (j := 4) HBX.out.box (qr4 q)
  rw [HKA.out, HN.out] at d4
  have f4 := cell_of_block (j := 4) HBX.out.res (qr4 r)
  rw [HRA.out, EN.out, HN.out] at f4
  clear hbw
  by_cases hlt : k < kn
  ·obtain ⟨bx, ox, x, hax, hx, hrx⟩ := (HQ0.out.below HBR.out).its.rqrow (k := k) (by rw [HN.out]; exact hlt)
   obtain ⟨by', oy, y, hay, hy, hry⟩ := (HR0.out.below HBR.out).its.rqrow (k := k) (by rw [EN.out, HN.out]; exact hlt)
   rw [HKA.out] at hax
   rw [HRA.out] at hay
   subst hax; subst hay
   have HX := hid ((HQ0.out.below HBR.out).each x (List.mem_of_getElem? hx))
   have HY := hid ((HR0.out.below HBR.out).each y (List.mem_of_getElem? hy))
   have HXY : Hid (x.rq = y.rq) := by
    have h1 := congrArg (fun l : List RqI => l[k]?) EI.out
    simp only [List.getElem?_map, hx, hy, Option.map_some] at h1
    exact (Option.some.inj h1).symm
   have HRX := hid hrx; have HRY := hid hry
   clear hx hy hrx hry
   go_upto_region 6 with (fail)
   go_upto_region 7 with (first | (refine wpList_load_mid rfl 41 _ rfl bx (ox + k * 8) rfl x.arr.toList _ HRX.out Tryd.underlying41 rfl qSize ?_; simp only [Array.toArray_toList]) | (refine wpList_alloc_obj rfl 41 rfl _ qZero ?_) | (refine wpList_store_obj rfl 41 _ _ rfl wr.heap.size rfl x.arr rfl _ _ (block_new wr _) rfl qSize (qarr_one _) ?_; intro w2 hb2 hc2 hs2; have HB_w2 := hid hb2; have HC_w2 := hid hc2; clear hb2 hc2 hs2))
   have hbel : Below wr.heap.size wr w2 := ((Below.refl _ wr).alloc (Nat.le_refl _) _).trans (HC_w2.out.below (fun k hk => by rw [List.mem_singleton.1 hk]; exact Nat.le_refl _) (by simp))
   have HR2 := hid (range_later hbel HRY.out); have HX2 := hid (HX.out.below hbel); have HY2 := hid (HY.out.below hbel)
   have HB2 := hid (HBR.out.trans (hbel.mono HBR.out.size))
   have HS2 : Hid (W.heap.size ≤ w2.heap.size) := Nat.le_trans HBR.out.size hbel.size
   have f4 := cell_later hbel f4
   clear hbel HC_w2 HRX HRY HX HY d4
   generalize wr.heap.size = px at *
   go_upto_region 8 with (first | (refine wpList_load_mid rfl 41 _ rfl by' (oy + k * 8) rfl y.arr.toList _ HR2.out Tryd.underlying41 rfl qSize ?_; simp only [Array.toArray_toList]) | (refine wpList_alloc_obj rfl 41 rfl _ qZero ?_) | (refine wpList_store_obj rfl 41 _ _ rfl w2.heap.size rfl y.arr rfl _ _ (block_new w2 _) rfl qSize (qarr_one _) ?_; intro w3 hb2 hc2 hs2; have HB_w3 := hid hb2; have HC_w3 := hid hc2; clear hb2 hc2 hs2))
   have hbel : Below w2.heap.size w2 w3 := ((Below.refl _ w2).alloc (Nat.le_refl _) _).trans (HC_w3.out.below (fun k hk => by rw [List.mem_singleton.1 hk]; exact Nat.le_refl _) (by simp))
   have HPX := hid ((hbel.block _ (block_lt HB_w2.out)).trans HB_w2.out); have HX3 := hid (HX2.out.below hbel); have HY3 := hid (HY2.out.below hbel)
   have HB3 := hid (HB2.out.trans (hbel.mono HS2.out))
   have HS3 : Hid (W.heap.size ≤ w3.heap.size) := Nat.le_trans HS2.out hbel.size
   clear hbel HC_w3 HB_w2 HX2 HY2 HR2 HB2 HS2 f4
   generalize w2.heap.size = py at *
   have E7 : Hid (y.pay.it = x.pay.it) := (congrArg RqI.pay HXY.out).symm
   have g0 : y.op = x.op := (congrArg RqI.op HXY.out).symm
   have g1 : y.has = x.has := (congrArg RqI.has HXY.out).symm
   have g2 : y.id = x.id := (congrArg RqI.id HXY.out).symm
   have d0 := cell_of_block (j := 0) HPX.out (xr0 x); have d1 := cell_of_block (j := 1) HPX.out (xr1 x); have d2 := cell_of_block (j := 2) HPX.out (xr2 x)
   have f0 := cell_of_block (j := 0) HB_w3.out (xr0 y); have f1 := cell_of_block (j := 1) HB_w3.out (xr1 y); have f2 := cell_of_block (j := 2) HB_w3.out (xr2 y)
   rw [g0] at f0; rw [g1] at f1
   have hxs := HX3.out.ids.rdB; have hys := HY3.out.ids.rdB
   rw [g2] at hys
   have hc1 := run_bytes_str (P := Tryd.prog) hxs x.ids.c 24 9 5 Tryd.underlying24 Tryd.underlying5 Tryd.underlying9
   have hc2 := run_bytes_str (P := Tryd.prog) hys y.ids.c 24 9 5 Tryd.underlying24 Tryd.underlying5 Tryd.underlying9
   have HG1 := hid (range_of_block HPX.out 3 _ (pay_range x)); have HG2 := hid (range_of_block HB_w3.out 3 _ (pay_range y))
   clear hxs hys g0 g1 g2 HXY
   go_wp2_with (first | (refine wpList_load_mid_on (by rfl) 27 _ rfl px 3 rfl x.pay.arr.toList _ HG1.out Tryd.underlying27 rfl iSize ?_; simp only [Array.toArray_toList]) | (refine wpList_load_mid_on (by rfl) 27 _ rfl py 3 rfl y.pay.arr.toList _ HG2.out Tryd.underlying27 rfl iSize ?_; simp only [Array.toArray_toList]))
   clear d0 d1 d2 f0 f1 f2 hc1 hc2
   refine (same6_any x.pay y.pay _ HX3.out.pay HY3.out.pay).mono ?_
   rintro e w4 ⟨rfl, hb⟩
   rw [show sameI x.pay.it y.pay.it = true by rw [E7.out]; exact sameI_yes rfl]
   have HG := hid (HB3.out.trans (hb.mono HS3.out))
   clear hb HPX HB_w3 HX3 HY3 HB3 HS3 HG1 HG2 HBX HBR E7
   go_wp2_with fail
   go_roundw
   case rel =>
    first
     | exact ⟨k + 1, by omega, by go_num, HG.out⟩
     | ((repeat apply Exists.intro); exact ⟨⟨k + 1, by omega, by go_num, HG.out⟩, rfl⟩)
   case measure => simp [intOf]; omega
  ·obtain rfl : k = kn := by omega
   go_wp2_with fail
   go_ret
   exact ⟨rfl, by first | exact (B0.out.below HBR.out).bel | (rw [HBE.out]; exact (B0.out.below HBR.out).bel)⟩
end
section
open Go.RowKit
set_option linter.unusedVariables false
set_option linter.unusedSimpArgs false
set_option maxRecDepth 100000
set_option maxHeartbeats 4000000
def hOk (q : Rq) : Bool := numOk q.major && numOk q.minor && numOk q.max && decide (1 ≤ q.opt) && decide (q.opt ≤ 3) && decide (1 ≤ q.items.length) && decide (q.items.length ≤ 20)
def iOk (n : Nat) (x : RqI) : Bool := decide (0 ≤ x.op) && decide (x.op ≤ 4294967295) && (x.has || (x.id.isEmpty && decide (n ≤ 1))) && x.pay.tag == 4325497 && x.pay.typ == 1 && x.pay.int == 0 && x.pay.data.isEmpty
theorem rightV_ref (q : Rq) : rightV q = (hOk q && q.items.all (iOk q.items.length)) := by
 have key0 : ∀ (x : RqI) (n : Nat), iOk n x = (rightI x && (decide (n ≤ 1) || x.has)) := fun x n => by
  unfold iOk rightI
  generalize decide (0 ≤ x.op) = a1
  generalize decide (x.op ≤ 4294967295) = a2
  generalize x.has = a3
  generalize x.id.isEmpty = a4
  generalize decide (n ≤ 1) = a5
  generalize (x.pay.tag == 4325497) = a6
  generalize (x.pay.typ == 1) = a7
  generalize (x.pay.int == 0) = a8
  generalize x.pay.data.isEmpty = a9
  cases a1 <;> cases a2 <;> cases a3 <;> cases a4 <;> cases a5 <;> cases a6 <;> cases a7 <;> cases a8 <;> cases a9 <;> rfl
 have key : ∀ l : List RqI, ∀ n : Nat, l.all (iOk n) = (l.all rightI && l.all (fun x => decide (n ≤ 1) || x.has)) := fun l n => by
  induction l with
  | nil => rfl
  | cons x r ih =>
   rw [List.all_cons, List.all_cons, List.all_cons, ih, key0]
   generalize rightI x = a1
   generalize (decide (n ≤ 1) || x.has) = a2
   generalize r.all rightI = a3
   generalize (r.all fun x => decide (n ≤ 1) || x.has) = a4
   cases a1 <;> cases a2 <;> cases a3 <;> cases a4 <;> rfl
 unfold rightV batchV hOk
 rw [key]
 cases numOk q.major <;> cases numOk q.minor <;> cases numOk q.max <;> simp
 cases decide (1 ≤ q.opt) <;> cases decide (q.opt ≤ 3) <;> simp
 cases decide (1 ≤ q.items.length) <;> cases decide (q.items.length ≤ 20) <;> simp
theorem hOk_no {q : RqV} {kn : Nat} (h : q.items.length ≠ kn ∨ q.major < 0 ∨ 2147483647 < q.major ∨ q.minor < 0 ∨ 2147483647 < q.minor ∨ q.max < 0 ∨ 2147483647 < q.max ∨ q.opt < 1 ∨ 3 < q.opt ∨ kn < 1 ∨ 20 < kn) (hk : q.items.length = kn) : hOk q.rq = false := by
 subst hk
 unfold hOk numOk RqV.rq
 simp only [List.length_map]
 simp
 omega
theorem iOk_no {x : RqIV} {w : World} {kn : Nat} (hx : x.ok w) (h : x.op < 0 ∨ 4294967295 < x.op ∨ (x.has = false ∧ (0 < x.ids.n ∨ 1 < kn)) ∨ (¬ x.pay.tag = 4325497) ∨ (¬ x.pay.typ = 1) ∨ (¬ x.pay.int = 0) ∨ 0 < x.pay.ds.n) : iOk kn x.rq = false := by
 have h1 := hx.ids.lenB
 have h2 := (ItV.ok_iff.1 hx.pay).1.lenB
 unfold iOk RqIV.rq
 rw [ItV.it_eq]
 simp only [isEmpty_n h1, isEmpty_n h2]
 rcases h with h | h | ⟨h, h'⟩ | h | h | h | h
 ·simp; omega
 ·simp; omega
 ·rcases h' with h' | h' <;> simp [h] <;> omega
 ·simp [h]
 ·simp [h]
 ·simp [h]
 ·simp; omega
theorem iOk_yes {x : RqIV} {w : World} {kn : Nat} (hx : x.ok w) (h0 : 0 ≤ x.op ∧ x.op ≤ 4294967295) (hg : x.has = true ∨ (x.ids.n = 0 ∧ kn ≤ 1)) (h3 : x.pay.tag = 4325497) (h4 : x.pay.typ = 1) (h5 : x.pay.int = 0) (h6 : x.pay.ds.n = 0) : iOk kn x.rq = true := by
 have h1 := hx.ids.lenB
 have h2 := (ItV.ok_iff.1 hx.pay).1.lenB
 unfold iOk RqIV.rq
 rw [ItV.it_eq]
 simp only [isEmpty_n h1, isEmpty_n h2]
 rcases hg with hg | ⟨hg, hg'⟩
 ·simp [h0, hg, h3, h4, h5, h6]
 ·simp [h0, hg, hg', h3, h4, h5, h6]
theorem all_no {l : List RqIV} {n : Nat} {x : RqIV} (hx : x ∈ l) (h : iOk n x.rq = false) : (l.map RqIV.rq).all (iOk n) = false := by
 rw [List.all_eq_false]
 exact ⟨x.rq, List.mem_map.2 ⟨x, hx, rfl⟩, by rw [h]; decide⟩
theorem hOk_yes {q : RqV} {kn : Nat} (h : 0 ≤ q.major ∧ q.major ≤ 2147483647 ∧ 0 ≤ q.minor ∧ q.minor ≤ 2147483647 ∧ 0 ≤ q.max ∧ q.max ≤ 2147483647 ∧ 1 ≤ q.opt ∧ q.opt ≤ 3 ∧ 1 ≤ kn ∧ kn ≤ 20) (hk : q.items.length = kn) : hOk q.rq = true := by
 subst hk
 unfold hOk numOk RqV.rq
 simp only [List.length_map]
 simp
 omega
theorem rightR_any (q : RqV) (w : World) (hq : q.ok w) : Calls Tryd.prog 14 #[.agg q.arr] w fun e w' => e = .returned (.bool (rightV q.rq)) ∧ Below w.heap.size w w' := by
 have HRV : Hid (rightV q.rq = (hOk q.rq && (q.items.map RqIV.rq).all (iOk q.items.length))) := by
  show _ = _
  rw [rightV_ref]; unfold RqV.rq; simp only [List.length_map]
 have hql := hq.its.qlen
 have HQ := hid hq
 clear hq
 generalize hbe : w.heap.size = b
 have HBE := hid hbe; clear hbe
 go_enter Tryd.func14, Tryd.ntmps14
 go_upto_region 1 with (fail)
 have hbw : Below w.heap.size w (w.alloc (.cells q.arr 32)) := (Below.refl _ _).alloc (Nat.le_refl _) _
 have HXB := hid (block_new w (.cells q.arr 32))
 have HQW := hid (HQ.out.below hbw)
 have HSZ : Hid (b + 1 ≤ (w.alloc (.cells q.arr 32)).heap.size) := by show _ ≤ _; simp [HBE.out]
 rw [HBE.out] at hbw HXB ⊢
 have HBW := hid hbw
 clear hbw HQ
 generalize w.alloc (.cells q.arr 32) = W at *
 obtain ⟨kn, hkn⟩ : ∃ kn, q.its.n = kn := ⟨_, rfl⟩
 obtain ⟨ka, hka⟩ : ∃ ka, q.its.a = ka := ⟨_, rfl⟩
 rw [hkn] at hql
 have HN := hid hkn; have HKA := hid hka; have HQL := hid hql
 rw [hql] at HRV
 have hkb : kn ≤ 1099511627776 := by rw [← hkn]; exact HQW.out.its.sm
 have d0 := cell_of_block (j := 0) HXB.out (qr0 q); have d1 := cell_of_block (j := 1) HXB.out (qr1 q); have d2 := cell_of_block (j := 2) HXB.out (qr2 q); have d3 := cell_of_block (j := 3) HXB.out (qr3 q); have d4 := cell_of_block (j := 4) HXB.out (qr4 q)
 rw [hka, hkn] at d4
 clear hkn hka hql
 by_cases a0 : q.major < 0
 ·go_wp2_with fail
  go_ret
  exact ⟨by rw [HRV.out, hOk_no (kn := kn) (by omega) HQL.out]; rfl, HBW.out⟩
 by_cases a1 : 2147483647 < q.major
 ·go_wp2_with fail
  go_ret
  exact ⟨by rw [HRV.out, hOk_no (kn := kn) (by omega) HQL.out]; rfl, HBW.out⟩
 by_cases a2 : q.minor < 0
 ·go_wp2_with fail
  go_ret
  exact ⟨by rw [HRV.out, hOk_no (kn := kn) (by omega) HQL.out]; rfl, HBW.out⟩
 by_cases a3 : 2147483647 < q.minor
 ·go_wp2_with fail
  go_ret
  exact ⟨by rw [HRV.out, hOk_no (kn := kn) (by omega) HQL.out]; rfl, HBW.out⟩
 by_cases a4 : q.max < 0
 ·go_wp2_with fail
  go_ret
  exact ⟨by rw [HRV.out, hOk_no (kn := kn) (by omega) HQL.out]; rfl, HBW.out⟩
 by_cases a5 : 2147483647 < q.max
 ·go_wp2_with fail
  go_ret
  exact ⟨by rw [HRV.out, hOk_no (kn := kn) (by omega) HQL.out]; rfl, HBW.out⟩
 by_cases a6 : q.opt < 1
 ·go_wp2_with fail
  go_ret
  exact ⟨by rw [HRV.out, hOk_no (kn := kn) (by omega) HQL.out]; rfl, HBW.out⟩
 by_cases a7 : 3 < q.opt
 ·go_wp2_with fail
  go_ret
  exact ⟨by rw [HRV.out, hOk_no (kn := kn) (by omega) HQL.out]; rfl, HBW.out⟩
 by_cases a8 : kn < 1
 ·have b8 : (kn : Int) < 1 := by omega
  have c8 : kn = 0 := by omega
  go_wp2_with fail
  go_ret
  exact ⟨by rw [HRV.out, hOk_no (kn := kn) (by omega) HQL.out]; rfl, HBW.out⟩
 have b8 : ¬ (kn : Int) < 1 := by omega
 have c8 : ¬ kn = 0 := by omega
 by_cases a9 : 20 < kn
 ·have b9 : (20 : Int) < (kn : Int) := by omega
  go_wp2_with fail
  go_ret
  exact ⟨by rw [HRV.out, hOk_no (kn := kn) (by omega) HQL.out]; rfl, HBW.out⟩
 have b9 : ¬ (20 : Int) < (kn : Int) := by omega
 have HOKH : Hid (hOk q.rq = true) := hOk_yes ⟨by omega, by omega, by omega, by omega, by omega, by omega, by omega, by omega, by omega, by omega⟩ HQL.out
 have hk20 : kn ≤ 20 := by omega
 go_wp2_with fail
 clear a0 a1 a2 a3 a4 a5 a6 a7 a8 a9 b8 c8 b9
 clear d0 d1 d2 d3 d4
 go_loopw [4] (fun y wr => ∃ k : Nat, k ≤ kn ∧ y = .int .i64 k ∧ (∀ j y, q.items[j]? = some y → j < k → iOk kn y.rq = true) ∧ Below b w wr ∧ wr.heap[b]? = some (.cells q.arr 32 (0, 0)) ∧ q.ok wr) (fun y _ => kn - (intOf y).toNat)
 case atStart => exact ⟨0, Nat.zero_le _, rfl, fun j y _ h => absurd h (Nat.not_lt_zero _), HBW.out, HXB.out, HQW.out⟩
 case round =>
  clear HBW HXB HQW HSZ
  obtain ⟨k, hk, rfl, hall, hbw, hxb, hqw⟩ := hrel
  have HALL := hid hall; have HBW := hid hbw; have HXB := hid hxb; have HQW := hid hqw
  have HSZ : Hid (b < wr.heap.size) := block_lt hxb
  clear hall hbw hxb hqw
  have d4 := cell_of_block (j := 4) HXB.out (qr4 q)
  rw [HKA.out, HN.out] at d4
  by_cases hlt : k < kn
  ·obtain ⟨bx, ox, x, hax, hx, hrx⟩ := HQW.out.its.rqrow (k := k) (by rw [HN.out]; exact hlt)
   rw [HKA.out] at hax
   subst hax
   have HXK := hid hx; have HXM := hid (List.mem_of_getElem? hx)
   have HX := hid (HQW.out.each x (List.mem_of_getElem? hx))
   have HRX := hid hrx
   clear hx hrx
   go_upto_region 7 with (fail)
   go_upto_region 8 with (first | (refine wpList_load_mid rfl 41 _ rfl bx (ox + k * 8) rfl x.arr.toList _ HRX.out Tryd.underlying41 rfl qSize ?_; simp only [Array.toArray_toList]) | (refine wpList_alloc_obj rfl 41 rfl _ qZero ?_) | (refine wpList_store_obj rfl 41 _ _ rfl wr.heap.size rfl x.arr rfl _ _ (block_new wr _) rfl qSize (qarr_one _) ?_; intro w2 hb2 hc2 hs2; have HB_w2 := hid hb2; have HC_w2 := hid hc2; clear hb2 hc2 hs2))
   have hbel : Below wr.heap.size wr w2 := ((Below.refl _ wr).alloc (Nat.le_refl _) _).trans (HC_w2.out.below (fun k hk => by rw [List.mem_singleton.1 hk]; exact Nat.le_refl _) (by simp))
   have HXE := hid (HX.out.below hbel)
   have HBD := hid (HBW.out.trans (hbel.mono (Nat.le_of_lt HSZ.out)))
   have HXB2 := hid ((hbel.block _ (block_lt HXB.out)).trans HXB.out); have HQW2 := hid (HQW.out.below hbel)
   clear hbel HC_w2 HX HRX HXB HQW d4 HBW HSZ
   have HXB := HXB2; have HQW := HQW2
   clear HXB2 HQW2
   generalize wr.heap.size = px at *
   have x0 := cell_of_block (j := 0) HB_w2.out (xr0 x); have x1 := cell_of_block (j := 1) HB_w2.out (xr1 x); have x2 := cell_of_block (j := 2) HB_w2.out (xr2 x)
   have x3 : w2.cell? ⟨px, 3, none⟩ = some (.int .i64 x.pay.tag) := cell_of_block (j := 3) HB_w2.out rfl
   have x4 : w2.cell? ⟨px, 4, none⟩ = some (.int .i64 x.pay.typ) := cell_of_block (j := 4) HB_w2.out rfl
   have x5 : w2.cell? ⟨px, 5, none⟩ = some (.int .i64 x.pay.int) := cell_of_block (j := 5) HB_w2.out rfl
   have x6 : w2.cell? ⟨px, 6, none⟩ = some (.slice x.pay.ds.a x.pay.ds.n x.pay.ds.c) := cell_of_block (j := 6) HB_w2.out rfl
   have q4 := cell_of_block (j := 4) HXB.out (qr4 q)
   rw [HKA.out, HN.out] at q4
   by_cases i0 : x.op < 0
   ·go_wp2_with fail
    go_ret
    exact ⟨by rw [HRV.out, HOKH.out, all_no HXM.out (iOk_no HXE.out (.inl i0))]; rfl, HBD.out⟩
   by_cases i1 : 4294967295 < x.op
   ·go_wp2_with fail
    go_ret
    exact ⟨by rw [HRV.out, HOKH.out, all_no HXM.out (iOk_no HXE.out (.inr (.inl i1)))]; rfl, HBD.out⟩
   cases hhas : x.has with
   | true =>
    rw [hhas] at x1
    have hg : x.has = true ∨ (x.ids.n = 0 ∧ kn ≤ 1) := .inl hhas
    by_cases i3 : ¬ x.pay.tag = 4325497
    ·have j3 : (x.pay.tag == 4325497) = false := by simpa using i3
     go_wp2_with fail
     go_ret
     exact ⟨by rw [HRV.out, HOKH.out, all_no HXM.out (iOk_no HXE.out (.inr (.inr (.inr (.inl i3)))))]; rfl, HBD.out⟩
    have j3 : (x.pay.tag == 4325497) = true := by simpa using i3
    by_cases i4 : ¬ x.pay.typ = 1
    ·have j4 : (x.pay.typ == 1) = false := by simpa using i4
     go_wp2_with fail
     go_ret
     exact ⟨by rw [HRV.out, HOKH.out, all_no HXM.out (iOk_no HXE.out (.inr (.inr (.inr (.inr (.inl i4))))))]; rfl, HBD.out⟩
    have j4 : (x.pay.typ == 1) = true := by simpa using i4
    by_cases i5 : ¬ x.pay.int = 0
    ·have j5 : (x.pay.int == 0) = false := by simpa using i5
     go_wp2_with fail
     go_ret
     exact ⟨by rw [HRV.out, HOKH.out, all_no HXM.out (iOk_no HXE.out (.inr (.inr (.inr (.inr (.inr (.inl i5)))))))]; rfl, HBD.out⟩
    have j5 : (x.pay.int == 0) = true := by simpa using i5
    by_cases i6 : 0 < x.pay.ds.n
    ·go_wp2_with fail
     go_ret
     exact ⟨by rw [HRV.out, HOKH.out, all_no HXM.out (iOk_no HXE.out (.inr (.inr (.inr (.inr (.inr (.inr i6)))))))]; rfl, HBD.out⟩
    go_wp2_with fail
    go_roundw
    case rel =>
     have hall : ∀ j y, q.items[j]? = some y → j < k + 1 → iOk kn y.rq = true := fun j y hy hj => by
      rcases Nat.lt_or_ge j k with h | h
      ·exact HALL.out j y hy h
      ·obtain rfl : j = k := by omega
       have hyx : y = x := by have h1 := HXK.out; rw [hy] at h1; exact Option.some.inj h1
       subst hyx
       exact iOk_yes HXE.out ⟨by omega, by omega⟩ hg (by simpa using i3) (by simpa using i4) (by simpa using i5) (by omega)
     first
      | exact ⟨k + 1, by omega, by go_num, hall, HBD.out, HXB.out, HQW.out⟩
      | ((repeat apply Exists.intro); exact ⟨⟨k + 1, by omega, by go_num, hall, HBD.out, HXB.out, HQW.out⟩, rfl⟩)
    case measure => simp [intOf]; omega
   | false =>
    rw [hhas] at x1
    by_cases i2 : 0 < x.ids.n
    ·have i2b : (0 : Int) < (x.ids.n : Int) := by omega
     go_wp2_with fail
     go_ret
     exact ⟨by rw [HRV.out, HOKH.out, all_no HXM.out (iOk_no HXE.out (.inr (.inr (.inl ⟨hhas, .inl i2⟩))))]; rfl, HBD.out⟩
    have i2b : ¬ (0 : Int) < (x.ids.n : Int) := by omega
    by_cases i3 : 1 < kn
    ·have i3b : (1 : Int) < (kn : Int) := by omega
     go_wp2_with fail
     go_ret
     exact ⟨by rw [HRV.out, HOKH.out, all_no HXM.out (iOk_no HXE.out (.inr (.inr (.inl ⟨hhas, .inr i3⟩))))]; rfl, HBD.out⟩
    have i3b : ¬ (1 : Int) < (kn : Int) := by omega
    have hg : x.has = true ∨ (x.ids.n = 0 ∧ kn ≤ 1) := .inr ⟨by omega, by omega⟩
    by_cases i3 : ¬ x.pay.tag = 4325497
    ·have j3 : (x.pay.tag == 4325497) = false := by simpa using i3
     go_wp2_with fail
     go_ret
     exact ⟨by rw [HRV.out, HOKH.out, all_no HXM.out (iOk_no HXE.out (.inr (.inr (.inr (.inl i3)))))]; rfl, HBD.out⟩
    have j3 : (x.pay.tag == 4325497) = true := by simpa using i3
    by_cases i4 : ¬ x.pay.typ = 1
    ·have j4 : (x.pay.typ == 1) = false := by simpa using i4
     go_wp2_with fail
     go_ret
     exact ⟨by rw [HRV.out, HOKH.out, all_no HXM.out (iOk_no HXE.out (.inr (.inr (.inr (.inr (.inl i4))))))]; rfl, HBD.out⟩
    have j4 : (x.pay.typ == 1) = true := by simpa using i4
    by_cases i5 : ¬ x.pay.int = 0
    ·have j5 : (x.pay.int == 0) = false := by simpa using i5
     go_wp2_with fail
     go_ret
     exact ⟨by rw [HRV.out, HOKH.out, all_no HXM.out (iOk_no HXE.out (.inr (.inr (.inr (.inr (.inr (.inl i5)))))))]; rfl, HBD.out⟩
    have j5 : (x.pay.int == 0) = true := by simpa using i5
    by_cases i6 : 0 < x.pay.ds.n
    ·go_wp2_with fail
     go_ret
     exact ⟨by rw [HRV.out, HOKH.out, all_no HXM.out (iOk_no HXE.out (.inr (.inr (.inr (.inr (.inr (.inr i6)))))))]; rfl, HBD.out⟩
    go_wp2_with fail
    go_roundw
    case rel =>
     have hall : ∀ j y, q.items[j]? = some y → j < k + 1 → iOk kn y.rq = true := fun j y hy hj => by
      rcases Nat.lt_or_ge j k with h | h
      ·exact HALL.out j y hy h
      ·obtain rfl : j = k := by omega
       have hyx : y = x := by have h1 := HXK.out; rw [hy] at h1; exact Option.some.inj h1
       subst hyx
       exact iOk_yes HXE.out ⟨by omega, by omega⟩ hg (by simpa using i3) (by simpa using i4) (by simpa using i5) (by omega)
     first
      | exact ⟨k + 1, by omega, by go_num, hall, HBD.out, HXB.out, HQW.out⟩
      | ((repeat apply Exists.intro); exact ⟨⟨k + 1, by omega, by go_num, hall, HBD.out, HXB.out, HQW.out⟩, rfl⟩)
    case measure => simp [intOf]; omega
  ·obtain rfl : k = kn := by omega
   have hfin : rightV q.rq = true := by
    rw [HRV.out, HOKH.out, Bool.true_and, List.all_eq_true]
    intro y hy
    obtain ⟨v, hv, rfl⟩ := List.mem_map.1 hy
    obtain ⟨j, hj⟩ := List.getElem?_of_mem hv
    have hjl := (List.getElem?_eq_some_iff.1 hj).1
    exact HALL.out j v hj (by have := HQL.out; omega)
   have HF := hid hfin
   clear hfin
   go_wp2_with fail
   go_ret
   exact ⟨by rw [HF.out]; rfl, HBW.out⟩
end
end Go.Proofs.YtbnbofooofedkaaDoor
