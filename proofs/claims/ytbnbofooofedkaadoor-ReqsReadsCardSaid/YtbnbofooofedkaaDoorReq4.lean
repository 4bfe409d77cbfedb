/- reqs.Right. -/
import Derived.Test.YtbnbofooofedkaaDoorReq3
namespace Go.Proofs.YtbnbofooofedkaaDoor
open Go.RowKit
set_option linter.unusedVariables false
set_option linter.unusedSimpArgs false
set_option maxRecDepth 100000
set_option maxHeartbeats 1600000
theorem Right_any (q : RqV) (w : World) (hq : q.ok w) : Calls Tryd.prog 15 #[.agg q.arr] w fun e w' => e = .returned (.bool (rightV q.rq)) ∧ Below w.heap.size w w' := by
 have HRV : Hid (rightV q.rq = (numOk q.major && numOk q.minor && numOk q.max && q.items.all (fun x => rightI x.rq) && decide (1 ≤ q.opt) && decide (q.opt ≤ 3) && batchV (q.items.map RqIV.rq))) := by
  show _ = _
  unfold rightV RqV.rq
  simp only [List.all_map]
  rfl
 have HL : Hid (q.items.length = q.its.n) := hq.its.qlen
 have hnm : q.its.n ≤ 1099511627776 := hq.its.sm
 have HQ := hid (hq.below ((Below.refl w.heap.size w).alloc (Nat.le_refl _) (.cells q.arr 32)))
 clear hq
 generalize hbe : w.heap.size = b
 have HBE := hid hbe; clear hbe
 go_enter Tryd.func15, Tryd.ntmps15
 go_upto_region 1 with (fail)
 go_simp
 have HB0 := hid (block_new w (.cells q.arr 32))
 have HBW := hid ((Below.refl w.heap.size w).alloc (Nat.le_refl _) (.cells q.arr 32))
 have HSZ : Hid ((w.alloc (.cells q.arr 32)).heap.size = b + 1) := by show _ = _; simp [HBE.out]
 rw [HBE.out] at HB0 HBW ⊢
 generalize w.alloc (.cells q.arr 32) = W at *
 have c0 := cell_of_block (j := 0) HB0.out (qr0 q)
 have c1 := cell_of_block (j := 1) HB0.out (qr1 q)
 have c2 := cell_of_block (j := 2) HB0.out (qr2 q)
 go_upto_block 0 with (fail)
 clear c0 c1 c2
 have HV0 := hid (block_new W (.cells #[.int .i64 q.major, .int .i64 q.minor, .int .i64 q.max] 3))
 have HVB := hid (HBW.out.alloc (show b ≤ W.heap.size by rw [HSZ.out]; omega) (.cells #[.int .i64 q.major, .int .i64 q.minor, .int .i64 q.max] 3))
 have HVQ := hid (HQ.out.below ((Below.refl _ W).alloc (Nat.le_refl _) (.cells #[.int .i64 q.major, .int .i64 q.minor, .int .i64 q.max] 3)))
 have HVZ : Hid ((W.alloc (.cells #[.int .i64 q.major, .int .i64 q.minor, .int .i64 q.max] 3)).heap.size = b + 2) := by show _ = _; simp [HSZ.out]
 have HVX : Hid ((W.alloc (.cells #[.int .i64 q.major, .int .i64 q.minor, .int .i64 q.max] 3)).heap[b]? = some (.cells q.arr 32 (0, 0))) := by
  show _ = _
  rw [heap_alloc_old _ _ (block_lt HB0.out)]; exact HB0.out
 rw [HSZ.out] at HV0 ⊢
 clear HB0 HBW HSZ HQ
 generalize W.alloc (.cells #[.int .i64 q.major, .int .i64 q.minor, .int .i64 q.max] 3) = V at *
 have HN : Hid (∀ k : Nat, k < 3 → V.cell? ⟨b + 1, k, none⟩ = some (.int .i64 ([q.major, q.minor, q.max].getD k 0))) := by
  intro k hk
  match k with
  | 0 => exact cell_of_block HV0.out rfl
  | 1 => exact cell_of_block HV0.out rfl
  | 2 => exact cell_of_block HV0.out rfl
  | k + 3 => omega
 have HNO : Hid ((numOk q.major && numOk q.minor && numOk q.max) = ((List.range 3).all fun k => numOk ([q.major, q.minor, q.max].getD k 0))) := by
  show _ = _
  simp [List.range, List.range.loop, Bool.and_assoc]
 rw [HNO.out] at HRV
 generalize [q.major, q.minor, q.max] = NS at *
 clear HNO HV0
 go_wp2_with fail
 go_loopw [15] (fun y wr => ∃ (k : Nat), k ≤ 3 ∧ y = .int .i64 k ∧ (∀ j, j < k → numOk (NS.getD j 0) = true) ∧ wr = V) (fun y _ => 3 - (intOf y).toNat)
 case atStart => exact ⟨0, by omega, rfl, fun j hj => by omega, rfl⟩
 case round =>
  obtain ⟨k, hk, rfl, hall, hwv⟩ := hrel
  subst hwv
  have HA := hid hall
  clear hall
  by_cases hlt : k < 3
  ·have hcell := HN.out k hlt
   have HD := hid (show ∀ j, j < k + 1 → numOk (NS.getD k 0) = true → numOk (NS.getD j 0) = true from fun j hj h => by
    rcases Nat.lt_or_ge j k with h' | h'
    ·exact HA.out j h'
    ·obtain rfl : j = k := by omega
     exact h)
   have HF : Hid (numOk (NS.getD k 0) = false → rightV q.rq = false) := fun h => by
    rw [HRV.out]
    have : ((List.range 3).all fun k => numOk (NS.getD k 0)) = false := by
     rw [List.all_eq_false]
     exact ⟨k, List.mem_range.2 hlt, fun hh => by rw [h] at hh; cases hh⟩
    rw [this]; rfl
   generalize NS.getD k 0 = nd at *
   by_cases h0 : nd < 0
   ·have HF2 := hid (HF.out (by unfold numOk; simp; omega))
    go_wp2_with fail
    go_ret
    exact ⟨by rw [HF2.out]; rfl, HVB.out⟩
   ·by_cases h1 : 2147483647 < nd
    ·have HF2 := hid (HF.out (by unfold numOk; simp; omega))
     go_wp2_with fail
     go_ret
     exact ⟨by rw [HF2.out]; rfl, HVB.out⟩
    ·have HOK : Hid (numOk nd = true) := by show _ = _; unfold numOk; simp; omega
     go_wp2_with fail
     go_roundw
     case rel =>
      first
       | exact ⟨k + 1, by omega, by go_num, fun j hj => HD.out j hj HOK.out, by trivial⟩
       | ((repeat apply Exists.intro); exact ⟨⟨k + 1, by omega, by go_num, fun j hj => HD.out j hj HOK.out, by trivial⟩, rfl⟩)
     case measure => simp [intOf]; omega
  ·obtain rfl : k = 3 := by omega
   have HNT : Hid (((List.range 3).all fun k => numOk (NS.getD k 0)) = true) := by
    show _ = _
    rw [List.all_eq_true]
    exact fun j hj => HA.out j (List.mem_range.1 hj)
   rw [HNT.out] at HRV
   clear HNT HA HN
   have c4 := cell_of_block (j := 4) HVX.out (qr4 q)
   obtain ⟨ka, hka⟩ : ∃ ka, q.its.a = ka := ⟨_, rfl⟩
   rw [hka] at c4
   have HKA := hid hka; clear hka
   obtain ⟨n, hqn⟩ : ∃ n, q.its.n = n := ⟨_, rfl⟩
   rw [hqn] at c4 hnm HL
   have HQN := hid hqn; clear hqn
   go_wp2_with fail
   have c4' := hid c4
   clear c4
   go_loopw [29] (fun y wr => ∃ (k : Nat), k ≤ n ∧ y = .int .i64 k ∧ (q.items.take k).all (fun x => rightI x.rq) = true ∧ Below b w wr ∧ b + 2 ≤ wr.heap.size ∧ q.ok wr ∧ wr.heap[b]? = some (.cells q.arr 32 (0, 0))) (fun y _ => n - (intOf y).toNat)
   case atStart => exact ⟨0, Nat.zero_le _, rfl, by simp, HVB.out, by rw [HVZ.out]; omega, HVQ.out, HVX.out⟩
   case round =>
    clear HVB HVZ HVQ HVX
    obtain ⟨k, hk, rfl, hall, hb, hwb, hs, hbx⟩ := hrel
    have HB := hid hb; have HS := hid hs; have HA := hid hall; have HWB := hid hwb; have HBX := hid hbx
    clear hb hs hall hwb hbx
    by_cases hlt : k < n
    ·obtain ⟨bx, ox, x, hax, hx, hrow⟩ := HS.out.its.rqrow (k := k) (by have := HQN.out; omega)
     rw [HKA.out] at hax
     subst hax
     have HX : Hid (q.items[k]? = some x) := hx
     have HXO := hid (HS.out.each x (List.mem_of_getElem? hx))
     have HT : Hid ((q.items.take (k + 1)).all (fun x => rightI x.rq) = ((q.items.take k).all (fun x => rightI x.rq) && rightI x.rq)) := by
      show _ = _
      rw [List.take_add_one, hx, List.all_append]; simp
     have HR := hid hrow
     clear hx hrow
     go_upto_region 10 with (first | (refine wpList_load_mid rfl 41 _ rfl bx (ox + k * 8) rfl x.arr.toList _ HR.out Tryd.underlying41 rfl qSize ?_; simp only [Array.toArray_toList]) | (refine wpList_alloc_obj rfl 41 rfl _ qZero ?_) | (refine wpList_store_obj rfl 41 _ _ rfl wr.heap.size rfl _ rfl _ _ (block_new wr _) rfl qSize (qarr_one x) ?_; intro w5 hb5 hc5 hs5; have HB5 := hid hb5; have HC5 := hid hc5; have HS5 := hid hs5; clear hb5 hc5 hs5))
     have hbel : Below wr.heap.size wr w5 := ((Below.refl _ wr).alloc (Nat.le_refl _) _).trans (HC5.out.below (fun k hk => by rw [List.mem_singleton.1 hk]; exact Nat.le_refl _) (by simp))
     have HB2 := hid (HB.out.trans (hbel.mono (by have := HWB.out; omega))); have HS2 := hid (HS.out.below hbel)
     have HWB2 := hid (Nat.le_trans HWB.out hbel.size)
     have HBX2 := hid ((hbel.block _ (block_lt HBX.out)).trans HBX.out)
     have HXO2 := hid (HXO.out.below hbel)
     clear hbel HC5 HS5 HR HB HS HBX HXO
     generalize wr.heap.size = z at *
     go_wp2_with (refine wpList_load_row rfl 41 _ rfl z rfl _ _ _ _ HB5.out Tryd.underlying41 rfl qSize ?_)
     refine (right_any x _ HXO2.out).mono ?_
     rintro e w6 ⟨rfl, hb6⟩
     have HB6 := hid (HB2.out.trans (hb6.mono (by have := HWB2.out; omega))); have HS6 := hid (HS2.out.below hb6)
     have HWB6 := hid (Nat.le_trans HWB2.out hb6.size)
     have HBX6 := hid ((hb6.block _ (block_lt HBX2.out)).trans HBX2.out)
     clear hb6 HB2 HS2 HBX2 HXO2 HB5
     cases hr : rightI x.rq with
     | true =>
      go_wp2_with fail
      go_roundw
      case rel =>
       have h3 : (q.items.take (k + 1)).all (fun x => rightI x.rq) = true := by rw [HT.out, HA.out, hr]; rfl
       first
        | exact ⟨k + 1, by omega, by go_num, h3, HB6.out, HWB6.out, HS6.out, HBX6.out⟩
        | ((repeat apply Exists.intro); exact ⟨⟨k + 1, by omega, by go_num, h3, HB6.out, HWB6.out, HS6.out, HBX6.out⟩, rfl⟩)
      case measure => simp [intOf]; omega
     | false =>
      have h3 : rightV q.rq = false := by
       rw [HRV.out]
       have : q.items.all (fun x => rightI x.rq) = false := by
        rw [List.all_eq_false]
        exact ⟨x, List.mem_of_getElem? HX.out, by simp [hr]⟩
       rw [this]; rfl
      have H3 := hid h3
      clear h3
      go_wp2_with fail
      go_ret
      exact ⟨by rw [H3.out]; rfl, HB6.out⟩
    ·obtain rfl : k = n := by omega
     have HA2 : Hid (q.items.all (fun x => rightI x.rq) = true) := by
      have := HA.out
      rwa [List.take_of_length_le (by have := HL.out; omega)] at this
     have c3 := cell_of_block (j := 3) HBX.out (qr3 q)
     have c4 := cell_of_block (j := 4) HBX.out (qr4 q)
     by_cases h1 : 1 ≤ q.opt
     ·by_cases h2 : q.opt ≤ 3
      ·go_wp2_with fail
       refine (batch_any q.its q.items _ HS.out.its).mono ?_
       rintro e w7 ⟨rfl, hb7⟩
       have HB7 := hid (HB.out.trans (hb7.mono (by have := HWB.out; omega)))
       clear hb7
       go_wp2_with fail
       go_ret
       exact ⟨by rw [HRV.out, HA2.out]; simp [h1, h2], HB7.out⟩
      ·go_wp2_with fail
       go_ret
       exact ⟨by rw [HRV.out, HA2.out]; simp; intros; omega, HB.out⟩
     ·go_wp2_with fail
      go_ret
      exact ⟨by rw [HRV.out, HA2.out]; simp; intros; omega, HB.out⟩
end Go.Proofs.YtbnbofooofedkaaDoor
