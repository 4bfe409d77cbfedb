/- ReqsBack: the walk. -/
import Derived.Test.YtbnbofooofedkaaDoorMReq
import Derived.Test.YtbnbofooofedkaaDoorMRef
import Derived.Test.YtbnbofooofedkaaDoorReq7
import Derived.Test.YtbnbofooofedkaaDoorReq9
namespace Go.Proofs.YtbnbofooofedkaaDoor
section
open Go.RowKit
set_option linter.unusedVariables false
set_option linter.unusedSimpArgs false
set_option maxRecDepth 100000
set_option maxHeartbeats 4000000
theorem made_right {w : World} {q : RqV} (hn : q.major = 1 ∧ q.minor = 4 ∧ (0 ≤ q.max ∧ q.max ≤ 3099) ∧ 1 ≤ q.opt ∧ q.opt ≤ 3) (hl : 1 ≤ q.its.n ∧ q.its.n ≤ 5) (hh : q.its.n = 1 ∨ ∀ x ∈ q.items, x.has = true) (hs : SlR w q.its 8 (rqCells q.items)) (hg : ∀ x ∈ q.items, QGood x) : rightV q.rq = true := by
  have hlen := hs.qlen
  obtain ⟨h1, h2, ⟨h3, h4⟩, h5, h6⟩ := hn
  unfold rightV batchV numOk RqV.rq
  simp only [Bool.and_eq_true, decide_eq_true_eq, List.all_eq_true, List.length_map, List.mem_map, Bool.or_eq_true]
  refine ⟨⟨⟨⟨⟨⟨⟨by omega, by omega⟩, ⟨by omega, by omega⟩⟩, ⟨by omega, by omega⟩⟩, fun y hy => ?_⟩, h5⟩, h6⟩, ⟨fun y hy => ?_, by omega⟩, by omega⟩
  · obtain ⟨x, hx, rfl⟩ := hy
    obtain ⟨⟨g0, g1⟩, g2, g3, g4, g5, g6, g7, g8, _⟩ := hg x hx
    unfold rightI RqIV.rq
    rw [ItV.it_eq]
    simp only [g4, g5, g6, g7]
    rcases g2 with g2 | g2
    · simp [g2, g0]; omega
    · simp [g2, g0]; omega
  · obtain ⟨x, hx, rfl⟩ := hy
    rcases hh with h | h
    · left; omega
    · right; exact h x hx
theorem ownRq_ok {T : TypeId} {w : World} {b : Nat} {q : RqV} (h : OwnRq T w b q.its q.items) (hn : q.its.n ≤ 1000000) : q.ok w := ⟨h.sl (by omega), h.ok⟩
theorem reqsBack_walk (l : List AskD) (a : Option Addr) (n c : Nat) (option most : Int) (w : World) (hal : AskArgs w a n l) (hnt : NamesTab w) (hkt : KindsTab w) :
    Calls Tryd.prog 5 #[.slice a n c, .int .i64 option, .int .i64 most] w fun e w' => e = .returned (.bool true) ∧ Below w.heap.size w w' := by
  have HAL := hid hal; have HT := hid hnt; have HK := hid hkt
  clear hal hnt hkt
  generalize hbe : w.heap.size = b
  have HBE := hid hbe; clear hbe
  go_enter Tryd.func5, Tryd.ntmps5
  go_wp2_with fail
  refine (request_any a n c l option most _ HAL.out HT.out HK.out).mono ?_
  rintro e w1 ⟨q, rfl, hq1, hq2, hq3, hqo, hqg, hqf, hb1⟩
  have hok := ownRq_ok hqo (by omega)
  have HRV := hid (made_right hq1 hq2 hq3 hok.its hqg)
  have HQ := hid hok
  have HN : Hid (q.its.n ≤ 1000000) := by show _ ≤ _; omega
  have HPT : Hid (∀ x ∈ q.items, x.pay.tag ≠ 0) := fun x hx => by rw [(hqg x hx).2.2.2.1]; decide
  rw [HBE.out] at hb1
  have HW1 := hid hb1
  have HZ1 : Hid (b ≤ w1.heap.size) := by show b ≤ _; rw [← HBE.out] at hb1 ⊢; exact hb1.size
  clear hq1 hq2 hq3 hqo hqg hqf hb1 hok
  go_upto_region 2 with (first | (refine wpList_alloc_obj rfl 32 rfl _ vZero ?_) | (refine wpList_store_obj rfl 32 _ _ rfl w1.heap.size rfl q.arr rfl _ _ (block_new w1 _) rfl vSize (varr_one _) ?_; intro w2 hb2 hc2 hs2; have HB_w2 := hid hb2; have HC_w2 := hid hc2; clear hb2 hc2 hs2))
  have hbel : Below w1.heap.size w1 w2 := ((Below.refl _ w1).alloc (Nat.le_refl _) _).trans (HC_w2.out.below (fun k hk => by rw [List.mem_singleton.1 hk]; exact Nat.le_refl _) (by simp))
  have HQ2 := hid (HQ.out.below hbel); have HW2 := hid (HW1.out.trans (hbel.mono HZ1.out))
  have HZ2 : Hid (b ≤ w2.heap.size) := Nat.le_trans HZ1.out hbel.size
  clear hbel HC_w2 HQ HW1 HZ1
  generalize w1.heap.size = pq at *
  go_wp2_with (refine wpList_load_row rfl 32 _ rfl pq rfl _ _ _ _ HB_w2.out Tryd.underlying32 rfl vSize ?_)
  refine (Lay_any q _ HQ2.out HPT.out HN.out).mono ?_
  rintro e w3 ⟨v, rfl, hvi, hvo, -, hb3⟩
  have HVI := hid hvi; have HVO := hid hvo
  have HB3 := hid ((hb3.block _ (block_lt HB_w2.out)).trans HB_w2.out)
  have HQ3 := hid (HQ2.out.below hb3); have HW3 := hid (HW2.out.trans (hb3.mono HZ2.out))
  have HZ3 : Hid (b ≤ w3.heap.size) := Nat.le_trans HZ2.out hb3.size
  clear hvi hvo hb3 HB_w2 HQ2 HW2 HZ2
  go_wp2_with fail
  refine (read_any v _ HVO.out).mono ?_
  intro e w4 hres
  rw [HVI.out, read_lay q.rq HRV.out] at hres
  obtain ⟨q4, rfl, hqr, hq4, hb4⟩ := hres
  have HQ4 := hid hq4; have HQR := hid hqr
  have HB4 := hid ((hb4.block _ (block_lt HB3.out)).trans HB3.out)
  have HQ3' := hid (HQ3.out.below hb4); have HW4 := hid (HW3.out.trans (hb4.mono HZ3.out))
  have HZ4 : Hid (b ≤ w4.heap.size) := Nat.le_trans HZ3.out hb4.size
  clear hq4 hqr hb4 HB3 HQ3 HW3 HZ3
  go_upto_region 3 with (first | (refine wpList_alloc_obj rfl 32 rfl _ vZero ?_) | (refine wpList_store_obj rfl 32 _ _ rfl w4.heap.size rfl q4.arr rfl _ _ (block_new w4 _) rfl vSize (varr_one _) ?_; intro w5 hb2 hc2 hs2; have HB_w5 := hid hb2; have HC_w5 := hid hc2; clear hb2 hc2 hs2))
  have hbel : Below w4.heap.size w4 w5 := ((Below.refl _ w4).alloc (Nat.le_refl _) _).trans (HC_w5.out.below (fun k hk => by rw [List.mem_singleton.1 hk]; exact Nat.le_refl _) (by simp))
  have HQ5 := hid (HQ4.out.below hbel); have HQ5' := hid (HQ3'.out.below hbel); have HW5 := hid (HW4.out.trans (hbel.mono HZ4.out))
  have HB5 := hid ((hbel.block _ (block_lt HB4.out)).trans HB4.out)
  have HZ5 : Hid (b ≤ w5.heap.size) := Nat.le_trans HZ4.out hbel.size
  clear hbel HC_w5 HQ4 HQ3' HW4 HZ4 HB4
  generalize w4.heap.size = pr at *
  go_wp2_with fail
  refine (known16_any _).mono ?_
  rintro e w6 ⟨rfl, hb6⟩
  have HQ6 := hid (HQ5.out.below hb6); have HQ6' := hid (HQ5'.out.below hb6); have HW6 := hid (HW5.out.trans (hb6.mono HZ5.out))
  have HB6 := hid ((hb6.block _ (block_lt HB5.out)).trans HB5.out); have HB6' := hid ((hb6.block _ (block_lt HB_w5.out)).trans HB_w5.out)
  have HZ6 : Hid (b ≤ w6.heap.size) := Nat.le_trans HZ5.out hb6.size
  clear hb6 HQ5 HQ5' HW5 HZ5 HB5 HB_w5
  go_wp2_with (refine wpList_load_on rfl 32 _ rfl pq rfl _ _ _ _ HB6.out Tryd.underlying32 rfl vSize ?_)
  refine (Right_any q _ HQ6'.out).mono ?_
  rintro e w7 ⟨rfl, hb7⟩
  rw [HRV.out]
  have HQ7 := hid (HQ6.out.below hb7); have HQ7' := hid (HQ6'.out.below hb7); have HW7 := hid (HW6.out.trans (hb7.mono HZ6.out))
  have HB7 := hid ((hb7.block _ (block_lt HB6.out)).trans HB6.out); have HB7' := hid ((hb7.block _ (block_lt HB6'.out)).trans HB6'.out)
  have HZ7 : Hid (b ≤ w7.heap.size) := Nat.le_trans HZ6.out hb7.size
  clear hb7 HQ6 HQ6' HW6 HZ6 HB6 HB6'
  go_wp2_with (first | (refine wpList_load_on rfl 32 _ rfl pq rfl _ _ _ _ HB7.out Tryd.underlying32 rfl vSize ?_) | (refine wpList_load_on rfl 32 _ rfl pr rfl _ _ _ _ HB7'.out Tryd.underlying32 rfl vSize ?_))
  refine (sameRq_any q4 q _ HQ7.out HQ7'.out HQR.out).mono ?_
  rintro e w8 ⟨rfl, hb8⟩
  have HW8 := hid (HW7.out.trans (hb8.mono HZ7.out))
  clear hb8
  go_wp2_with fail
  go_ret
  exact ⟨rfl, HW8.out⟩
end
end Go.Proofs.YtbnbofooofedkaaDoor
