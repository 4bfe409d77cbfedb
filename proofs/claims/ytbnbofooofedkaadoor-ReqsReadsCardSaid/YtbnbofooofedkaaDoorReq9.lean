/- law16: small, known. -/
import Derived.Test.YtbnbofooofedkaaDoorReq8
namespace Go.Proofs.YtbnbofooofedkaaDoor
open Go.RowKit
set_option linter.unusedVariables false
set_option linter.unusedSimpArgs false
set_option maxRecDepth 100000
set_option maxHeartbeats 1600000
def smallX (h : Bool) : RqIV := { op := 24, has := h, pay := { tag := 4325497, typ := 1 } }
def smallR (opt : Int) (s : Sl) (l : List RqIV) : RqV := { major := 1, minor := 4, opt := opt, its := s, items := l }
theorem smallX_ok (h : Bool) (w : World) : (smallX h).ok w := ⟨SlC.nil w, ItV.ok.zero w _ _ _⟩
theorem smallX_foot (h : Bool) : (smallX h).foot = [] := rfl
theorem iBuild2 (a b : Int) (w : World) : (Instr.build 27 #[(0, .int .i64 a), (1, .int .i64 b)]).run Tryd.prog w = .ok (.agg (ItV.arr { tag := a, typ := b })) w := by kernel_rfl
theorem qBuild2 (op : Int) (p : ItV) (w : World) : (Instr.build 41 #[(0, .int .i64 op), (3, .agg p.arr)]).run Tryd.prog w = .ok (.agg (RqIV.arr { op := op, pay := p })) w := by kernel_rfl
theorem vBuildS (a b c : Int) (s : Sl) (l : List RqIV) (w : World) : (Instr.build 32 #[(0, .int .i64 a), (1, .int .i64 b), (3, .int .i64 c), (4, .slice s.a s.n s.c)]).run Tryd.prog w = .ok (.agg (RqV.arr { major := a, minor := b, opt := c, its := s, items := l })) w := by kernel_rfl
theorem small_any (w : World) : Calls Tryd.prog 32 #[] w fun e w' => ∃ (g c : Nat), e = .returned (.agg (smallR 2 ⟨some ⟨g, 0, none⟩, 1, c⟩ [smallX false]).arr) ∧ w'.ownsRow w.heap.size 41 8 (.slice (some ⟨g, 0, none⟩) 1 c) 1 (rqCells [smallX false]) ∧ Below w.heap.size w w' := by
 obtain ⟨iq, hiq, hy0, hy1, hy2⟩ := info_parts qInfo
 generalize hbe : w.heap.size = b
 have HBE := hid hbe; clear hbe
 go_enter Tryd.func32, Tryd.ntmps32
 go_upto_region 1 with (refine wpList_alloc_obj rfl 32 rfl _ vZero ?_)
 go_simp
 have hbw : Below w.heap.size w (w.alloc (.cells rvZ.arr 32)) := (Below.refl _ _).alloc (Nat.le_refl _) _
 have hb0 := block_new w (.cells rvZ.arr 32)
 have hsz : (w.alloc (.cells rvZ.arr 32)).heap.size = w.heap.size + 1 := by simp
 rw [HBE.out] at hbw hb0 hsz ⊢
 have HBW := hid hbw; have HB0 := hid hb0; have HSZ := hid hsz
 clear hbw hb0 hsz
 generalize w.alloc (.cells rvZ.arr 32) = W at *
 have HB1 : Hid ((W.alloc (.cells (smallX false).arr 41)).heap[b]? = some (.cells rvZ.arr 32 (0, 0))) := by show _ = _; rw [heap_alloc_old _ _ (block_lt HB0.out)]; exact HB0.out
 go_wp2_with (first | (refine wpList_build_obj rfl 27 _ rfl #[(0, .int .i64 4325497), (1, .int .i64 1)] rfl _ (iBuild2 _ _ _) ?_) | (refine wpList_build_obj rfl 41 _ rfl #[(0, .int .i64 24), (3, .agg (ItV.arr { tag := 4325497, typ := 1 }))] rfl _ (qBuild2 24 { tag := 4325497, typ := 1 } _) ?_) | (refine wpList_build_rq rfl 30 41 _ rfl (smallX false) rfl iq Tryd.underlying30 hiq hy0 hy1 ?_) | (refine wpList_build_obj rfl 32 _ rfl #[(0, .int .i64 1), (1, .int .i64 4), (3, .int .i64 2), (4, .slice (some ⟨W.heap.size, 0, none⟩) 1 1)] rfl _ (vBuildS 1 4 2 ⟨some ⟨W.heap.size, 0, none⟩, 1, 1⟩ [smallX false] _) ?_) | (refine wpList_store_obj rfl 32 _ _ rfl b rfl (smallR 2 ⟨some ⟨W.heap.size, 0, none⟩, 1, 1⟩ [smallX false]).arr rfl _ _ HB1.out rfl vSize (varr_one _) ?_; intro w10 hb10 hc10 hs10; have HB10 := hid hb10; have HC10 := hid hc10; clear hb10 hc10 hs10))
 refine bodyPost_ret (results_cell_row rfl _ _ b _ _ _ _ rfl HB10.out Tryd.underlying32 rfl vSize) rfl ?_
 have ho : (W.alloc (.cells (smallX false).arr 41)).ownsRow b 41 8 (.slice (some ⟨W.heap.size, 0, none⟩) 1 1) 1 (rqCells [smallX false]) := by
  have h := own_built (w := W) (T := 41) (base := b) (size := 8) (n := 1) (C := (smallX false).arr) (by rw [HSZ.out]; omega) rfl (by decide)
  simpa [rqCells, RqIV.cells] using h
 refine ⟨W.heap.size, 1, rfl, HC10.out.owns ho (fun k hk hm => ?_), ?_⟩
 ·simp [Value.ownBlock] at hk
  have := List.mem_singleton.1 hm; have := HSZ.out; omega
 ·exact (HBW.out.alloc (by rw [HSZ.out]; omega) _).trans (HC10.out.below (fun k hk => by rw [List.mem_singleton.1 hk]; exact Nat.le_refl _) (by simp; rw [HSZ.out]; omega))
theorem SlR.take {w : World} {s : Sl} {l : List ItV} (h : SlR w s 5 (itmCells l)) {k : Nat} (hk : k ≤ s.n) : SlR w ⟨s.a, k, s.c⟩ 5 (itmCells (l.take k)) := by
 have hl := h.klen
 have hlen : (itmCells (l.take k)).length = k * 5 := by rw [itm_len, List.length_take, Nat.min_eq_left (by omega)]
 refine ⟨⟨hlen, fun j hj => ?_⟩, h.no, Nat.le_trans hk h.sm, h.lt, Nat.le_trans hk h.nc⟩
 simp only at hj
 obtain ⟨b, off, ha, hc⟩ := h.rd.cell j (by omega)
 refine ⟨b, off, ha, fun i u hu => hc i u ?_⟩
 have hi := (List.getElem?_eq_some_iff.1 hu).1
 rw [← List.take_append_drop k l, itm_app, List.getElem?_append_left hi]
 exact hu
def smallI : RqI := { op := 24, pay := { tag := 4325497, typ := 1 } }
def smallQ : Rq := { major := 1, minor := 4, opt := 2, items := [smallI] }
theorem small_rq (s : Sl) : (smallR 2 s [smallX false]).rq = smallQ := by
 unfold smallR RqV.rq smallQ
 simp only [List.map_cons, List.map_nil]
 unfold RqIV.rq smallX smallI
 rw [it_flat]
theorem known16_any (w : World) : Calls Tryd.prog 10 #[] w fun e w' => e = .returned (.bool true) ∧ Below w.heap.size w w' := by
 go_enter Tryd.func10, Tryd.ntmps10
 go_wp2_with fail
 refine (small_any _).mono ?_
 rintro e w1 ⟨g, c, rfl, ho1, hb1⟩
 have HSO : Hid (RqV.ok w1 (smallR 2 ⟨some ⟨g, 0, none⟩, 1, c⟩ [smallX false])) := ⟨SlR.of_own ho1 (show (1 : Nat) ≤ 1099511627776 by decide), fun x hx => by rw [List.mem_singleton.1 hx]; exact smallX_ok _ _⟩
 have B := hid hb1
 clear ho1 hb1
 go_wp2_with fail
 refine (Lay_any _ _ HSO.out (by simp [smallR, smallX]) (by show 1 ≤ 1000000; decide)).mono ?_
 rintro e w2 ⟨v, rfl, hi, ho, -, hb⟩
 rw [small_rq] at hi
 have HI := hid hi; have HO := hid ho
 have B2 := hid (grow_on B.out hb)
 clear hi ho hb B HSO
 go_upto_region 2 with (first | (refine wpList_alloc_obj rfl 27 rfl _ iZero ?_) | (refine wpList_store_obj rfl 27 _ _ rfl w2.heap.size rfl v.arr rfl _ _ (block_new w2 _) rfl iSize (arr_one v) ?_; intro w3 hb3 hc3 hs3; have HB3 := hid hb3; have HC3 := hid hc3; clear hb3 hc3 hs3))
 have hbel : Below w2.heap.size w2 w3 := ((Below.refl _ w2).alloc (Nat.le_refl _) _).trans (HC3.out.below (fun k hk => by rw [List.mem_singleton.1 hk]; exact Nat.le_refl _) (by simp))
 have HO3 := hid (HO.out.below hbel); have B3 := hid (grow_on B2.out hbel)
 obtain ⟨p, hp⟩ : ∃ p, p = w2.heap.size := ⟨_, rfl⟩
 have HLT : Hid (∀ k ∈ v.foot, k < p) := by show ∀ k ∈ v.foot, k < p; rw [hp]; exact HO.out.lt
 have HPW : Hid (w.heap.size ≤ p) := by show _ ≤ p; rw [hp]; exact B2.out.size
 rw [← hp] at HB3 ⊢
 clear hbel HO B2 HC3 hp
 go_wp2_with (refine wpList_load_row rfl 27 _ rfl p rfl _ _ _ _ HB3.out Tryd.underlying27 rfl iSize ?_)
 refine (read_any v _ HO3.out).mono ?_
 intro e w4 hres
 have hr : readV v.it = .ok smallQ := by rw [HI.out]; kernel_rfl
 rw [hr] at hres
 obtain ⟨q, rfl, hq, hqo, hb⟩ := hres
 have HB4 := hid ((hb.block _ (block_lt HB3.out)).trans HB3.out); have HO4 := hid (HO3.out.below hb); have B4 := hid (grow_on B3.out hb)
 have HQ := hid hq; have HQO := hid hqo
 clear hr hq hqo hb HB3 HO3 B3
 go_upto_region 3 with (first | (refine wpList_alloc_obj rfl 32 rfl _ vZero ?_) | (refine wpList_store_obj rfl 32 _ _ rfl w4.heap.size rfl q.arr rfl _ _ (block_new w4 _) rfl vSize (varr_one q) ?_; intro w5 hb5 hc5 hs5; have HB5 := hid hb5; have HC5 := hid hc5; clear hb5 hc5 hs5))
 have hbel : Below w4.heap.size w4 w5 := ((Below.refl _ w4).alloc (Nat.le_refl _) _).trans (HC5.out.below (fun k hk => by rw [List.mem_singleton.1 hk]; exact Nat.le_refl _) (by simp))
 have HB4' := hid ((hbel.block _ (block_lt HB4.out)).trans HB4.out); have HO5 := hid (HO4.out.below hbel); have B5 := hid (grow_on B4.out hbel)
 have HQO5 := hid (HQO.out.below hbel)
 clear hbel HB4 HO4 B4 HQO HC5
 generalize w4.heap.size = p2 at *
 have hqn : q.its.n = 1 := by
  have h1 := congrArg (fun q : Rq => q.items.length) HQ.out
  have h2 := HQO5.out.its.qlen
  simp only [RqV.rq, List.length_map] at h1
  rw [← h2, h1]; rfl
 obtain ⟨bx, ox, x, hax, hx, hrow⟩ := HQO5.out.its.rqrow (k := 0) (by omega)
 have hxo : x.op = 24 := by
  have h1 := congrArg (fun q : Rq => q.items[0]?) HQ.out
  simp only [RqV.rq, List.getElem?_map, hx, Option.map_some] at h1
  have h2 : some x.rq = some smallI := h1
  exact congrArg RqI.op (Option.some.inj h2)
 have d3 := cell_of_block (j := 3) HB5.out (qr3 q)
 rw [show q.opt = 2 from congrArg Rq.opt HQ.out] at d3
 have d4 := cell_of_block (j := 4) HB5.out (qr4 q)
 rw [hax, hqn] at d4
 have d0 := range_cell hrow 0 (v := .int .i64 x.op) rfl
 rw [hxo, Nat.zero_mul, Nat.add_zero] at d0
 have hkn : v.ks.n = 2 := by
  have h1 := congrArg (fun i : Itm => i.kids.length) HI.out
  have h2 := (ItV.ok_iff.1 HO5.out).2.1.klen
  simp only [ItV.it_eq, List.length_map] at h1
  rw [← h2, h1]; rfl
 have c4 := cell_of_block (j := 4) HB4'.out (ar4 v)
 rw [hkn] at c4
 have HKN := hid hkn
 have hsl : ∀ w, (Instr.slice 25 (.slice v.ks.a 2 v.ks.c) none (some (.int .i64 1)) none).run Tryd.prog w = .ok (.slice v.ks.a 1 v.ks.c) w := fun w => run_slice_front (P := Tryd.prog) 25 27 5 Tryd.underlying25 (fun w => by kernel_rfl) v.ks.a 2 v.ks.c 1 (by have := (ItV.ok_iff.1 HO5.out).2.1.nc; omega) w
 have hfz : ∀ j, w5.frozen? ⟨p, j, none⟩ = false := fun j => frozen_of_block HB4'.out
 clear hqn hax hx hrow hxo hkn
 go_upto_region 6 with (fail)
 clear d0 d3 d4 c4 hsl hfz
 have hcb : Chg [p] w5 (w5.setCell ⟨p, 4, none⟩ (.slice v.ks.a 1 v.ks.c)) := (Chg.refl [p] w5).setCell (.inl (by simp)) _
 have HB6 : Hid ((w5.setCell ⟨p, 4, none⟩ (.slice v.ks.a 1 v.ks.c)).heap[p]? = some (.cells (ItV.arr { v with ks := ⟨v.ks.a, 1, v.ks.c⟩, kids := v.kids.take 1 }) 27 (0, 0))) := block_setCell HB4'.out _
 have ho6 : ItV.ok w5 { v with ks := ⟨v.ks.a, 1, v.ks.c⟩, kids := v.kids.take 1 } :=
  ItV.ok_iff.2 ⟨(ItV.ok_iff.1 HO5.out).1, (ItV.ok_iff.1 HO5.out).2.1.take (by rw [HKN.out]; decide), fun x hx => (ItV.ok_iff.1 HO5.out).2.2 x (List.mem_of_mem_take hx)⟩
 have HO6 := hid (ItV.ok.keep hcb ho6 (fun k hk hm => by
  have h1 := List.mem_singleton.1 hm
  have h2 : k ∈ v.foot := by
   rcases ItV.mem_foot.1 hk with h' | h' | ⟨x, hx, h'⟩
   ·exact ItV.mem_foot.2 (.inl h')
   ·exact ItV.mem_foot.2 (.inr (.inl h'))
   ·exact ItV.mem_foot.2 (.inr (.inr ⟨x, List.mem_of_mem_take hx, h'⟩))
  have := HLT.out k h2
  omega))
 have B6 := hid (B5.out.trans (hcb.below (B := w.heap.size) (fun k hk => by rw [List.mem_singleton.1 hk]; exact HPW.out) B5.out.size))
 have HI6 : Hid (ItV.it { v with ks := ⟨v.ks.a, 1, v.ks.c⟩, kids := v.kids.take 1 } = ofI 4325496 [layHead smallQ]) := by
  show _ = _
  have h1 := HI.out
  rw [ItV.it_eq] at h1 ⊢
  have h2 := congrArg Itm.tag h1; have h3 := congrArg Itm.typ h1; have h4 := congrArg Itm.int h1; have h5 := congrArg Itm.data h1; have h6 := congrArg Itm.kids h1
  simp only at h2 h3 h4 h5 h6
  show Itm.mk v.tag v.typ v.int v.data ((v.kids.take 1).map ItV.it) = _
  rw [h2, h3, h4, h5, List.map_take, h6]
  rfl
 clear hcb ho6 HO5 B5 HB4' HB5 HQO5
 generalize w5.setCell ⟨p, 4, none⟩ (.slice v.ks.a 1 v.ks.c) = w6 at *
 go_wp2_with (refine wpList_load_row rfl 27 _ rfl p rfl _ _ _ _ HB6.out Tryd.underlying27 rfl iSize ?_)
 refine (read_any _ _ HO6.out).mono ?_
 intro e w7 hres
 have hr : readV (ItV.it { v with ks := ⟨v.ks.a, 1, v.ks.c⟩, kids := v.kids.take 1 }) = .error 4 := by rw [HI6.out]; kernel_rfl
 rw [hr] at hres
 obtain ⟨rfl, hb⟩ := hres
 have B7 := hid (grow_on B6.out hb)
 clear hr hb
 go_wp2_with (first | (refine wpList_alloc_obj rfl 32 rfl _ vZero ?_) | (refine wpList_store_obj rfl 32 _ _ rfl w7.heap.size rfl rvZ.arr rfl _ _ (block_new w7 _) rfl vSize (varr_one rvZ) ?_; intro w8 hb8 hc8 hs8; have HC8 := hid hc8; clear hb8 hc8 hs8))
 go_ret
 exact ⟨rfl, B7.out.trans (((Below.refl _ w7).alloc B7.out.size _).trans (HC8.out.below (B := w.heap.size) (fun k hk => by rw [List.mem_singleton.1 hk]; exact B7.out.size) (by simp; exact Nat.le_succ_of_le B7.out.size)))⟩
end Go.Proofs.YtbnbofooofedkaaDoor
