/- ReqsLays: the walk. -/
import Derived.Test.YtbnbofooofedkaaDoorMLb
import Derived.Test.YtbnbofooofedkaaDoorMRef
import Derived.Test.YtbnbofooofedkaaDoorReq8
import Derived.Deep.DeepCutAuto
import Derived.Deep.CutBlock
namespace Go.Proofs.YtbnbofooofedkaaDoor
section
open Go.RowKit
set_option linter.unusedVariables false
set_option linter.unusedSimpArgs false
set_option maxRecDepth 100000
set_option maxHeartbeats 4000000
def stQ1 (x : RqIV) : St Grow := ⟨fun v w => ∃ (s : Sl), v = .slice s.a s.n s.c ∧ s.n = 1 ∧ RdC w s.a (1 * 8) x.cells ∧ (s.a = none → s.c = 0), fun v w w' h hg => let ⟨s, e, h0, h5, h6⟩ := h; ⟨s, e, h0, (Chg.of_below hg []).rdC h5 (fun _ _ _ _ hm => by cases hm), h6⟩⟩
/-- The request in its block, while it is altered. -/
structure RqSt (w W : World) (b pq : Nat) (q : RqV) : Prop where
  blk : W.heap[pq]? = some (.cells q.arr 32 (0, 0))
  own : OwnRq 41 W b q.its q.items
  feet : ∀ x ∈ q.items, ∀ k ∈ x.foot, k ≠ pq
  bel : Below b w W
  lt : b ≤ pq
section
variable {w W W' : World} {b pq : Nat} {q q' : RqV}
theorem RqSt.size (h : RqSt w W b pq q) : b ≤ W.heap.size := Nat.le_trans h.lt (Nat.le_of_lt (block_lt h.blk))
theorem RqSt.okq (h : RqSt w W b pq q) (hn : q.its.n ≤ 1000000) : q.ok W := ownRq_ok h.own hn
theorem RqSt.below (h : RqSt w W b pq q) (hb : Below W.heap.size W W') : RqSt w W' b pq q :=
  ⟨(hb.block _ (block_lt h.blk)).trans h.blk, h.own.below hb, h.feet, h.bel.trans (hb.mono h.size), h.lt⟩
theorem RqSt.notown (h : RqSt w W b pq q) : ∀ k, q.its.v.ownBlock = some k → k ≠ pq := fun k hk he => by
  subst he
  rcases h.own.own.2 with ⟨hv', _⟩ | ⟨g, cap, cur, hv', _, hh, _⟩
  · rw [show q.its.v = Value.slice q.its.a q.its.n q.its.c from rfl, hv'] at hk; simp [Value.ownBlock] at hk
  · rw [show q.its.v = Value.slice q.its.a q.its.n q.its.c from rfl, hv'] at hk
    simp [Value.ownBlock] at hk
    subst hk
    have h1 := h.blk
    rw [hh] at h1
    simp at h1
/-- What the switch leaves. -/
def RqFin (w W : World) (b pq : Nat) : Prop := ∃ q : RqV, W.heap[pq]? = some (.cells q.arr 32 (0, 0)) ∧ q.ok W ∧ q.its.n ≤ 100 ∧ Below b w W
theorem rq_set (h : RqSt w W b pq q ∧ q.its.n ≤ 5) (j : Nat) (v : Value) (hq : q.arr.setIfInBounds j v = q'.arr) (hi : q'.its = q.its) (hl : q'.items = q.items) : RqFin w (W.setCell ⟨pq, j, none⟩ v) b pq := by
  obtain ⟨h, hn⟩ := h
  have hc : Chg [pq] W (W.setCell ⟨pq, j, none⟩ v) := (Chg.refl [pq] W).setCell (.inl (by simp)) _
  have ho := h.own.chg hc (fun k hk hm => h.notown k hk (List.mem_singleton.1 hm)) (fun x hx k hk hm => h.feet x hx k hk (List.mem_singleton.1 hm))
  refine ⟨q', by rw [← hq]; exact block_setCell h.blk v, ?_, by rw [hi]; omega, h.bel.setCell (p := ⟨pq, j, none⟩) h.lt v⟩
  have := ownRq_ok (q := q) ho (by omega)
  exact ⟨by rw [hi, hl]; exact this.its, by rw [hl]; exact this.each⟩
theorem rq_row {g : Nat} {x0 x' : RqIV} {r : List RqIV} (h : RqSt w W b pq q ∧ q.its.n ≤ 5) (hga : q.its.a = some ⟨g, 0, none⟩ ∧ 0 < q.its.n) (hx : q.items = x0 :: r) (j : Nat) (u : Value) (hc : rqCells [x'] = (rqCells [x0]).set j u) (hj : j < 8) (h1 : x'.ids = x0.ids ∧ x'.id = x0.id) (h2 : x'.pay.ds = x0.pay.ds ∧ x'.pay.data = x0.pay.data ∧ x'.pay.ks = x0.pay.ks ∧ x'.pay.kids = x0.pay.kids) : RqFin w (W.setCell ⟨g, j, none⟩ u) b pq := by
  obtain ⟨h, hn⟩ := h
  obtain ⟨hga, hn0⟩ := hga
  have hgo : q.its.v.ownBlock = some g := by rw [show q.its.v = Value.slice q.its.a q.its.n q.its.c from rfl, hga]; rfl
  have hgp := h.notown g hgo
  have hgb := (h.own.own.lt g hgo)
  have hch : Chg [g] W (W.setCell ⟨g, j, none⟩ u) := (Chg.refl [g] W).setCell (.inl (by simp)) _
  have hlen : (rqCells q.items).length = q.its.n * 8 := by rw [rq_len, h.own.len]
  have hrow := h.own.own
  rw [show Value.slice q.its.a q.its.n q.its.c = .slice (some ⟨g, 0, none⟩) q.its.n q.its.c by rw [hga]] at hrow
  have hst := (hrow.stored j u).1
  have hcc : (rqCells q.items).set j u = rqCells (x' :: r) := by
    rw [hx]
    have e1 : rqCells (x0 :: r) = rqCells [x0] ++ rqCells r := by simp [rqCells]
    have e2 : rqCells (x' :: r) = rqCells [x'] ++ rqCells r := by simp [rqCells]
    rw [e1, e2, hc, List.set_append_left _ _ (by simp [rqCells, RqIV.cells, RqIV.arr]; exact hj)]
  rw [hcc] at hst
  have hko : ∀ y ∈ q.items, y.ok (W.setCell ⟨g, j, none⟩ u) := fun y hy => RqIV.ok.keep hch (h.own.ok y hy) (fun k hk hm => by
    have := List.mem_singleton.1 hm
    subst this
    exact h.own.apart y hy k hk hgo)
  refine ⟨{ q with items := x' :: r }, (hch.block pq (block_lt h.blk) (by simp; exact fun e => hgp e.symm)).trans h.blk, ⟨?_, fun y hy => ?_⟩, by simp only; omega, h.bel.setCell (p := ⟨g, j, none⟩) hgb.1 u⟩
  · refine SlR.of_own (s := q.its) (base := b) (e := 41) ?_ (by omega)
    rw [show q.its.v = Value.slice q.its.a q.its.n q.its.c from rfl, hga]
    exact hst
  · rcases List.mem_cons.1 hy with rfl | hy
    · have h0 := hko x0 (by rw [hx]; simp)
      refine ⟨by rw [h1.1, h1.2]; exact h0.ids, ?_⟩
      have hp := ItV.ok_iff.1 h0.pay
      exact ItV.ok_iff.2 ⟨by rw [h2.1, h2.2.1]; exact hp.1, by rw [h2.2.2.1, h2.2.2.2]; exact hp.2.1, by rw [h2.2.2.2]; exact hp.2.2⟩
    · exact hko y (by rw [hx]; simp [hy])
theorem RqSt.push {w8 : World} (h : RqSt w W b pq q) (y : RqIV) (hy : y ∈ q.items) {a : Option Addr} {n c : Nat}
    (ho : w8.ownsRow b 41 8 (.slice a n c) n (rqCells q.items ++ y.cells)) (hg : W.grownBy w8 q.its.v.ownBlock) (hf : (Value.slice a n c).ownBlock = q.its.v.ownBlock ∨ ∀ k, (Value.slice a n c).ownBlock = some k → W.heap.size ≤ k) :
    w8.heap[pq]? = some (.cells q.arr 32 (0, 0)) ∧ RqSt w (w8.setCell ⟨pq, 4, none⟩ (.slice a n c)) b pq { q with its := ⟨a, n, c⟩, items := q.items ++ [y] } := by
  have hmem : ∀ k, k ∈ q.its.v.ownBlock.toList → q.its.v.ownBlock = some k := fun k hk => by
    cases hv : q.its.v.ownBlock with
    | none => rw [hv] at hk; cases hk
    | some z => rw [hv] at hk; simp at hk; rw [hk]
  have hc : Chg q.its.v.ownBlock.toList W w8 := (Chg.refl _ W).grown hg (fun k hk => .inl (by rw [hk]; simp))
  have hp : w8.heap[pq]? = some (.cells q.arr 32 (0, 0)) := (hc.block pq (block_lt h.blk) (fun hm => h.notown pq (hmem pq hm) rfl)).trans h.blk
  have hb8 : Below b W w8 := hc.below (fun k hk => (h.own.own.lt k (hmem k hk)).1) h.size
  have ho2 : w8.ownsRow b 41 8 (.slice a n c) n (rqCells (q.items ++ [y])) := by rw [rq_app]; simpa [rqCells] using ho
  have h8 := h.own.app (Below.refl _ _) y (h.own.ok y hy) (h.own.apart y hy) ho2 hg hf
  have hft : ∀ x ∈ q.items ++ [y], ∀ k ∈ x.foot, k ≠ pq := fun x hx => by
    rcases List.mem_append.1 hx with h' | h'
    · exact h.feet x h'
    · rw [List.mem_singleton.1 h']; exact h.feet y hy
  have hset : Chg [pq] w8 (w8.setCell ⟨pq, 4, none⟩ (.slice a n c)) := (Chg.refl [pq] w8).setCell (.inl (by simp)) _
  refine ⟨hp, block_setCell hp _, h8.chg hset (fun k hk hm => ?_) (fun x hx k hk hm => hft x hx k hk (List.mem_singleton.1 hm)), hft, (h.bel.trans hb8).setCell (p := ⟨pq, 4, none⟩) h.lt _, h.lt⟩
  have := List.mem_singleton.1 hm
  subst this
  rcases hf with h' | h'
  · exact h.notown k (h' ▸ hk) rfl
  · have h1 := h' k hk; have := block_lt h.blk; omega
end
theorem reqsLays_walk (l : List AskD) (a : Option Addr) (n c : Nat) (option most how more : Int) (hmo : -9223372036854775808 ≤ more ∧ more ≤ 9223372036854775807) (w : World) (hal : AskArgs w a n l) (hnt : NamesTab w) (hkt : KindsTab w) :
    Calls Tryd.prog 4 #[.slice a n c, .int .i64 option, .int .i64 most, .int .i64 how, .int .i64 more] w fun e w' => e = .returned (.bool true) ∧ Below w.heap.size w w' := by
  obtain ⟨iq, hiq, hy0, hy1, hy2⟩ := info_parts qInfo
  have HAL := hid hal; have HT := hid hnt; have HK := hid hkt
  clear hal hnt hkt
  generalize hbe : w.heap.size = b
  have HBE := hid hbe; clear hbe
  go_enter Tryd.func4, Tryd.ntmps4
  go_wp2_with fail
  refine (request_any a n c l option most _ HAL.out HT.out HK.out).mono ?_
  rintro e w1 ⟨q, rfl, hq1, hq2, hq3, hqo, hqg, hqf, hb1⟩
  rw [HBE.out] at hb1 hqo
  have HW1 := hid hb1
  have HZ1 : Hid (b ≤ w1.heap.size) := by show b ≤ _; rw [← HBE.out] at hb1 ⊢; exact hb1.size
  have HN5 : Hid (q.its.n ≤ 5) := hq2.2
  have HN1 : Hid (0 < q.its.n) := hq2.1
  have HQO := hid hqo
  have HFT : Hid (∀ x ∈ q.items, ∀ k ∈ x.foot, k < w1.heap.size) := fun x hx => (hqo.ok x hx).lt
  clear hq1 hq2 hq3 hqo hqg hqf hb1
  go_upto_region 2 with (first | (refine wpList_alloc_obj rfl 32 rfl _ vZero ?_) | (refine wpList_store_obj rfl 32 _ _ rfl w1.heap.size rfl q.arr rfl _ _ (block_new w1 _) rfl vSize (varr_one _) ?_; intro w2 hb2 hc2 hs2; have HB_w2 := hid hb2; have HC_w2 := hid hc2; clear hb2 hc2 hs2))
  have hbel : Below w1.heap.size w1 w2 := ((Below.refl _ w1).alloc (Nat.le_refl _) _).trans (HC_w2.out.below (fun k hk => by rw [List.mem_singleton.1 hk]; exact Nat.le_refl _) (by simp))
  have hst : RqSt w w2 b w1.heap.size q := ⟨HB_w2.out, HQO.out.below hbel, (fun x hx k hk he => by have := HFT.out x hx k hk; omega), HW1.out.trans (hbel.mono HZ1.out), HZ1.out⟩
  have HS := hid hst
  clear hbel hst HC_w2 HB_w2 HQO HFT HW1
  generalize w1.heap.size = pq at *
  obtain ⟨g, hga, hgb, hgl⟩ := (own_slice HS.out.own.own).2.2 HN1.out
  have HGA := hid hga
  have HQI : Hid (q.its.a = some ⟨g, 0, none⟩ ∧ 0 < q.its.n) := ⟨hga, HN1.out⟩
  obtain ⟨x0, r0, hx0⟩ : ∃ x0 r0, q.items = x0 :: r0 := by
    cases hq : q.items with
    | nil => have h1 := HS.out.own.len; rw [hq] at h1; have h2 := HN1.out; simp at h1; omega
    | cons x r => exact ⟨x, r, rfl⟩
  have HXC := hid hx0
  have HX0 : Hid (q.items[0]? = some x0) := by show _ = _; rw [hx0]; rfl
  have hfg : ∀ j, w2.frozen? ⟨g, j, none⟩ = false := fun j => by
    rcases HS.out.own.own.2 with ⟨hv, h0⟩ | ⟨g', cap, cur, hv, hg, hh, _⟩
    · have := HN1.out; omega
    · rw [hga] at hv
      simp only [Value.slice.injEq, Option.some.injEq, Addr.mk.injEq] at hv
      obtain ⟨⟨rfl, _, _⟩, _, _⟩ := hv
      simp [World.frozen?, hh]
  have HFG := hid hfg
  have HR0 : Hid (w2.rangeAt g 0 x0.cells) := by
    obtain ⟨b9, o9, v9, h9, hv9, hr9⟩ := (HS.out.own.sl (by have := HN5.out; omega)).rqrow (k := 0) HN1.out
    rw [hga] at h9
    simp only [Option.some.injEq, Addr.mk.injEq] at h9
    obtain ⟨rfl, rfl, _⟩ := h9
    have : v9 = x0 := by rw [hx0] at hv9; exact (Option.some.inj hv9).symm
    subst this
    rw [Nat.zero_mul, Nat.add_zero] at hr9
    exact hr9
  clear hga hgb hgl hx0 hfg
  go_wp2_with fail
  refine (pick_any how 10 _ (by omega) (by omega)).mono ?_
  rintro e u ⟨rfl, rfl⟩
  generalize pick how 10 = pk at *
  go_upto_block 0 with (fail)
  go_cut [] (fun wx => RqFin w wx b pq)
  case first =>
    by_cases e0 : pk = 0
    · subst e0
      have p1 := pick_lo (IntKind.i64.wrap (how.tdiv 9)) 4 (by omega)
      have p2 := pick_hi (IntKind.i64.wrap (how.tdiv 9)) 4 (by omega)
      have c0 := cell_of_block (j := 0) HS.out.blk (qr0 q)
      have hfz : ∀ j, w2.frozen? ⟨pq, j, none⟩ = false := fun j => frozen_of_block HS.out.blk
      go_wp2_with fail
      refine (pick_any _ 4 _ (by omega) (by omega)).mono ?_
      rintro e u ⟨rfl, rfl⟩
      go_wp2_with fail
      go_meet
      exact rq_set (q' := { q with major := wrap64 (pick (wrap64 (how.tdiv 9)) 4 - 1) }) ⟨HS.out, HN5.out⟩ 0 _ rfl rfl rfl
    have n0 : (pk == 0) = false := by simpa using e0
    by_cases e1 : pk = 1
    · subst e1
      have c3 := cell_of_block (j := 3) HS.out.blk (qr3 q)
      have hfz : ∀ j, w2.frozen? ⟨pq, j, none⟩ = false := fun j => frozen_of_block HS.out.blk
      go_wp2_with fail
      refine (pick_any _ 6 _ (by omega) (by omega)).mono ?_
      rintro e u ⟨rfl, rfl⟩
      go_wp2_with fail
      go_meet
      exact rq_set (q' := { q with opt := pick (wrap64 (how.tdiv 9)) 6 }) ⟨HS.out, HN5.out⟩ 3 _ rfl rfl rfl
    have n1 : (pk == 1) = false := by simpa using e1
    by_cases e2 : pk = 2
    · subst e2
      have c4 : w2.cell? ⟨pq, 4, none⟩ = some (.slice (some ⟨g, 0, none⟩) q.its.n q.its.c) := by rw [← HGA.out]; exact cell_of_block (j := 4) HS.out.blk (qr4 q)
      have hfg : ∀ j, w2.frozen? ⟨g, j, none⟩ = false := HFG.out
      have hn1 : 0 < q.its.n := HN1.out
      have hn2 : (0 : Int) < (q.its.n : Int) := by omega
      have c1 : w2.cell? ⟨g, 1, none⟩ = some (.bool x0.has) := HR0.out 1 _ rfl
      go_wp2_with fail
      go_meet
      exact rq_row ⟨HS.out, HN5.out⟩ HQI.out HXC.out (x' := { x0 with has := false }) 1 _ (by simp [rqCells, RqIV.cells, RqIV.arr] <;> rfl) (by decide) ⟨rfl, rfl⟩ ⟨rfl, rfl, rfl, rfl⟩
    have n2 : (pk == 2) = false := by simpa using e2
    by_cases e3 : pk = 3
    · subst e3
      have c4 : w2.cell? ⟨pq, 4, none⟩ = some (.slice (some ⟨g, 0, none⟩) q.its.n q.its.c) := by rw [← HGA.out]; exact cell_of_block (j := 4) HS.out.blk (qr4 q)
      have hfg : ∀ j, w2.frozen? ⟨g, j, none⟩ = false := HFG.out
      have hn1 : 0 < q.its.n := HN1.out
      have hn2 : (0 : Int) < (q.its.n : Int) := by omega
      have c3 : w2.cell? ⟨g, 3, none⟩ = some (.int .i64 x0.pay.tag) := HR0.out 3 _ rfl
      go_wp2_with fail
      go_meet
      exact rq_row ⟨HS.out, HN5.out⟩ HQI.out HXC.out (x' := { x0 with pay := { x0.pay with tag := wrap64 (x0.pay.tag + 1) } }) 3 _ (by simp [rqCells, RqIV.cells, RqIV.arr] <;> rfl) (by decide) ⟨rfl, rfl⟩ ⟨rfl, rfl, rfl, rfl⟩
    have n3 : (pk == 3) = false := by simpa using e3
    by_cases e4 : pk = 4
    · subst e4
      have c2 := cell_of_block (j := 2) HS.out.blk (qr2 q)
      have hfz : ∀ j, w2.frozen? ⟨pq, j, none⟩ = false := fun j => frozen_of_block HS.out.blk
      go_wp2_with fail
      go_meet
      exact rq_set (q' := { q with max := -1 }) ⟨HS.out, HN5.out⟩ 2 _ rfl rfl rfl
    have n4 : (pk == 4) = false := by simpa using e4
    by_cases e5 : pk = 5
    · subst e5
      have c1 := cell_of_block (j := 1) HS.out.blk (qr1 q)
      have hfz : ∀ j, w2.frozen? ⟨pq, j, none⟩ = false := fun j => frozen_of_block HS.out.blk
      go_wp2_with fail
      go_meet
      exact rq_set (q' := { q with minor := more }) ⟨HS.out, HN5.out⟩ 1 _ rfl rfl rfl
    have n5 : (pk == 5) = false := by simpa using e5
    by_cases e6 : pk = 6
    · subst e6
      have c2 := cell_of_block (j := 2) HS.out.blk (qr2 q)
      have hfz : ∀ j, w2.frozen? ⟨pq, j, none⟩ = false := fun j => frozen_of_block HS.out.blk
      go_wp2_with fail
      go_meet
      exact rq_set (q' := { q with max := more }) ⟨HS.out, HN5.out⟩ 2 _ rfl rfl rfl
    have n6 : (pk == 6) = false := by simpa using e6
    by_cases e7 : pk = 7
    · subst e7
      have c4 : w2.cell? ⟨pq, 4, none⟩ = some (.slice (some ⟨g, 0, none⟩) q.its.n q.its.c) := by rw [← HGA.out]; exact cell_of_block (j := 4) HS.out.blk (qr4 q)
      have hfg : ∀ j, w2.frozen? ⟨g, j, none⟩ = false := HFG.out
      have hn1 : 0 < q.its.n := HN1.out
      have hn2 : (0 : Int) < (q.its.n : Int) := by omega
      have c0 : w2.cell? ⟨g, 0, none⟩ = some (.int .i64 x0.op) := HR0.out 0 _ rfl
      go_wp2_with fail
      go_meet
      exact rq_row ⟨HS.out, HN5.out⟩ HQI.out HXC.out (x' := { x0 with op := more }) 0 _ (by simp [rqCells, RqIV.cells, RqIV.arr] <;> rfl) (by decide) ⟨rfl, rfl⟩ ⟨rfl, rfl, rfl, rfl⟩
    have n7 : (pk == 7) = false := by simpa using e7
    by_cases e8 : pk = 8
    · subst e8
      have m1 := pick_lo more 30 (by omega)
      have m2 := pick_hi more 30 (by omega)
      go_wp2_with fail
      go_loopw [12] (fun u wr => ∃ (k : Nat) (s : Sl) (l : List RqIV), (k : Int) ≤ 30 ∧ u = .int .i64 (k : Int) ∧ RqSt w wr b pq { q with its := s, items := l } ∧ 1 ≤ s.n ∧ s.n ≤ 5 + k ∧ l[0]? = some x0) (fun u _ => 30 - (intOf u).toNat)
      case atStart => exact ⟨0, q.its, q.items, by omega, rfl, HS.out, HN1.out, HN5.out, HX0.out⟩
      case round =>
        clear HS HFG HGA HQI HX0 HN1 HN5
        obtain ⟨k, s, l, hk30, rfl, hs, hs1, hs5, hl0⟩ := hrel
        have HS := hid hs; have HS1 := hid hs1; have HS5 := hid hs5; have HL0 := hid hl0
        clear hs hs1 hs5 hl0
        go_wp2_with fail
        refine (pick_any more 30 _ (by omega) (by omega)).mono ?_
        rintro e u ⟨rfl, rfl⟩
        generalize hpm : pick more 30 = pm at *
        by_cases hlt : (k : Int) < pm
        · obtain ⟨sa, sn, sc⟩ := s
          obtain ⟨g2, hga, -, -⟩ := (own_slice HS.out.own.own).2.2 HS1.out
          simp only at hga
          subst hga
          have HRG : Hid (wr.rangeAt g2 0 x0.cells) := by
            obtain ⟨b9, o9, v9, h9, hv9, hr9⟩ := (HS.out.own.sl (by have := HS5.out; simp only at this ⊢; omega)).rqrow (k := 0) HS1.out
            simp only [Option.some.injEq, Addr.mk.injEq] at h9
            obtain ⟨rfl, rfl, _⟩ := h9
            have : v9 = x0 := by have h1 := HL0.out; simp only at hv9; rw [hv9] at h1; exact Option.some.inj h1
            subst this
            rw [Nat.zero_mul, Nat.add_zero] at hr9
            exact hr9
          have HSN : Hid (0 < sn) := HS1.out
          have HXM : Hid (x0 ∈ l) := List.mem_of_getElem? HL0.out
          obtain ⟨cw, hcw⟩ : ∃ c, c = wr.heap.size := ⟨_, rfl⟩
          clear hcw
          go_upto_region 23 with (fail)
          refine wp_region_each 7 [.eq (.pointer (some ⟨pq, 4, none⟩)), .eq (.slice (some ⟨g2, 0, none⟩) sn sc), .eq (.pointer (some ⟨pq, 4, none⟩)), .eq (.slice (some ⟨g2, 0, none⟩) sn sc), .eq (.pointer (some ⟨g2, 0, none⟩)), .eq (.agg x0.arr), stQ1 x0] (by kernel_rfl) (by kernel_rfl) (by kernel_rfl) (by kernel_rfl) ?_ ?_
          · all_goals
              refine each_c (o' := _) ?_ (each_c (o' := _) ?_ (each_c (o' := _) ?_ (each_c (o' := _) ?_ (each_c (o' := _) ?_ (each_c (o' := _) ?_ (each_c (o' := _) ?_ (each_n)))))))
              · intro w1 hg Ar seen
                have s11 := seen.slot 11 (v := .pointer (some ⟨pq, 0, none⟩)) (by kernel_rfl) rfl
                refine does_plain rfl fun K Q' hK => ?_
                go_simp; exact hK _ _ (Grow.refl _) rfl
              · intro w1 hg Ar seen
                obtain ⟨v0, e0, h0⟩ := seen.dep 0 (d := 77) (by kernel_rfl) (by kernel_rfl) rfl
                rcases h0 with rfl
                refine does_plain rfl fun K Q' hK => ?_
                have hc := cell_of_block (j := 4) ((hg.block _ (block_lt HS.out.blk)).trans HS.out.blk) (qr4 _)
                go_simp; exact hK _ _ (Grow.refl _) rfl
              · intro w1 hg Ar seen
                have s11 := seen.slot 11 (v := .pointer (some ⟨pq, 0, none⟩)) (by kernel_rfl) rfl
                refine does_plain rfl fun K Q' hK => ?_
                go_simp; exact hK _ _ (Grow.refl _) rfl
              · intro w1 hg Ar seen
                obtain ⟨v2, e2, h2⟩ := seen.dep 2 (d := 79) (by kernel_rfl) (by kernel_rfl) rfl
                rcases h2 with rfl
                refine does_plain rfl fun K Q' hK => ?_
                have hc := cell_of_block (j := 4) ((hg.block _ (block_lt HS.out.blk)).trans HS.out.blk) (qr4 _)
                go_simp; exact hK _ _ (Grow.refl _) rfl
              · intro w1 hg Ar seen
                obtain ⟨v3, e3, h3⟩ := seen.dep 3 (d := 80) (by kernel_rfl) (by kernel_rfl) rfl
                rcases h3 with rfl
                refine does_plain rfl fun K Q' hK => ?_
                have hn := HSN.out
                go_simp; exact hK _ _ (Grow.refl _) rfl
              · intro w1 hg Ar seen
                obtain ⟨v4, e4, h4⟩ := seen.dep 4 (d := 81) (by kernel_rfl) (by kernel_rfl) rfl
                rcases h4 with rfl
                refine does_plain rfl fun K Q' hK => ?_
                refine wp_load_mid 41 _ rfl g2 0 (by simp [Act.eval, e4]) x0.arr.toList _ (range_later hg HRG.out) Tryd.underlying41 rfl qSize ?_
                simp only [Array.toArray_toList]
                exact hK _ _ (Grow.refl _) rfl
              · intro w1 hg Ar seen
                obtain ⟨v5, e5, h5⟩ := seen.dep 5 (d := 82) (by kernel_rfl) (by kernel_rfl) rfl
                rcases h5 with rfl
                refine does_plain rfl fun K Q' hK => ?_
                refine wp_build_rqH _ 41 _ rfl x0 (by simp [Act.eval, e5] <;> rfl) iq Tryd.underlying30 hiq hy0 hy1 ?_
                exact hK _ _ ((Below.refl _ _).alloc (Nat.le_refl _) _) ⟨⟨some ⟨w1.heap.size, 0, none⟩, 1, 1⟩, rfl, rfl, RdC.new _ _ _ _ x0.cells (by simp [RqIV.cells]) 8 rfl _ rfl, by simp⟩
          intro w1 hg
          refine upon_w' (js := [0, 1, 2, 3, 4, 5, 6]) (by rfl) ?_
          refine upon_c (x := some 77) (by kernel_rfl) rfl fun v0 h0 => ?_
          rcases h0 with rfl
          refine upon_c (x := some 78) (by kernel_rfl) rfl fun v1 h1 => ?_
          rcases h1 with rfl
          refine upon_c (x := some 79) (by kernel_rfl) rfl fun v2 h2 => ?_
          rcases h2 with rfl
          refine upon_c (x := some 80) (by kernel_rfl) rfl fun v3 h3 => ?_
          rcases h3 with rfl
          refine upon_c (x := some 81) (by kernel_rfl) rfl fun v4 h4 => ?_
          rcases h4 with rfl
          refine upon_c (x := some 82) (by kernel_rfl) rfl fun v5 h5 => ?_
          rcases h5 with rfl
          refine upon_c (x := some 83) (by kernel_rfl) rfl fun v6 h6 => ?_
          refine upon_n ?_
          obtain ⟨s1, rfl, hn1, hrd, hno⟩ := h6
          obtain ⟨a1, n1, c1⟩ := s1
          simp only at hn1 hrd hno
          subst hn1
          have HRD := hid hrd; have HNO := hid hno
          have HS' := hid (HS.out.below hg)
          have HZ1 : Hid (b ≤ w1.heap.size) := Nat.le_trans HS.out.size hg.size
          clear hrd hno hg HS HRG
          go_simp
          go_wp2_with (at_builtin; go_must (refine wpList_append_c rfl _ _ 30 rfl b 41 iq _ 8 112 Tryd.underlying30 hiq hy0 hy1 hy2 rfl (by decide) (.slice (some ⟨g2, 0, none⟩) sn sc) sn _ rfl HS'.out.own.own _ 1 _ x0.cells rfl HRD.out (by have := rq_one [x0]; simpa [rqCells] using this) HNO.out (by have h5 : sn ≤ 5 + k := HS5.out; unfold maxLen; omega) (by have h5 : sn ≤ 5 + k := HS5.out; omega) HZ1.out ?_); intro a' c' w8 hown hgw hfr; have hpush := HS'.out.push x0 HXM.out hown hgw hfr; have hq4 := cell_of_block (j := 4) hpush.1 (qr4 _); have hp8 := hid hpush.1; have hfz : ∀ j, w8.frozen? ⟨pq, j, none⟩ = false := (fun j => frozen_of_block hp8.out); have HS8 := hid hpush.2; clear hown hgw hfr hpush hp8)
          have HREL : Hid (∃ (k' : Nat) (s2 : Sl) (l2 : List RqIV), k' = k + 1 ∧ RqSt w (w8.setCell ⟨pq, 4, none⟩ (.slice a' (sn + 1) c')) b pq { q with its := s2, items := l2 } ∧ 1 ≤ s2.n ∧ s2.n ≤ 5 + k' ∧ l2[0]? = some x0) :=
            ⟨k + 1, ⟨a', sn + 1, c'⟩, l ++ [x0], rfl, HS8.out, by simp only; omega, by have := HS5.out; simp only at this ⊢; omega, by rw [List.getElem?_append_left (by have := (List.getElem?_eq_some_iff.1 HL0.out).1; exact this)]; exact HL0.out⟩
          obtain ⟨k', s2, l2, rfl, hq2, hs2, hs3, hh2⟩ := HREL.out
          have HQ2 := hid hq2; have HS2 := hid hs2; have HS3 := hid hs3; have HH2 := hid hh2
          clear HREL hq2 hs2 hs3 hh2
          go_roundw
          case rel =>
            first
              | exact ⟨k + 1, s2, l2, by omega, rfl, HQ2.out, HS2.out, HS3.out, HH2.out⟩
              | exact ⟨k + 1, s2, l2, by omega, by go_num, HQ2.out, HS2.out, HS3.out, HH2.out⟩
          case measure => simp [intOf]; omega
        · go_wp2_with fail
          go_meet
          exact ⟨_, HS.out.blk, HS.out.okq (by have := HS5.out; simp only; omega), by have := HS5.out; simp only; omega, HS.out.bel⟩
    have n8 : (pk == 8) = false := by simpa using e8
    go_wp2_with fail
    go_meet
    exact ⟨q, HS.out.blk, HS.out.okq (by have := HN5.out; omega), by have := HN5.out; omega, HS.out.bel⟩
  case rest =>
    clear HS HFG HGA HQI HX0 HXC HN1 HN5 HR0
    obtain ⟨q, hblk, hqok, hn, hbw⟩ := hcut
    have HBQ := hid hblk; have HQ := hid hqok; have HBW := hid hbw
    have HN : Hid (q.its.n ≤ 1000000) := by show _ ≤ _; omega
    have HSZ : Hid (b ≤ wc.heap.size) := by show b ≤ _; have h1 := hbw.size; have h2 := HBE.out; omega
    clear hblk hqok hn hbw
    go_wp2_with (refine wpList_load_row rfl 32 _ rfl pq rfl _ _ _ _ HBQ.out Tryd.underlying32 rfl vSize ?_)
    refine (rightR_any q _ HQ.out).mono ?_
    rintro e w3 ⟨rfl, hb3⟩
    have HBQ3 := hid ((hb3.block _ (block_lt HBQ.out)).trans HBQ.out); have HQ3 := hid (HQ.out.below hb3); have HBW3 := hid (HBW.out.trans (hb3.mono HSZ.out))
    have HSZ3 : Hid (b ≤ w3.heap.size) := Nat.le_trans HSZ.out hb3.size
    clear hb3 HBQ HQ HBW HSZ
    have HBQ := HBQ3; have HQ := HQ3; have HBW := HBW3; have HSZ := HSZ3
    clear HBQ3 HQ3 HBW3 HSZ3
    cases hrv : rightV q.rq with
    | false =>
      have HRV := hid hrv
      clear hrv
      go_upto_region 25 with (fail)
      refine wp_region_each 18 [.eq (.bool true), .eq (.bool true), .eq (.agg q.arr), .eq (.bool false), .eq (.bool false), .eq (.bool true), .eq (.bool true), .eq (.bool true), .eq (.bool false), .eq (.bool true), .eq (.bool true), .eq undef, .eq undef, .eq undef, .eq undef, .eq undef, .eq (.bool true), .eq (.bool true)] (by kernel_rfl) (by kernel_rfl) (by kernel_rfl) (by kernel_rfl) ?_ ?_
      · all_goals
          refine each_c (o' := _) ?_ (each_c (o' := _) ?_ (each_c (o' := _) ?_ (each_c (o' := _) ?_ (each_c (o' := _) ?_ (each_c (o' := _) ?_ (each_c (o' := _) ?_ (each_c (o' := _) ?_ (each_c (o' := _) ?_ (each_c (o' := _) ?_ (each_c (o' := _) ?_ (each_c (o' := _) ?_ (each_c (o' := _) ?_ (each_c (o' := _) ?_ (each_c (o' := _) ?_ (each_c (o' := _) ?_ (each_c (o' := _) ?_ (each_c (o' := _) ?_ (each_n))))))))))))))))))
          · intro w1 hg Ar seen
            refine does_plain rfl fun K Q' hK => ?_
            go_simp
            refine (known16_any _).mono ?_
            rintro e u ⟨rfl, hb⟩
            exact hK _ _ hb rfl
          · intro w1 hg Ar seen
            obtain ⟨v0, e0, h0⟩ := seen.dep 0 (d := 88) (by kernel_rfl) (by kernel_rfl) rfl
            rcases h0 with rfl
            refine does_plain rfl fun K Q' hK => ?_
            go_simp; exact hK _ _ (Grow.refl _) rfl
          · intro w1 hg Ar seen
            obtain ⟨v1, e1, h1⟩ := seen.dep 1 (d := 89) (by kernel_rfl) (by kernel_rfl) rfl
            rcases h1 with rfl
            have s11 := seen.slot 11 (v := .pointer (some ⟨pq, 0, none⟩)) (by kernel_rfl) rfl
            refine does_on rfl (by kernel_rfl) e1 fun K Q' hK => ?_
            clear e1
            refine wp_load_row 32 _ rfl pq (by simp [Act.eval, s11]) _ _ _ _ ((hg.block _ (block_lt HBQ.out)).trans HBQ.out) Tryd.underlying32 rfl vSize ?_
            exact hK _ _ (Grow.refl _) rfl
          · intro w1 hg Ar seen
            obtain ⟨v2, e2, h2⟩ := seen.dep 2 (d := 90) (by kernel_rfl) (by kernel_rfl) rfl
            rcases h2 with rfl
            obtain ⟨v1, e1, h1⟩ := seen.dep 1 (d := 89) (by kernel_rfl) (by kernel_rfl) rfl
            rcases h1 with rfl
            refine does_on rfl (by kernel_rfl) e1 fun K Q' hK => ?_
            clear e1
            go_simp
            refine (Right_any q _ (HQ.out.below hg)).mono ?_
            rintro e u ⟨rfl, hb⟩
            exact hK _ _ hb (congrArg Value.bool HRV.out)
          · intro w1 hg Ar seen
            obtain ⟨v1, e1, h1⟩ := seen.dep 1 (d := 89) (by kernel_rfl) (by kernel_rfl) rfl
            rcases h1 with rfl
            have s13 := seen.slot 13 (v := .bool false) (by kernel_rfl) rfl
            refine does_on rfl (by kernel_rfl) e1 fun K Q' hK => ?_
            clear e1
            go_simp; exact hK _ _ (Grow.refl _) rfl
          · intro w1 hg Ar seen
            obtain ⟨v3, e3, h3⟩ := seen.dep 3 (d := 91) (by kernel_rfl) (by kernel_rfl) rfl
            rcases h3 with rfl
            obtain ⟨v4, e4, h4⟩ := seen.dep 4 (d := 92) (by kernel_rfl) (by kernel_rfl) rfl
            rcases h4 with rfl
            obtain ⟨v1, e1, h1⟩ := seen.dep 1 (d := 89) (by kernel_rfl) (by kernel_rfl) rfl
            rcases h1 with rfl
            refine does_on rfl (by kernel_rfl) e1 fun K Q' hK => ?_
            clear e1
            go_simp; exact hK _ _ (Grow.refl _) rfl
          · intro w1 hg Ar seen
            obtain ⟨v1, e1, h1⟩ := seen.dep 1 (d := 89) (by kernel_rfl) (by kernel_rfl) rfl
            rcases h1 with rfl
            obtain ⟨v5, e5, h5⟩ := seen.dep 5 (d := 93) (by kernel_rfl) (by kernel_rfl) rfl
            rcases h5 with rfl
            refine does_plain rfl fun K Q' hK => ?_
            go_simp; exact hK _ _ (Grow.refl _) rfl
          · intro w1 hg Ar seen
            obtain ⟨v6, e6, h6⟩ := seen.dep 6 (d := 94) (by kernel_rfl) (by kernel_rfl) rfl
            rcases h6 with rfl
            refine does_plain rfl fun K Q' hK => ?_
            go_simp; exact hK _ _ (Grow.refl _) rfl
          · intro w1 hg Ar seen
            obtain ⟨v7, e7, h7⟩ := seen.dep 7 (d := 95) (by kernel_rfl) (by kernel_rfl) rfl
            rcases h7 with rfl
            have s13 := seen.slot 13 (v := .bool false) (by kernel_rfl) rfl
            refine does_on rfl (by kernel_rfl) e7 fun K Q' hK => ?_
            clear e7
            go_simp; exact hK _ _ (Grow.refl _) rfl
          · intro w1 hg Ar seen
            obtain ⟨v8, e8, h8⟩ := seen.dep 8 (d := 96) (by kernel_rfl) (by kernel_rfl) rfl
            rcases h8 with rfl
            obtain ⟨v7, e7, h7⟩ := seen.dep 7 (d := 95) (by kernel_rfl) (by kernel_rfl) rfl
            rcases h7 with rfl
            refine does_on rfl (by kernel_rfl) e7 fun K Q' hK => ?_
            clear e7
            go_simp; exact hK _ _ (Grow.refl _) rfl
          · intro w1 hg Ar seen
            obtain ⟨v9, e9, h9⟩ := seen.dep 9 (d := 97) (by kernel_rfl) (by kernel_rfl) rfl
            rcases h9 with rfl
            obtain ⟨v7, e7, h7⟩ := seen.dep 7 (d := 95) (by kernel_rfl) (by kernel_rfl) rfl
            rcases h7 with rfl
            refine does_on rfl (by kernel_rfl) e7 fun K Q' hK => ?_
            clear e7
            go_simp; exact hK _ _ (Grow.refl _) rfl
          · intro w1 hg Ar seen
            obtain ⟨v10, e10, h10⟩ := seen.dep 10 (d := 98) (by kernel_rfl) (by kernel_rfl) rfl
            rcases h10 with rfl
            exact does_off rfl (by kernel_rfl) e10 ne_tf (Grow.refl _) rfl
          · intro w1 hg Ar seen
            obtain ⟨v10, e10, h10⟩ := seen.dep 10 (d := 98) (by kernel_rfl) (by kernel_rfl) rfl
            rcases h10 with rfl
            exact does_off rfl (by kernel_rfl) e10 ne_tf (Grow.refl _) rfl
          · intro w1 hg Ar seen
            obtain ⟨v10, e10, h10⟩ := seen.dep 10 (d := 98) (by kernel_rfl) (by kernel_rfl) rfl
            rcases h10 with rfl
            exact does_off rfl (by kernel_rfl) e10 ne_tf (Grow.refl _) rfl
          · intro w1 hg Ar seen
            obtain ⟨v10, e10, h10⟩ := seen.dep 10 (d := 98) (by kernel_rfl) (by kernel_rfl) rfl
            rcases h10 with rfl
            exact does_off rfl (by kernel_rfl) e10 ne_tf (Grow.refl _) rfl
          · intro w1 hg Ar seen
            obtain ⟨v10, e10, h10⟩ := seen.dep 10 (d := 98) (by kernel_rfl) (by kernel_rfl) rfl
            rcases h10 with rfl
            exact does_off rfl (by kernel_rfl) e10 ne_tf (Grow.refl _) rfl
          · intro w1 hg Ar seen
            obtain ⟨v10, e10, h10⟩ := seen.dep 10 (d := 98) (by kernel_rfl) (by kernel_rfl) rfl
            rcases h10 with rfl
            obtain ⟨v15, e15, h15⟩ := seen.dep 15 (d := 103) (by kernel_rfl) (by kernel_rfl) rfl
            rcases h15 with rfl
            obtain ⟨v7, e7, h7⟩ := seen.dep 7 (d := 95) (by kernel_rfl) (by kernel_rfl) rfl
            rcases h7 with rfl
            refine does_on rfl (by kernel_rfl) e7 fun K Q' hK => ?_
            clear e7
            go_simp; exact hK _ _ (Grow.refl _) rfl
          · intro w1 hg Ar seen
            obtain ⟨v7, e7, h7⟩ := seen.dep 7 (d := 95) (by kernel_rfl) (by kernel_rfl) rfl
            rcases h7 with rfl
            obtain ⟨v16, e16, h16⟩ := seen.dep 16 (d := 104) (by kernel_rfl) (by kernel_rfl) rfl
            rcases h16 with rfl
            refine does_plain rfl fun K Q' hK => ?_
            go_simp; exact hK _ _ (Grow.refl _) rfl
      intro w1 hg
      refine upon_w' (js := [0, 1, 2, 3, 4, 5, 6, 7, 8, 9, 10, 11, 12, 13, 14, 15, 16, 17]) (by rfl) ?_
      refine upon_c (x := some 88) (by kernel_rfl) rfl fun v0 h0 => ?_
      rcases h0 with rfl
      refine upon_c (x := some 89) (by kernel_rfl) rfl fun v1 h1 => ?_
      rcases h1 with rfl
      refine upon_c (x := some 90) (by kernel_rfl) rfl fun v2 h2 => ?_
      rcases h2 with rfl
      refine upon_c (x := some 91) (by kernel_rfl) rfl fun v3 h3 => ?_
      rcases h3 with rfl
      refine upon_c (x := some 92) (by kernel_rfl) rfl fun v4 h4 => ?_
      rcases h4 with rfl
      refine upon_c (x := some 93) (by kernel_rfl) rfl fun v5 h5 => ?_
      rcases h5 with rfl
      refine upon_c (x := some 94) (by kernel_rfl) rfl fun v6 h6 => ?_
      rcases h6 with rfl
      refine upon_c (x := some 95) (by kernel_rfl) rfl fun v7 h7 => ?_
      rcases h7 with rfl
      refine upon_c (x := some 96) (by kernel_rfl) rfl fun v8 h8 => ?_
      rcases h8 with rfl
      refine upon_c (x := some 97) (by kernel_rfl) rfl fun v9 h9 => ?_
      rcases h9 with rfl
      refine upon_c (x := some 98) (by kernel_rfl) rfl fun v10 h10 => ?_
      rcases h10 with rfl
      refine upon_c (x := some 99) (by kernel_rfl) rfl fun v11 h11 => ?_
      rcases h11 with rfl
      refine upon_c (x := some 100) (by kernel_rfl) rfl fun v12 h12 => ?_
      rcases h12 with rfl
      refine upon_c (x := some 101) (by kernel_rfl) rfl fun v13 h13 => ?_
      rcases h13 with rfl
      refine upon_c (x := some 102) (by kernel_rfl) rfl fun v14 h14 => ?_
      rcases h14 with rfl
      refine upon_c (x := some 103) (by kernel_rfl) rfl fun v15 h15 => ?_
      rcases h15 with rfl
      refine upon_c (x := some 104) (by kernel_rfl) rfl fun v16 h16 => ?_
      rcases h16 with rfl
      refine upon_c (x := some 105) (by kernel_rfl) rfl fun v17 h17 => ?_
      rcases h17 with rfl
      refine upon_n ?_
      have HE := hid (HBW.out.trans (hg.mono HSZ.out))
      clear hg
      go_simp
      go_wp2_with fail
      go_ret
      exact ⟨rfl, HE.out⟩
    | true =>
      have HRV := hid hrv
      have HPT : Hid (∀ x ∈ q.items, x.pay.tag ≠ 0) := fun x hx => by
        have h := hrv
        unfold rightV RqV.rq at h
        simp only [Bool.and_eq_true, List.all_eq_true, List.mem_map] at h
        have h2 := h.1.1.1.2 x.rq ⟨x, hx, rfl⟩
        unfold rightI RqIV.rq at h2
        rw [ItV.it_eq] at h2
        simp only [Bool.and_eq_true, beq_iff_eq] at h2
        rw [h2.1.1.1.2]; decide
      clear hrv
      go_upto_region 25 with (fail)
      refine wp_region_each 18 [.eq (.bool true), .eq (.bool true), .eq (.agg q.arr), .eq (.bool true), .eq (.bool true), .eq (.bool true), .eq (.bool true), .eq (.bool true), .eq (.bool true), .eq (.bool false), .eq (.bool false), .eq (.agg q.arr), stMade (layV q.rq), .eq (.agg q.arr), stMade (layV q.rq), .eq (.bool true), .eq (.bool true), .eq (.bool true)] (by kernel_rfl) (by kernel_rfl) (by kernel_rfl) (by kernel_rfl) ?_ ?_
      · all_goals
          refine each_c (o' := _) ?_ (each_c (o' := _) ?_ (each_c (o' := _) ?_ (each_c (o' := _) ?_ (each_c (o' := _) ?_ (each_c (o' := _) ?_ (each_c (o' := _) ?_ (each_c (o' := _) ?_ (each_c (o' := _) ?_ (each_c (o' := _) ?_ (each_c (o' := _) ?_ (each_c (o' := _) ?_ (each_c (o' := _) ?_ (each_c (o' := _) ?_ (each_c (o' := _) ?_ (each_c (o' := _) ?_ (each_c (o' := _) ?_ (each_c (o' := _) ?_ (each_n))))))))))))))))))
          · intro w1 hg Ar seen
            refine does_plain rfl fun K Q' hK => ?_
            go_simp
            refine (known16_any _).mono ?_
            rintro e u ⟨rfl, hb⟩
            exact hK _ _ hb rfl
          · intro w1 hg Ar seen
            obtain ⟨v0, e0, h0⟩ := seen.dep 0 (d := 88) (by kernel_rfl) (by kernel_rfl) rfl
            rcases h0 with rfl
            refine does_plain rfl fun K Q' hK => ?_
            go_simp; exact hK _ _ (Grow.refl _) rfl
          · intro w1 hg Ar seen
            obtain ⟨v1, e1, h1⟩ := seen.dep 1 (d := 89) (by kernel_rfl) (by kernel_rfl) rfl
            rcases h1 with rfl
            have s11 := seen.slot 11 (v := .pointer (some ⟨pq, 0, none⟩)) (by kernel_rfl) rfl
            refine does_on rfl (by kernel_rfl) e1 fun K Q' hK => ?_
            clear e1
            refine wp_load_row 32 _ rfl pq (by simp [Act.eval, s11]) _ _ _ _ ((hg.block _ (block_lt HBQ.out)).trans HBQ.out) Tryd.underlying32 rfl vSize ?_
            exact hK _ _ (Grow.refl _) rfl
          · intro w1 hg Ar seen
            obtain ⟨v2, e2, h2⟩ := seen.dep 2 (d := 90) (by kernel_rfl) (by kernel_rfl) rfl
            rcases h2 with rfl
            obtain ⟨v1, e1, h1⟩ := seen.dep 1 (d := 89) (by kernel_rfl) (by kernel_rfl) rfl
            rcases h1 with rfl
            refine does_on rfl (by kernel_rfl) e1 fun K Q' hK => ?_
            clear e1
            go_simp
            refine (Right_any q _ (HQ.out.below hg)).mono ?_
            rintro e u ⟨rfl, hb⟩
            exact hK _ _ hb (congrArg Value.bool HRV.out)
          · intro w1 hg Ar seen
            obtain ⟨v1, e1, h1⟩ := seen.dep 1 (d := 89) (by kernel_rfl) (by kernel_rfl) rfl
            rcases h1 with rfl
            have s13 := seen.slot 13 (v := .bool true) (by kernel_rfl) rfl
            refine does_on rfl (by kernel_rfl) e1 fun K Q' hK => ?_
            clear e1
            go_simp; exact hK _ _ (Grow.refl _) rfl
          · intro w1 hg Ar seen
            obtain ⟨v3, e3, h3⟩ := seen.dep 3 (d := 91) (by kernel_rfl) (by kernel_rfl) rfl
            rcases h3 with rfl
            obtain ⟨v4, e4, h4⟩ := seen.dep 4 (d := 92) (by kernel_rfl) (by kernel_rfl) rfl
            rcases h4 with rfl
            obtain ⟨v1, e1, h1⟩ := seen.dep 1 (d := 89) (by kernel_rfl) (by kernel_rfl) rfl
            rcases h1 with rfl
            refine does_on rfl (by kernel_rfl) e1 fun K Q' hK => ?_
            clear e1
            go_simp; exact hK _ _ (Grow.refl _) rfl
          · intro w1 hg Ar seen
            obtain ⟨v1, e1, h1⟩ := seen.dep 1 (d := 89) (by kernel_rfl) (by kernel_rfl) rfl
            rcases h1 with rfl
            obtain ⟨v5, e5, h5⟩ := seen.dep 5 (d := 93) (by kernel_rfl) (by kernel_rfl) rfl
            rcases h5 with rfl
            refine does_plain rfl fun K Q' hK => ?_
            go_simp; exact hK _ _ (Grow.refl _) rfl
          · intro w1 hg Ar seen
            obtain ⟨v6, e6, h6⟩ := seen.dep 6 (d := 94) (by kernel_rfl) (by kernel_rfl) rfl
            rcases h6 with rfl
            refine does_plain rfl fun K Q' hK => ?_
            go_simp; exact hK _ _ (Grow.refl _) rfl
          · intro w1 hg Ar seen
            obtain ⟨v7, e7, h7⟩ := seen.dep 7 (d := 95) (by kernel_rfl) (by kernel_rfl) rfl
            rcases h7 with rfl
            have s13 := seen.slot 13 (v := .bool true) (by kernel_rfl) rfl
            refine does_on rfl (by kernel_rfl) e7 fun K Q' hK => ?_
            clear e7
            go_simp; exact hK _ _ (Grow.refl _) rfl
          · intro w1 hg Ar seen
            obtain ⟨v8, e8, h8⟩ := seen.dep 8 (d := 96) (by kernel_rfl) (by kernel_rfl) rfl
            rcases h8 with rfl
            obtain ⟨v7, e7, h7⟩ := seen.dep 7 (d := 95) (by kernel_rfl) (by kernel_rfl) rfl
            rcases h7 with rfl
            refine does_on rfl (by kernel_rfl) e7 fun K Q' hK => ?_
            clear e7
            go_simp; exact hK _ _ (Grow.refl _) rfl
          · intro w1 hg Ar seen
            obtain ⟨v9, e9, h9⟩ := seen.dep 9 (d := 97) (by kernel_rfl) (by kernel_rfl) rfl
            rcases h9 with rfl
            obtain ⟨v7, e7, h7⟩ := seen.dep 7 (d := 95) (by kernel_rfl) (by kernel_rfl) rfl
            rcases h7 with rfl
            refine does_on rfl (by kernel_rfl) e7 fun K Q' hK => ?_
            clear e7
            go_simp; exact hK _ _ (Grow.refl _) rfl
          · intro w1 hg Ar seen
            obtain ⟨v10, e10, h10⟩ := seen.dep 10 (d := 98) (by kernel_rfl) (by kernel_rfl) rfl
            rcases h10 with rfl
            have s11 := seen.slot 11 (v := .pointer (some ⟨pq, 0, none⟩)) (by kernel_rfl) rfl
            refine does_on rfl (by kernel_rfl) e10 fun K Q' hK => ?_
            clear e10
            refine wp_load_row 32 _ rfl pq (by simp [Act.eval, s11]) _ _ _ _ ((hg.block _ (block_lt HBQ.out)).trans HBQ.out) Tryd.underlying32 rfl vSize ?_
            exact hK _ _ (Grow.refl _) rfl
          · intro w1 hg Ar seen
            obtain ⟨v11, e11, h11⟩ := seen.dep 11 (d := 99) (by kernel_rfl) (by kernel_rfl) rfl
            rcases h11 with rfl
            obtain ⟨v10, e10, h10⟩ := seen.dep 10 (d := 98) (by kernel_rfl) (by kernel_rfl) rfl
            rcases h10 with rfl
            refine does_on rfl (by kernel_rfl) e10 fun K Q' hK => ?_
            clear e10
            go_simp
            refine (Lay_any q _ (HQ.out.below hg) HPT.out HN.out).mono ?_
            rintro e u ⟨v, rfl, h1, h2, -, hb⟩
            exact hK _ _ hb ⟨v, rfl, h1, h2⟩
          · intro w1 hg Ar seen
            obtain ⟨v10, e10, h10⟩ := seen.dep 10 (d := 98) (by kernel_rfl) (by kernel_rfl) rfl
            rcases h10 with rfl
            have s11 := seen.slot 11 (v := .pointer (some ⟨pq, 0, none⟩)) (by kernel_rfl) rfl
            refine does_on rfl (by kernel_rfl) e10 fun K Q' hK => ?_
            clear e10
            refine wp_load_row 32 _ rfl pq (by simp [Act.eval, s11]) _ _ _ _ ((hg.block _ (block_lt HBQ.out)).trans HBQ.out) Tryd.underlying32 rfl vSize ?_
            exact hK _ _ (Grow.refl _) rfl
          · intro w1 hg Ar seen
            obtain ⟨v13, e13, h13⟩ := seen.dep 13 (d := 101) (by kernel_rfl) (by kernel_rfl) rfl
            rcases h13 with rfl
            obtain ⟨v10, e10, h10⟩ := seen.dep 10 (d := 98) (by kernel_rfl) (by kernel_rfl) rfl
            rcases h10 with rfl
            refine does_on rfl (by kernel_rfl) e10 fun K Q' hK => ?_
            clear e10
            go_simp
            refine (layRequest_any q _ (HQ.out.below hg) HN.out).mono ?_
            rintro e u ⟨v, rfl, h1, h2, hb⟩
            exact hK _ _ hb ⟨v, rfl, h1, h2⟩
          · intro w1 hg Ar seen
            obtain ⟨v12, e12, h12⟩ := seen.dep 12 (d := 100) (by kernel_rfl) (by kernel_rfl) rfl
            obtain ⟨v14, e14, h14⟩ := seen.dep 14 (d := 102) (by kernel_rfl) (by kernel_rfl) rfl
            obtain ⟨v10, e10, h10⟩ := seen.dep 10 (d := 98) (by kernel_rfl) (by kernel_rfl) rfl
            rcases h10 with rfl
            refine does_on rfl (by kernel_rfl) e10 fun K Q' hK => ?_
            clear e10
            obtain ⟨x, rfl, g1, g2⟩ := h12
            obtain ⟨y, rfl, g3, g4⟩ := h14
            go_simp
            refine (same6_any x y _ g2 g4).mono ?_
            rintro e u ⟨rfl, hb⟩
            exact hK _ _ hb (congrArg Value.bool (sameI_yes (g1.trans g3.symm)))
          · intro w1 hg Ar seen
            obtain ⟨v10, e10, h10⟩ := seen.dep 10 (d := 98) (by kernel_rfl) (by kernel_rfl) rfl
            rcases h10 with rfl
            obtain ⟨v15, e15, h15⟩ := seen.dep 15 (d := 103) (by kernel_rfl) (by kernel_rfl) rfl
            rcases h15 with rfl
            obtain ⟨v7, e7, h7⟩ := seen.dep 7 (d := 95) (by kernel_rfl) (by kernel_rfl) rfl
            rcases h7 with rfl
            refine does_on rfl (by kernel_rfl) e7 fun K Q' hK => ?_
            clear e7
            go_simp; exact hK _ _ (Grow.refl _) rfl
          · intro w1 hg Ar seen
            obtain ⟨v7, e7, h7⟩ := seen.dep 7 (d := 95) (by kernel_rfl) (by kernel_rfl) rfl
            rcases h7 with rfl
            obtain ⟨v16, e16, h16⟩ := seen.dep 16 (d := 104) (by kernel_rfl) (by kernel_rfl) rfl
            rcases h16 with rfl
            refine does_plain rfl fun K Q' hK => ?_
            go_simp; exact hK _ _ (Grow.refl _) rfl
      intro w1 hg
      refine upon_w' (js := [0, 1, 2, 3, 4, 5, 6, 7, 8, 9, 10, 11, 12, 13, 14, 15, 16, 17]) (by rfl) ?_
      refine upon_c (x := some 88) (by kernel_rfl) rfl fun v0 h0 => ?_
      rcases h0 with rfl
      refine upon_c (x := some 89) (by kernel_rfl) rfl fun v1 h1 => ?_
      rcases h1 with rfl
      refine upon_c (x := some 90) (by kernel_rfl) rfl fun v2 h2 => ?_
      rcases h2 with rfl
      refine upon_c (x := some 91) (by kernel_rfl) rfl fun v3 h3 => ?_
      rcases h3 with rfl
      refine upon_c (x := some 92) (by kernel_rfl) rfl fun v4 h4 => ?_
      rcases h4 with rfl
      refine upon_c (x := some 93) (by kernel_rfl) rfl fun v5 h5 => ?_
      rcases h5 with rfl
      refine upon_c (x := some 94) (by kernel_rfl) rfl fun v6 h6 => ?_
      rcases h6 with rfl
      refine upon_c (x := some 95) (by kernel_rfl) rfl fun v7 h7 => ?_
      rcases h7 with rfl
      refine upon_c (x := some 96) (by kernel_rfl) rfl fun v8 h8 => ?_
      rcases h8 with rfl
      refine upon_c (x := some 97) (by kernel_rfl) rfl fun v9 h9 => ?_
      rcases h9 with rfl
      refine upon_c (x := some 98) (by kernel_rfl) rfl fun v10 h10 => ?_
      rcases h10 with rfl
      refine upon_c (x := some 99) (by kernel_rfl) rfl fun v11 h11 => ?_
      rcases h11 with rfl
      refine upon_c (x := some 100) (by kernel_rfl) rfl fun v12 h12 => ?_
      refine upon_c (x := some 101) (by kernel_rfl) rfl fun v13 h13 => ?_
      rcases h13 with rfl
      refine upon_c (x := some 102) (by kernel_rfl) rfl fun v14 h14 => ?_
      refine upon_c (x := some 103) (by kernel_rfl) rfl fun v15 h15 => ?_
      rcases h15 with rfl
      refine upon_c (x := some 104) (by kernel_rfl) rfl fun v16 h16 => ?_
      rcases h16 with rfl
      refine upon_c (x := some 105) (by kernel_rfl) rfl fun v17 h17 => ?_
      rcases h17 with rfl
      refine upon_n ?_
      have HE := hid (HBW.out.trans (hg.mono HSZ.out))
      clear hg
      go_simp
      go_wp2_with fail
      go_ret
      exact ⟨rfl, HE.out⟩
end
end Go.Proofs.YtbnbofooofedkaaDoor
