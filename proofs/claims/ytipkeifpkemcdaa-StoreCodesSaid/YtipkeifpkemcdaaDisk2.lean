/- disk: New, Write, Flush, Crash, Read, Pending. -/
import Derived.Test.YtipkeifpkemcdaaDisk
namespace Go.Proofs.Ytipkeifpkemcdaa
open Go.RowKit
set_option linter.unusedVariables false
set_option linter.unusedSimpArgs false
set_option maxRecDepth 100000
set_option maxHeartbeats 1000000

theorem mem_own {v : Value} {k : Nat} : k ∈ v.ownBlock.toList ↔ v.ownBlock = some k := by simp

/-- A row of a writer's own, grown by an element: the disk's or another's. -/
theorem grown_new {w w1 w2 : World} {v : Value} {p : Nat} {C : Array Value} {T : TypeId} (hblk : w.heap[p]? = some (.cells C T (0, 0))) (hb : Below w.heap.size w w1) (hg : w1.grownBy w2 v.ownBlock) (hne : ∀ g, v.ownBlock = some g → g ≠ p) :
    w2.heap[p]? = some (.cells C T (0, 0)) := by
  have hp := block_lt hblk
  have := hb.size
  rw [hg.block p (by omega) (fun e => hne p e.symm rfl), hb.block p hp]; exact hblk

/-- One more write pends. -/
theorem DkAt.pended {w w1 w2 : World} {p S nS cS nQ cQ : Nat} {aQ : Option Addr} {xs qs : List (Value × Value)} {D D1 : List Nat} {s : DSt} {a' : Option Addr} {c' k : Nat} {v : Value} {d : List UInt8}
    (h : DkAt w p S nS cS aQ nQ cQ xs qs D s) (hb : Below w.heap.size w w1) (hv : Dat w1 D1 v d) (hD1 : ∀ q ∈ D1, w.heap.size ≤ q ∧ q < w1.heap.size) (hk : k < nS)
    (ho : w2.ownsRow 0 99 2 (.slice a' (nQ + 1) c') (nQ + 1) (pairs qs ++ [.int .i64 (k : Int), v])) (hg : w1.grownBy w2 (Value.slice aQ nQ cQ).ownBlock)
    (hn : (Value.slice a' (nQ + 1) c').ownBlock = (Value.slice aQ nQ cQ).ownBlock ∨ ∀ q, (Value.slice a' (nQ + 1) c').ownBlock = some q → w1.heap.size ≤ q) :
    ∃ F', Dk (w2.setCell ⟨p, 1, none⟩ (.slice a' (nQ + 1) c')) p { s with pend := s.pend ++ [(k, d)] } F' ∧ Chg (foot p S (.slice aQ nQ cQ) D) w (w2.setCell ⟨p, 1, none⟩ (.slice a' (nQ + 1) c')) ∧ Fresh (foot p S (.slice aQ nQ cQ) D) F' w := by
  have hp : p < w.heap.size := block_lt h.blk
  have hS := h.Slt
  have hs1 := hb.size
  have hs2 := hg.size
  have hq : ∀ q, (Value.slice aQ nQ cQ).ownBlock = some q → q < w.heap.size := fun q hq => (h.rowQ.lt q hq).2
  have hblk : w2.heap[p]? = _ := grown_new h.blk hb hg (fun g hgo => (h.qne g hgo).1)
  have hne : ∀ g, (Value.slice a' (nQ + 1) c').ownBlock = some g → g ≠ p ∧ g ≠ S ∧ g ∉ D ∧ g ∉ D1 := by
    intro g hgo
    rcases hn with e | e
    · rw [e] at hgo
      refine ⟨(h.qne g hgo).1, (h.qne g hgo).2, fun hm => (h.dd g hm).2.2.1 g hgo rfl, fun hm => ?_⟩
      have := (hD1 g hm).1; have := hq g hgo; omega
    · have hge := e g hgo
      refine ⟨by omega, by omega, fun hm => ?_, fun hm => ?_⟩
      · have := (h.dd g hm).2.2.2; omega
      · have := (hD1 g hm).2; omega
  have c12 : Chg (foot p S (.slice aQ nQ cQ) D) w w2 := (Chg.of_below hb _).grown hg (fun q hq' => .inl (by simp [foot, hq']))
  have c2 : Chg (Value.slice aQ nQ cQ).ownBlock.toList w w2 := (Chg.of_below hb _).grown hg (fun q hq' => .inl (by simp [hq']))
  have c2' : Chg (Value.slice aQ nQ cQ).ownBlock.toList w1 w2 := (Chg.refl _ w1).grown hg (fun q hq' => .inl (by simp [hq']))
  have c3 : Chg [p] w2 (w2.setCell ⟨p, 1, none⟩ (.slice a' (nQ + 1) c')) := (Chg.refl [p] w2).setCell (.inl (by simp)) _
  have hDq : Disj D (Value.slice aQ nQ cQ).ownBlock.toList := fun q hq1 hq2 => (h.dd q hq1).2.2.1 q (mem_own.1 hq2) rfl
  have hDp : Disj D [p] := fun q hq1 hq2 => (h.dd q hq1).1 (List.mem_singleton.1 hq2)
  have hD1q : Disj D1 (Value.slice aQ nQ cQ).ownBlock.toList := fun q hq1 hq2 => by have := (hD1 q hq1).1; have := hq q (mem_own.1 hq2); omega
  have hD1p : Disj D1 [p] := fun q hq1 hq2 => by have := (hD1 q hq1).1; have := List.mem_singleton.1 hq2; omega
  have hmore : ∀ q ∈ D, q ∈ D ++ D1 := fun q hq => List.mem_append_left _ hq
  refine ⟨foot p S (.slice a' (nQ + 1) c') (D ++ D1), ⟨S, nS, cS, a', nQ + 1, c', xs, qs ++ [(.int .i64 (k : Int), v)], D ++ D1, ?_, rfl⟩, c12.setCell (.inl (by simp [foot])) _, ?_⟩
  · refine ⟨h.lenS, by simp [h.lenQ], ?_, ?_, ?_, ?_, ?_, h.pS, fun g hgo => ⟨(hne g hgo).1, (hne g hgo).2.1⟩, ?_, h.fuse, h.small⟩
    · have := block_setCell (j := 1) hblk (.slice a' (nQ + 1) c')
      simpa using this
    · refine c3.owns (c2.owns h.rowS ?_) ?_
      · intro q hq1 hq2; cases hq1; exact (h.qne S (mem_own.1 hq2)).2 rfl
      · intro q hq1 hq2; cases hq1; exact h.pS (List.mem_singleton.1 hq2).symm
    · have ho' := c3.owns ho (fun q hq1 hq2 => (hne q hq1).1 (List.mem_singleton.1 hq2))
      rw [pairs_append]
      exact ho'
    · refine h.secs.mono fun x y _ _ hx => ⟨?_, hx.2⟩
      exact ((hx.1.keep c2 hDq).keep c3 hDp).more hmore
    · refine All2.snoc (h.pens.mono fun x y _ _ hx => ⟨hx.1, hx.2.1, ?_⟩) ⟨rfl, hk, ?_⟩
      · exact ((hx.2.2.keep c2 hDq).keep c3 hDp).more hmore
      · exact ((hv.keep c2' hD1q).keep c3 hD1p).more (fun q hq => List.mem_append_right _ hq)
    · intro q hq'
      rcases List.mem_append.1 hq' with hq1 | hq1
      · obtain ⟨a, b, c, e⟩ := h.dd q hq1
        exact ⟨a, b, fun g hgo e' => (hne g hgo).2.2.1 (e' ▸ hq1), by simp [World.setCell]; omega⟩
      · have h1 := hD1 q hq1
        exact ⟨by omega, by omega, fun g hgo e' => (hne g hgo).2.2.2 (e' ▸ hq1), by simp [World.setCell]; omega⟩
  · intro q hq'
    simp only [foot, List.mem_cons, List.mem_append] at hq' ⊢
    rcases hq' with rfl | rfl | hq1 | hq1 | hq1
    · exact .inl (.inl rfl)
    · exact .inl (.inr (.inl rfl))
    · rcases hn with e | e
      · rw [e] at hq1; exact .inl (.inr (.inr (.inl hq1)))
      · right; have := e q (mem_own.1 hq1); omega
    · exact .inl (.inr (.inr (.inr hq1)))
    · right; exact (hD1 q hq1).1
theorem Dat.of_own {w : World} {base n c : Nat} {a : Option Addr} {d : List UInt8} (h : w.ownsRow base 5 1 (.slice a n c) n (d.map B8)) (hn : n ≤ 140737488355328) : Dat w (Value.slice a n c).ownBlock.toList (.slice a n c) d := by
  refine ⟨a, n, c, rfl, RdB.of_own h, (own_slice h).1, (own_slice h).2.1, hn, fun b off sp hb => ?_⟩
  subst hb
  simp [Value.ownBlock]

/-- disk.Write, the place and the data as they may be. -/
theorem write_can (p at_ : Nat) (s : DSt) (F : List Nat) (a : Option Addr) (c : Nat) (d : List UInt8) (w : World) (h : Dk w p s F) (hr : RdB w a 64 d) (hcn : a = none → c = 0) (hrF : ∀ w1, Chg F w w1 → RdB w1 a 64 d)
    (hat : at_ < s.sec.length) (hc : s.can = true) (hw : s.works < 4611686018427387904) (hpn : s.pend.length < 1099511627776) :
    Calls Try.prog 102 #[.pointer (some ⟨p, 0, none⟩), .int .i64 at_, .slice a 64 c] w fun e w' => e = .returned (.int .i64 0) ∧ Chg F w w' ∧ ∃ F', Dk w' p (s.write at_ d) F' ∧ Fresh F F' w := by
  obtain ⟨iw, hi, hz0, hz1, hz2⟩ := info_parts dInfoW
  have H := hid h
  obtain ⟨S, nS, cS, aQ, nQ, cQ, xs, qs, D, hd, hF⟩ := h
  have h0 := hd.cell0
  have hlen := hd.lenSec
  have hatn : at_ < nS := by omega
  have HR := hid hr; have HN := hid hcn; have HRF := hid hrF
  have HAT := hid hat
  clear hd hF hlen hr hcn hrF hat
  have HC := hid hc; clear hc
  go_enter Try.func102, Try.ntmps102
  go_wp2_with fail
  refine (work_can p s F _ H.out HC.out hw).mono ?_
  rintro e w1 ⟨rfl, hd1, hc1⟩
  have HD1 := hid hd1; have HC1 := hid hc1; clear hd1 hc1
  obtain ⟨S1, nS1, cS1, aQ1, nQ1, cQ1, xs1, qs1, D1, hd, hF⟩ := HD1.out
  have h1 := hd.cell1
  have hz1' := hd.fz 1
  have hatn1 : at_ < nS1 := by
    have h2 := hd.lenSec
    have h3 : s.work.sec = s.sec := by unfold DSt.work; split <;> rfl
    rw [h3] at h2; have := HAT.out; omega
  have hq1 : nQ1 < 1099511627776 := by
    have h2 := hd.lenPend
    have h3 : s.work.pend = s.pend := by unfold DSt.work; split <;> rfl
    rw [h3] at h2; omega
  have HK := hid hd; have HFF := hid hF
  have HR1 := hid (HRF.out _ HC1.out)
  clear hd hF h0 H
  go_wp2_with fail
  go_region_law (first
    | (refine step_append_c rfl _ _ 83 rfl 0 99 iw _ 2 32 Try.underlying83 hi hz0 hz1 hz2 rfl (by decide) (.slice aQ1 nQ1 cQ1) nQ1 _ rfl (((Chg.of_below (w := w1) HB2.out []).alloc _).owns HK.out.rowQ (fun q hq hm => by cases hm)) _ 1 _ [.int .i64 (at_ : Int), .slice a2 64 c2] rfl (RdC.new w2 _ _ _ _ rfl 2 rfl _ rfl) (by intro u hu; simp at hu; rcases hu with rfl | rfl <;> rfl) (by simp) (by unfold maxLen; omega) (by omega) (Nat.zero_le _) ?_
       intro a' c' w' ho hg hn
       have hB3 := HB2.out.alloc HB2.out.size (.cells #[.int .i64 (at_ : Int), .slice a2 64 c2] 99 (0, 0))
       have hblk3 := grown_new HK.out.blk hB3 hg (fun g hgo => (HK.out.qne g hgo).1)
       have hc3 := cell_of_block (j := 1) hblk3 rfl
       have hz3 := frozen_of_block (j := 1) hblk3
       have HO := hid ho; have HG := hid hg; have HNN := hid hn; have HB3 := hid hB3
       clear ho hg hn hB3 hblk3)
    | (go_simp
       go_at_call 93
       refine (clone_any _ 64 _ d _ HR1.out.drew (by omega) HN.out).mono ?_
       rintro e w2 ⟨a2, c2, rfl, ho2, hb2⟩
       have HO2 := hid ho2
       have HB2 := hid (show Below w1.heap.size w1 w2 from ⟨hb2.os, hb2.tape, hb2.output, hb2.size, hb2.block⟩)
       have h1b := (hb2.cell (p := ⟨p, 1, none⟩) (block_lt HK.out.blk)).trans h1
       have h1c := fun o => cell_alloc h1b o
       clear ho2 hb2))
  all_goals
    try go_wp2_with fail
    go_ret
    have hwp : s.work.pend = s.pend := by unfold DSt.work; split <;> rfl
    have hv := (Dat.of_own HO2.out (by omega)).keep (G := []) (Chg.of_below (Below.refl _ _) [] |>.alloc (.cells #[.int .i64 (at_ : Int), .slice a2 64 c2] 99 (0, 0))) (fun _ _ h => by cases h)
    have hD1 : ∀ q ∈ (Value.slice a2 64 c2).ownBlock.toList, w1.heap.size ≤ q ∧ q < (w2.alloc (.cells #[.int .i64 (at_ : Int), .slice a2 64 c2] 99 (0, 0))).heap.size := by
      intro q hq
      have := HO2.out.lt q (mem_own.1 hq)
      exact ⟨this.1, by simp; omega⟩
    obtain ⟨F', hdk, hch, hfr⟩ := HK.out.pended HB3.out hv hD1 hatn1 HO.out HG.out (HNN.out.imp id (fun h q hq => by have := h q hq; exact this))
    rw [hwp] at hdk
    have hsz := HC1.out.size
    rw [← HFF.out] at hch hfr
    refine ⟨rfl, HC1.out.trans hch (fun q hq => .inl hq), F', ?_, ?_⟩
    · unfold DSt.write
      rw [if_pos HC.out]
      exact hdk
    · intro q hq
      rcases hfr q hq with h | h
      · exact .inl h
      · exact .inr (by omega)
end Go.Proofs.Ytipkeifpkemcdaa
